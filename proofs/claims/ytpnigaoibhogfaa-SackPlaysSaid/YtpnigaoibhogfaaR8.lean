/- YtpnigaoibhogfaaR8: a part of the proof: walks over the translated code, and plain facts on lists beside. -/
import Derived.Test.YtpnigaoibhogfaaR7
set_option linter.all false
namespace Go.Proofs.Ytpnigaoibhogfaa
open Go Go.RowKit Go.Sl
set_option linter.unusedVariables false
theorem missing_ii {w0 w : World} {R : HProp} {v : Value} {xs : List Int} (hb : xs.length ≤ 100000) (k : Int) (hS : Sat w0 (sl 3 1 v (xs).length ((xs).map eI) * R) w) :
    Calls Try.prog 23 #[v, eI k] w (ret fun u w' => u = .int .i64 (if cntR O_ii k xs = 0 then 5 else 0) ∧ Sat w0 (sl 3 1 v (xs).length ((xs).map eI) * R) w') := by
  obtain ⟨ad, c, rfl, hle, hcap, _⟩ := sl_form hS
  by_cases h0 : cntR O_ii k xs = 0
  ·
    refine enterF (args := [_, _]) Try.func23 rfl Try.ntmps23 rfl rfl ?_
    refine F_seq ?_
    refine F_region (p := ⟨_, [0], []⟩) rfl [0] rfl ?_
    refine O_assign rfl rfl rfl rfl rfl ?_
    refine R_nil ?_
    refine tn ?_
    refine F_seq ?_
    refine F_seq ?_
    refine F_region (p := ⟨_, [0, 0, 2, 0], []⟩) rfl [0, 1, 2, 3] rfl ?_
    refine O_move rfl rfl rfl rfl rfl ?_
    refine O_move rfl rfl rfl rfl rfl ?_
    refine O_call rfl rfl rfl rfl Try.call12 rfl (rMany_ii sl_rds rfl hb k hS) (fun _ _ hv => trivial) ?_
    rintro _ w ⟨rfl, hS⟩
    refine O_cmp rfl rfl rfl rfl rfl rfl rfl ?_
    refine R_nil ?_
    refine tn ?_
    refine F_true rfl (decide_eq_true h0) ?_
    refine F_seq ?_
    refine F_region (p := ⟨_, [0], []⟩) rfl [0] rfl ?_
    refine O_assign rfl rfl rfl rfl rfl ?_
    refine R_nil ?_
    refine tn ?_
    refine F_ret ?_
    refine tr ?_
    show endF _ _ _ _ _ _
    refine end0 trivial rfl rfl rfl hS ?_
    intro w hS
    exact ⟨by rw [if_pos h0]; rfl, hS⟩
  ·
    refine enterF (args := [_, _]) Try.func23 rfl Try.ntmps23 rfl rfl ?_
    refine F_seq ?_
    refine F_region (p := ⟨_, [0], []⟩) rfl [0] rfl ?_
    refine O_assign rfl rfl rfl rfl rfl ?_
    refine R_nil ?_
    refine tn ?_
    refine F_seq ?_
    refine F_seq ?_
    refine F_region (p := ⟨_, [0, 0, 2, 0], []⟩) rfl [0, 1, 2, 3] rfl ?_
    refine O_move rfl rfl rfl rfl rfl ?_
    refine O_move rfl rfl rfl rfl rfl ?_
    refine O_call rfl rfl rfl rfl Try.call12 rfl (rMany_ii sl_rds rfl hb k hS) (fun _ _ hv => trivial) ?_
    rintro _ w ⟨rfl, hS⟩
    refine O_cmp rfl rfl rfl rfl rfl rfl rfl ?_
    refine R_nil ?_
    refine tn ?_
    refine F_false rfl (decide_eq_false h0) ?_
    refine F_skip ?_
    refine tn ?_
    refine F_seq ?_
    refine F_region (p := ⟨_, [0], []⟩) rfl [0] rfl ?_
    refine O_assign rfl rfl rfl rfl rfl ?_
    refine R_nil ?_
    refine tn ?_
    refine F_ret ?_
    show endF _ _ _ _ _ _
    refine end0 trivial rfl rfl rfl hS ?_
    intro w hS
    exact ⟨by rw [if_neg h0]; rfl, hS⟩
theorem fill_ii {w0 w : World} {R A : HProp} {ad : Option Addr} {n c : Nat} {lim : Int} {xs : List Int} (hA : Rds A ad (xs.map eI)) (hn : xs.length = n) (hl : (n : Int) ≤ lim ∧ lim ≤ 1000) (hS : Sat w0 (A * R) w) :
    Calls Try.prog 21 #[.slice ad n c, .int .i64 lim] w (ret fun u w' => ∃ sb v, u = .tuple #[.pointer (some ⟨sb, 0, none⟩), v, .bool true] ∧ Sat w0 (sackP E_ii O_ii 81 sb (xs.foldl (fun s y => addE O_ii y s) []) lim * (sl 3 1 v ((xs.foldl (fun s y => insR O_ii y s) [])).length (((xs.foldl (fun s y => insR O_ii y s) [])).map eI) * (A * R))) w') := by
  refine enterF (args := [_, _]) Try.func21 rfl Try.ntmps21 rfl rfl ?_
  refine F_seq ?_
  refine F_region (p := ⟨_, [0, 0, 0], []⟩) rfl [0, 1, 2] rfl ?_
  refine O_assign rfl rfl rfl rfl rfl ?_
  refine O_assign rfl rfl rfl rfl rfl ?_
  refine O_assign rfl rfl rfl rfl rfl ?_
  refine R_nil ?_
  refine tn ?_
  refine F_seq ?_
  refine F_region (p := ⟨_, [0, 2, 0, 0, 0, 0, 0], []⟩) rfl [0, 1, 2, 3, 4, 5, 6] rfl ?_
  refine O_move rfl rfl rfl rfl rfl ?_
  refine O_call rfl rfl rfl rfl Try.call9 rfl (sNew_ii (by omega) hl.2 hS) (fun _ _ hv => trivial) ?_
  rintro _ w ⟨sb, rfl, hS⟩
  refine O_move rfl rfl rfl rfl rfl ?_
  refine O_extract rfl rfl rfl rfl rfl rfl ?_
  refine O_extract rfl rfl rfl rfl rfl rfl ?_
  refine O_assign rfl rfl rfl rfl rfl ?_
  refine O_assign rfl rfl rfl rfl rfl ?_
  refine R_nil ?_
  refine tn ?_
  refine F_seq ?_
  refine F_seq ?_
  refine F_region (p := ⟨_, [0, 0, 0, 0, 0, 0], []⟩) rfl [0, 1, 2, 3, 4, 5] rfl ?_
  refine O_move rfl rfl rfl rfl rfl ?_
  refine O_cmp rfl rfl rfl rfl rfl rfl rfl ?_
  refine O_move rfl rfl rfl rfl rfl ?_
  refine R_caseF (t := 19) rfl rfl ?_
  refine O_move rfl rfl rfl rfl rfl ?_
  refine O_eqNil rfl rfl rfl rfl rfl rfl Try.runUnderlying24 ?_
  refine O_pickF rfl rfl rfl rfl rfl rfl ?_
  refine R_nil ?_
  refine tn ?_
  refine F_false rfl rfl ?_
  refine F_skip ?_
  refine tn ?_
  refine F_seq ?_
  refine F_region (p := ⟨_, [0], []⟩) rfl [0] rfl ?_
  refine O_assign rfl rfl rfl rfl rfl ?_
  refine R_nil ?_
  refine tn ?_
  refine F_seq ?_
  refine F_seq ?_
  refine F_region (p := ⟨_, [0, 0, 0], []⟩) rfl [0, 1, 2] rfl ?_
  refine O_move rfl rfl rfl rfl rfl ?_
  refine O_lenSl rfl rfl rfl rfl rfl Try.runUnderlying28 ?_
  refine O_move rfl rfl rfl rfl rfl ?_
  refine R_nil ?_
  refine tn ?_
  refine F_block ?_
  refine F_loop3 (fun (pre _ : List Int) (v : Value) => [(7, .pointer (some ⟨sb, 0, none⟩)), (9, v), (23, .slice ad n c), (24, .int .i64 n), (25, .int .i64 (pre.length : Nat))]) (fun pre post v w => xs = pre ++ post ∧ Sat w0 (sackP E_ii O_ii 81 sb (pre.foldl (fun s y => addE O_ii y s) []) lim * (sl 3 1 v ((pre.foldl (fun s y => insR O_ii y s) [])).length (((pre.foldl (fun s y => insR O_ii y s) [])).map eI) * (A * R))) w) (fun _ post _ => post.length) [] xs (.slice none 0 0) ⟨rfl, rfl, rfl, rfl, rfl, trivial⟩ ⟨rfl, (sl_nil (e := 3) (size := 1) hS).b2⟩ ?_
  clear hS
  rintro pre post v w ⟨hx, hS⟩
  have hlp : pre.length + post.length = n := by rw [← hn, hx, List.length_append]
  obtain ⟨_, _, hft, _⟩ := foldAdd (O := O_ii) (es := []) (l := pre) (fun _ h => by cases h) List.Pairwise.nil
  simp only [tot] at hft
  rcases post with _ | ⟨x, post⟩
  · simp only [List.length_nil, Nat.add_zero] at hlp
    rw [List.append_nil] at hx
    subst hx
    refine F_seq ?_
    refine F_region (p := ⟨_, [0], []⟩) rfl [0] rfl ?_
    refine O_cmp rfl rfl rfl rfl rfl rfl rfl ?_
    refine R_nil ?_
    refine tn ?_
    refine F_seq ?_
    refine F_false rfl (decide_eq_false (by omega)) ?_
    refine F_exit ?_
    refine tx ?_
    refine tx ?_
    refine Go.Sl.bx rfl ?_
    refine tn ?_
    refine F_seq ?_
    refine F_region (p := ⟨_, [0, 0, 0, 0, 0], []⟩) rfl [0, 1, 2, 3, 4] rfl ?_
    refine O_move rfl rfl rfl rfl rfl ?_
    refine O_move rfl rfl rfl rfl rfl ?_
    refine O_assign rfl rfl rfl rfl rfl ?_
    refine O_assign rfl rfl rfl rfl rfl ?_
    refine O_assign rfl rfl rfl rfl rfl ?_
    refine R_nil ?_
    refine tn ?_
    refine F_ret ?_
    show endF _ _ _ _ _ _
    refine end0 trivial rfl rfl rfl hS ?_
    intro w hS
    exact ⟨_, _, rfl, hS⟩
  · simp only [List.length_cons] at hlp
    obtain ⟨eb, eo, had, hcell⟩ := el1 (m := pre.length) (u := eI x) (hA _ (sackP E_ii O_ii 81 sb (pre.foldl (fun s y => addE O_ii y s) []) lim * (sl 3 1 v ((pre.foldl (fun s y => insR O_ii y s) [])).length (((pre.foldl (fun s y => insR O_ii y s) [])).map eI) * R)) _ (hS.to (by ac_rfl))) (by rw [hx]; simp)
    refine F_seq ?_
    refine F_region (p := ⟨_, [0], []⟩) rfl [0] rfl ?_
    refine O_cmp rfl rfl rfl rfl rfl rfl rfl ?_
    refine R_nil ?_
    refine tn ?_
    refine F_seq ?_
    refine F_true rfl (decide_eq_true (by omega)) ?_
    refine F_skip ?_
    refine tn ?_
    refine F_seq ?_
    refine F_block ?_
    refine F_seq ?_
    refine F_region (p := ⟨_, [0, 1, 0], []⟩) rfl [0, 1, 2] rfl ?_
    refine O_indexSlE (m := pre.length) rfl rfl rfl rfl Try.runUnderlying28 Try.sizeOf3 rfl had rfl rfl (by omega) ?_
    refine O_load rfl rfl rfl rfl rfl Try.isAgg3 hcell (by trivial) ?_
    refine O_assign rfl rfl rfl rfl rfl ?_
    refine R_nil ?_
    refine tn ?_
    refine F_seq ?_
    refine F_seq ?_
    refine F_region (p := ⟨_, [0, 0, 2, 0], []⟩) rfl [0, 1, 2, 3] rfl ?_
    refine O_move rfl rfl rfl rfl rfl ?_
    refine O_move rfl rfl rfl rfl rfl ?_
    refine O_call rfl rfl rfl rfl Try.call11 rfl (sAdd_ii x hS) (fun _ _ hv => trivial) ?_
    rintro _ w (⟨_, hno, _⟩ | ⟨rfl, hyes, hS⟩)
    · exfalso; omega
    refine O_cmp rfl rfl rfl rfl rfl rfl rfl ?_
    refine R_nil ?_
    refine tn ?_
    refine F_false rfl rfl ?_
    refine F_skip ?_
    refine tn ?_
    refine F_region (p := ⟨_, [0, 0, 2, 0], []⟩) rfl [0, 1, 2, 3] rfl ?_
    refine O_move rfl rfl rfl rfl rfl ?_
    refine O_move rfl rfl rfl rfl rfl ?_
    refine O_call rfl rfl rfl rfl Try.call10 rfl (rAdd_ii (by rw [foldIns_len]; simp only [List.length_nil]; omega) x hS.b2) (fun _ _ hv => trivial) ?_
    rintro _ w hS
    replace hS := hS.b2
    refine O_assign rfl rfl rfl rfl rfl ?_
    refine R_nil ?_
    refine bn ?_
    refine tn ?_
    refine F_region (p := ⟨_, [0, 0], []⟩) rfl [0, 1] rfl ?_
    refine O_addN rfl rfl rfl rfl rfl rfl (by omega) ?_
    refine O_move rfl rfl rfl rfl rfl ?_
    refine R_nil ?_
    refine tn ⟨rfl, rfl, (pre ++ [x], post, _), ⟨rfl, rfl, rfl, rfl, congrArg (fun z : Nat => some (Value.int .i64 z)) (show pre.length + 1 = (pre ++ [x]).length by simp), trivial⟩, ⟨by rw [hx]; simp, ?_⟩, Nat.lt_succ_self _⟩
    show Sat w0 (sackP E_ii O_ii 81 sb ((pre ++ [x]).foldl (fun s y => addE O_ii y s) []) lim * (sl 3 1 _ ((pre ++ [x]).foldl (fun s y => insR O_ii y s) []).length (((pre ++ [x]).foldl (fun s y => insR O_ii y s) []).map eI) * (A * R))) w
    rw [List.foldl_append, List.foldl_append]; exact hS
theorem awake_ii {w0 w : World} {R : HProp} (hS : Sat w0 R w) : Calls Try.prog 8 #[] w (ret fun u w' => u = .bool true ∧ Sat w0 R w') := by
  refine enterF (args := []) Try.func8 rfl Try.ntmps8 rfl rfl ?_
  refine F_seq ?_
  refine F_region (p := ⟨_, [0], []⟩) rfl [0] rfl ?_
  refine O_assign rfl rfl rfl rfl rfl ?_
  refine R_nil ?_
  refine tn ?_
  refine F_seq ?_
  refine F_region (p := ⟨_, [2, 0, 0, 0, 0, 0], []⟩) rfl [0, 1, 2, 3, 4, 5] rfl ?_
  refine O_call rfl rfl rfl rfl Try.call9 rfl (sNew_ii (room := 9) (by omega) (by omega) hS) (fun _ _ hv => trivial) ?_
  rintro _ w ⟨sb, rfl, hS⟩
  refine O_move rfl rfl rfl rfl rfl ?_
  refine O_extract rfl rfl rfl rfl rfl rfl ?_
  refine O_extract rfl rfl rfl rfl rfl rfl ?_
  refine O_assign rfl rfl rfl rfl rfl ?_
  refine O_assign rfl rfl rfl rfl rfl ?_
  refine R_nil ?_
  refine tn ?_
  refine F_seq ?_
  refine F_seq ?_
  refine F_region (p := ⟨_, [0, 0, 0, 0, 0, 0], []⟩) rfl [0, 1, 2, 3, 4, 5] rfl ?_
  refine O_move rfl rfl rfl rfl rfl ?_
  refine O_cmp rfl rfl rfl rfl rfl rfl rfl ?_
  refine O_move rfl rfl rfl rfl rfl ?_
  refine R_caseF (t := 15) rfl rfl ?_
  refine O_move rfl rfl rfl rfl rfl ?_
  refine O_eqNil rfl rfl rfl rfl rfl rfl Try.runUnderlying24 ?_
  refine O_pickF rfl rfl rfl rfl rfl rfl ?_
  refine R_nil ?_
  refine tn ?_
  refine F_false rfl rfl ?_
  refine F_skip ?_
  refine tn ?_
  refine F_seq ?_
  refine F_seq ?_
  refine F_region (p := ⟨_, [0, 0], []⟩) rfl [0, 1] rfl ?_
  refine O_build rfl rfl rfl rfl rfl (run_buildA #[eI 2, eI 9, eI 1, eI 2] Try.zeroValue74 Try.runUnderlying74 Try.sizeOf3 rfl) ?_
  refine O_move rfl rfl rfl rfl rfl ?_
  refine R_nil ?_
  refine tn ?_
  refine F_block ?_
  refine F_loop2 (fun (pre _ : List Int) => [(1, .pointer (some ⟨sb, 0, none⟩)), (19, .agg #[eI 2, eI 9, eI 1, eI 2]), (20, .int .i64 (pre.length : Nat))]) (fun pre post w => ([2, 9, 1, 2] : List Int) = pre ++ post ∧ Sat w0 (sackP E_ii O_ii 81 sb (pre.foldl (fun s y => addE O_ii y s) []) 9 * R) w) (fun _ post => post.length) [] [2, 9, 1, 2] ⟨rfl, rfl, rfl, trivial⟩ ⟨rfl, hS⟩ ?_
  clear hS
  rintro pre post w ⟨hx, hS⟩
  have hlp : pre.length + post.length = 4 := by rw [← List.length_append, ← hx]; rfl
  obtain ⟨_, _, hft, _⟩ := foldAdd (O := O_ii) (es := []) (l := pre) (fun _ h => by cases h) List.Pairwise.nil
  simp only [tot] at hft
  rcases post with _ | ⟨x, post⟩
  · simp only [List.length_nil, Nat.add_zero] at hlp
    rw [List.append_nil] at hx
    subst hx
    refine F_seq ?_
    refine F_region (p := ⟨_, [0], []⟩) rfl [0] rfl ?_
    refine O_cmp rfl rfl rfl rfl rfl rfl rfl ?_
    refine R_nil ?_
    refine tn ?_
    refine F_seq ?_
    refine F_false rfl (decide_eq_false (by omega)) ?_
    refine F_exit ?_
    refine tx ?_
    refine tx ?_
    refine Go.Sl.bx rfl ?_
    refine tn ?_
    refine F_seq ?_
    refine F_region (p := ⟨_, [0, 2, 0, 0, 0, 0, 0], []⟩) rfl [0, 1, 2, 3, 4, 5, 6] rfl ?_
    refine O_move rfl rfl rfl rfl rfl ?_
    refine O_call rfl rfl rfl rfl Try.call37 rfl (sNear_ii (k := 2) (by omega) (by omega) (by decide) hS) (fun _ _ hv => trivial) ?_
    rintro _ w ⟨rfl, hS⟩
    refine O_move rfl rfl rfl rfl rfl ?_
    refine O_extract rfl rfl rfl rfl rfl rfl ?_
    refine O_extract rfl rfl rfl rfl rfl rfl ?_
    refine O_assign rfl rfl rfl rfl rfl ?_
    refine O_assign rfl rfl rfl rfl rfl ?_
    refine R_nil ?_
    refine tn ?_
    refine F_seq ?_
    refine F_region (p := ⟨_, [0, 2, 0, 0, 0, 0, 0], []⟩) rfl [0, 1, 2, 3, 4, 5, 6] rfl ?_
    refine O_move rfl rfl rfl rfl rfl ?_
    refine O_call rfl rfl rfl rfl Try.call37 rfl (sNear_ii (k := 9) (by omega) (by omega) (by decide) hS) (fun _ _ hv => trivial) ?_
    rintro _ w ⟨rfl, hS⟩
    refine O_move rfl rfl rfl rfl rfl ?_
    refine O_extract rfl rfl rfl rfl rfl rfl ?_
    refine O_extract rfl rfl rfl rfl rfl rfl ?_
    refine O_assign rfl rfl rfl rfl rfl ?_
    refine O_assign rfl rfl rfl rfl rfl ?_
    refine R_nil ?_
    refine tn ?_
    refine F_seq ?_
    refine F_region (p := ⟨_, [0, 0, 0, 0, 0, 0, 0, 0, 0, 0, 0, 0, 0, 0, 0, 0, 2, 0, 0, 0], []⟩) rfl [0, 1, 2, 3, 4, 5, 6, 7, 8, 9, 10, 11, 12, 13, 14, 15, 16, 17, 18, 19] rfl ?_
    refine O_move rfl rfl rfl rfl rfl ?_
    refine O_cmp rfl rfl rfl rfl rfl rfl rfl ?_
    refine O_move rfl rfl rfl rfl rfl ?_
    refine R_caseT (t := 39) rfl rfl ?_
    refine O_move rfl rfl rfl rfl rfl ?_
    refine O_cmp rfl rfl rfl rfl rfl rfl rfl ?_
    refine O_pickT rfl rfl rfl rfl rfl rfl ?_
    refine O_move rfl rfl rfl rfl rfl ?_
    refine R_caseT (t := 43) rfl rfl ?_
    refine O_move rfl rfl rfl rfl rfl ?_
    refine O_cmp rfl rfl rfl rfl rfl rfl rfl ?_
    refine O_pickT rfl rfl rfl rfl rfl rfl ?_
    refine O_move rfl rfl rfl rfl rfl ?_
    refine R_caseT (t := 47) rfl rfl ?_
    refine O_move rfl rfl rfl rfl rfl ?_
    refine O_cmp rfl rfl rfl rfl rfl rfl rfl ?_
    refine O_pickT rfl rfl rfl rfl rfl rfl ?_
    refine O_move rfl rfl rfl rfl rfl ?_
    refine R_caseT (t := 51) rfl rfl ?_
    refine O_move rfl rfl rfl rfl rfl ?_
    refine O_call rfl rfl rfl rfl Try.call16 rfl (pLen_ii hS) (fun _ _ hv => trivial) ?_
    rintro _ w ⟨rfl, hS⟩
    refine O_cmp rfl rfl rfl rfl rfl rfl rfl ?_
    refine O_pickT rfl rfl rfl rfl rfl rfl ?_
    refine O_assign rfl rfl rfl rfl rfl ?_
    refine R_nil ?_
    refine tn ?_
    refine F_ret ?_
    show endF _ _ _ _ _ _
    refine end0 trivial rfl rfl rfl hS ?_
    intro w hS
    exact ⟨rfl, Sat.drop hS⟩
  · simp only [List.length_cons] at hlp
    have hget : (([2, 9, 1, 2] : List Int).map eI)[pre.length]? = some (eI x) := by rw [hx]; simp
    refine F_seq ?_
    refine F_region (p := ⟨_, [0], []⟩) rfl [0] rfl ?_
    refine O_cmp rfl rfl rfl rfl rfl rfl rfl ?_
    refine R_nil ?_
    refine tn ?_
    refine F_seq ?_
    refine F_true rfl (decide_eq_true (by omega)) ?_
    refine F_skip ?_
    refine tn ?_
    refine F_seq ?_
    refine F_block ?_
    refine F_seq ?_
    refine F_region (p := ⟨_, [0, 0], []⟩) rfl [0, 1] rfl ?_
    refine O_indexArr (j := (pre.length : Nat)) rfl rfl rfl rfl Try.runUnderlying74 Try.sizeOf3 Try.isAgg3 rfl rfl ⟨by omega, by omega⟩ ((List.getElem?_toArray ..).trans hget) ?_
    refine O_assign rfl rfl rfl rfl rfl ?_
    refine R_nil ?_
    refine tn ?_
    refine F_region (p := ⟨_, [0, 0, 2], []⟩) rfl [0, 1, 2] rfl ?_
    refine O_move rfl rfl rfl rfl rfl ?_
    refine O_move rfl rfl rfl rfl rfl ?_
    refine O_call rfl rfl rfl rfl Try.call11 rfl (sAdd_ii x hS) (fun _ _ hv => trivial) ?_
    rintro _ w (⟨_, hno, _⟩ | ⟨rfl, hyes, hS⟩)
    · exfalso; omega
    refine R_nil ?_
    refine bn ?_
    refine tn ?_
    refine F_region (p := ⟨_, [0, 0], []⟩) rfl [0, 1] rfl ?_
    refine O_addN rfl rfl rfl rfl rfl rfl (by omega) ?_
    refine O_move rfl rfl rfl rfl rfl ?_
    refine R_nil ?_
    refine tn ⟨rfl, rfl, (pre ++ [x], post), ⟨rfl, rfl, congrArg (fun z : Nat => some (Value.int .i64 z)) (show pre.length + 1 = (pre ++ [x]).length by simp), trivial⟩, ⟨by rw [hx]; simp, ?_⟩, Nat.lt_succ_self _⟩
    show Sat w0 (sackP E_ii O_ii 81 sb ((pre ++ [x]).foldl (fun s y => addE O_ii y s) []) 9 * R) w
    rw [List.foldl_append]; exact hS
end Go.Proofs.Ytpnigaoibhogfaa
