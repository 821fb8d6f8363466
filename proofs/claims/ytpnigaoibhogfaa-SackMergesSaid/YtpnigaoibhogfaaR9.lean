/- YtpnigaoibhogfaaR9: a part of the proof: walks over the translated code, and plain facts on lists beside. -/
import Derived.Test.YtpnigaoibhogfaaR8
set_option linter.all false
namespace Go.Proofs.Ytpnigaoibhogfaa
open Go Go.RowKit Go.Sl
set_option linter.unusedVariables false
theorem sackMerges_walk {W : World} {a1 a2 : Option Addr} {n1 c1 n2 c2 : Nat} {xs1 xs2 : List Int} {q : Int} (h1 : RdW W a1 (xs1.map eI)) (hn1 : xs1.length = n1) (h2 : RdW W a2 (xs2.map eI)) (hn2 : xs2.length = n2) (e1 : n1 ≤ 9223372036854775807) (e2 : n2 ≤ 9223372036854775807) (hnil1 : a1 = none → c1 = 0 ∧ n1 = 0) (hnil2 : a2 = none → c2 = 0 ∧ n2 = 0) (hq : 0 ≤ q ∧ q ≤ 255) :
    Calls Try.prog 4 #[.slice a1 n1 c1, .slice a2 n2 c2, .int .u8 q] W (ret fun u w' => u = .bool true ∧ Sat W (whole W * hemp) w') := by
  have hS : Sat W (whole W * hemp) W := (Sat.start W).to (star_hemp _).symm
  have hA1 := whole_rds h1
  have hA2 := whole_rds h2
  generalize hemp = R at hS ⊢
  obtain ⟨w0, hw0⟩ : ∃ w0, w0 = W := ⟨_, rfl⟩
  rw [← hw0] at hS ⊢
  rw [← hw0] at hA1 hA2
  obtain ⟨w, hw⟩ : ∃ w, w = w0 := ⟨_, rfl⟩
  have hS : Sat w0 (whole w0 * R) w := hw ▸ hS
  rw [show Calls Try.prog 4 #[.slice a1 n1 c1, .slice a2 n2 c2, .int .u8 q] w0 = Calls Try.prog 4 #[.slice a1 n1 c1, .slice a2 n2 c2, .int .u8 q] w by rw [hw]]
  clear hw
  by_cases hlong1 : 60 < (n1 : Int)
  ·
    refine enterF (args := [_, _, _]) Try.func4 rfl Try.ntmps4 rfl rfl ?_
    refine F_seq ?_
    refine F_region (p := ⟨_, [0], []⟩) rfl [0] rfl ?_
    refine O_assign rfl rfl rfl rfl rfl ?_
    refine R_nil ?_
    refine tn ?_
    refine F_seq ?_
    refine F_seq ?_
    refine F_region (p := ⟨_, [2, 0, 0, 0, 0, 0, 0, 0, 0, 0, 0, 0], []⟩) rfl [0, 1, 2, 3, 4, 5, 6, 7, 8, 9, 10, 11] rfl ?_
    refine O_call rfl rfl rfl rfl Try.call8 rfl (awake_ii hS) (fun _ _ hv => trivial) ?_
    rintro _ w ⟨rfl, hS⟩
    refine O_not rfl rfl rfl rfl rfl ?_
    refine O_move rfl rfl rfl rfl rfl ?_
    refine R_caseF (t := 21) rfl rfl ?_
    refine O_move rfl rfl rfl rfl rfl ?_
    refine O_lenSl rfl rfl rfl rfl rfl Try.runUnderlying28 ?_
    refine O_cmp rfl rfl rfl rfl rfl rfl rfl ?_
    refine O_pickF rfl rfl rfl rfl rfl rfl ?_
    refine O_move rfl rfl rfl rfl rfl ?_
    refine R_caseT (t := 26) rfl (decide_eq_true (by omega)) ?_
    refine R_skip rfl rfl rfl rfl ?_
    refine R_skip rfl rfl rfl rfl ?_
    refine R_skip rfl rfl rfl rfl ?_
    refine O_pickT rfl rfl rfl rfl rfl rfl ?_
    refine R_nil ?_
    refine tn ?_
    refine F_true rfl rfl ?_
    refine F_seq ?_
    refine F_region (p := ⟨_, [2, 0], []⟩) rfl [0, 1] rfl ?_
    refine O_call rfl rfl rfl rfl Try.call8 rfl (awake_ii hS) (fun _ _ hv => trivial) ?_
    rintro _ w ⟨rfl, hS⟩
    refine O_assign rfl rfl rfl rfl rfl ?_
    refine R_nil ?_
    refine tn ?_
    refine F_ret ?_
    refine tr ?_
    show endF _ _ _ _ _ _
    refine end0 trivial rfl rfl rfl hS ?_
    intro w hS
    exact ⟨rfl, hS⟩
  by_cases hlong2 : 60 < (n2 : Int)
  ·
    refine enterF (args := [_, _, _]) Try.func4 rfl Try.ntmps4 rfl rfl ?_
    refine F_seq ?_
    refine F_region (p := ⟨_, [0], []⟩) rfl [0] rfl ?_
    refine O_assign rfl rfl rfl rfl rfl ?_
    refine R_nil ?_
    refine tn ?_
    refine F_seq ?_
    refine F_seq ?_
    refine F_region (p := ⟨_, [2, 0, 0, 0, 0, 0, 0, 0, 0, 0, 0, 0], []⟩) rfl [0, 1, 2, 3, 4, 5, 6, 7, 8, 9, 10, 11] rfl ?_
    refine O_call rfl rfl rfl rfl Try.call8 rfl (awake_ii hS) (fun _ _ hv => trivial) ?_
    rintro _ w ⟨rfl, hS⟩
    refine O_not rfl rfl rfl rfl rfl ?_
    refine O_move rfl rfl rfl rfl rfl ?_
    refine R_caseF (t := 21) rfl rfl ?_
    refine O_move rfl rfl rfl rfl rfl ?_
    refine O_lenSl rfl rfl rfl rfl rfl Try.runUnderlying28 ?_
    refine O_cmp rfl rfl rfl rfl rfl rfl rfl ?_
    refine O_pickF rfl rfl rfl rfl rfl rfl ?_
    refine O_move rfl rfl rfl rfl rfl ?_
    refine R_caseF (t := 26) rfl (decide_eq_false (by omega)) ?_
    refine O_move rfl rfl rfl rfl rfl ?_
    refine O_lenSl rfl rfl rfl rfl rfl Try.runUnderlying28 ?_
    refine O_cmp rfl rfl rfl rfl rfl rfl rfl ?_
    refine O_pickF rfl rfl rfl rfl rfl rfl ?_
    refine R_nil ?_
    refine tn ?_
    refine F_true rfl (decide_eq_true (by omega)) ?_
    refine F_seq ?_
    refine F_region (p := ⟨_, [2, 0], []⟩) rfl [0, 1] rfl ?_
    refine O_call rfl rfl rfl rfl Try.call8 rfl (awake_ii hS) (fun _ _ hv => trivial) ?_
    rintro _ w ⟨rfl, hS⟩
    refine O_assign rfl rfl rfl rfl rfl ?_
    refine R_nil ?_
    refine tn ?_
    refine F_ret ?_
    refine tr ?_
    show endF _ _ _ _ _ _
    refine end0 trivial rfl rfl rfl hS ?_
    intro w hS
    exact ⟨rfl, hS⟩
  have f1 := fill_facts (O := O_ii) (l := xs1)
  have f2 := fill_facts (O := O_ii) (l := xs2)
  have f3 := fill_facts (O := O_ii) (l := xs2 ++ xs1)
  rw [hn1] at f1
  rw [hn2] at f2
  ·
    refine enterF (args := [_, _, _]) Try.func4 rfl Try.ntmps4 rfl rfl ?_
    refine F_seq ?_
    refine F_region (p := ⟨_, [0], []⟩) rfl [0] rfl ?_
    refine O_assign rfl rfl rfl rfl rfl ?_
    refine R_nil ?_
    refine tn ?_
    refine F_seq ?_
    refine F_seq ?_
    refine F_region (p := ⟨_, [2, 0, 0, 0, 0, 0, 0, 0, 0, 0, 0, 0], []⟩) rfl [0, 1, 2, 3, 4, 5, 6, 7, 8, 9, 10, 11] rfl ?_
    refine O_call rfl rfl rfl rfl Try.call8 rfl (awake_ii hS) (fun _ _ hv => trivial) ?_
    rintro _ w ⟨rfl, hS⟩
    refine O_not rfl rfl rfl rfl rfl ?_
    refine O_move rfl rfl rfl rfl rfl ?_
    refine R_caseF (t := 21) rfl rfl ?_
    refine O_move rfl rfl rfl rfl rfl ?_
    refine O_lenSl rfl rfl rfl rfl rfl Try.runUnderlying28 ?_
    refine O_cmp rfl rfl rfl rfl rfl rfl rfl ?_
    refine O_pickF rfl rfl rfl rfl rfl rfl ?_
    refine O_move rfl rfl rfl rfl rfl ?_
    refine R_caseF (t := 26) rfl (decide_eq_false (by omega)) ?_
    refine O_move rfl rfl rfl rfl rfl ?_
    refine O_lenSl rfl rfl rfl rfl rfl Try.runUnderlying28 ?_
    refine O_cmp rfl rfl rfl rfl rfl rfl rfl ?_
    refine O_pickF rfl rfl rfl rfl rfl rfl ?_
    refine R_nil ?_
    refine tn ?_
    refine F_false rfl (decide_eq_false (by omega)) ?_
    refine F_skip ?_
    refine tn ?_
    refine F_seq ?_
    refine F_region (p := ⟨_, [0, 0, 0], []⟩) rfl [0, 1, 2] rfl ?_
    refine O_move rfl rfl rfl rfl rfl ?_
    refine O_convInt rfl rfl rfl rfl (fun w => ⟨_, Try.runUnderlying5 w⟩) Try.runUnderlying3 rfl ?_
    rw [i64_wrap (by omega)]
    refine O_assign rfl rfl rfl rfl rfl ?_
    refine R_nil ?_
    refine tn ?_
    refine F_seq ?_
    refine F_region (p := ⟨_, [0, 0, 0, 0, 0, 2, 0, 0, 0, 0, 0, 0, 0], []⟩) rfl [0, 1, 2, 3, 4, 5, 6, 7, 8, 9, 10, 11, 12] rfl ?_
    refine O_move rfl rfl rfl rfl rfl ?_
    refine O_move rfl rfl rfl rfl rfl ?_
    refine O_move rfl rfl rfl rfl rfl ?_
    refine O_lenSl rfl rfl rfl rfl rfl Try.runUnderlying28 ?_
    refine O_max2 rfl rfl rfl rfl rfl rfl ?_
    refine O_call rfl rfl rfl rfl Try.call21 rfl (fill_ii hA1 hn1 (by omega) hS) (fun _ _ hv => trivial) ?_
    rintro _ w ⟨s1, v1, rfl, hS⟩
    obtain ⟨ad1, cap1, rfl, _, _, _⟩ := sl_form hS.b2
    refine O_move rfl rfl rfl rfl rfl ?_
    refine O_extract rfl rfl rfl rfl rfl rfl ?_
    refine O_extract rfl rfl rfl rfl rfl rfl ?_
    refine O_extract rfl rfl rfl rfl rfl rfl ?_
    refine O_assign rfl rfl rfl rfl rfl ?_
    refine O_assign rfl rfl rfl rfl rfl ?_
    refine O_assign rfl rfl rfl rfl rfl ?_
    refine R_nil ?_
    refine tn ?_
    refine F_seq ?_
    refine F_region (p := ⟨_, [0, 2, 0, 0, 0, 0, 0, 0, 0], []⟩) rfl [0, 1, 2, 3, 4, 5, 6, 7, 8] rfl ?_
    refine O_move rfl rfl rfl rfl rfl ?_
    replace hS : Sat w0 (whole w0 * (sackP E_ii O_ii 81 s1 (xs1.foldl (fun s y => addE O_ii y s) []) (max q n1) * (sl 3 1 (.slice ad1 (xs1.foldl (fun s y => insR O_ii y s) []).length cap1) ((xs1.foldl (fun s y => insR O_ii y s) [])).length (((xs1.foldl (fun s y => insR O_ii y s) [])).map eI) * R))) w := hS.to (by ac_rfl)
    refine O_call rfl rfl rfl rfl Try.call21 rfl (fill_ii hA2 hn2 (by omega) hS) (fun _ _ hv => trivial) ?_
    rintro _ w ⟨s2, v2, rfl, hS⟩
    obtain ⟨ad2, cap2, rfl, _, _, _⟩ := sl_form hS.b2
    refine O_move rfl rfl rfl rfl rfl ?_
    refine O_extract rfl rfl rfl rfl rfl rfl ?_
    refine O_extract rfl rfl rfl rfl rfl rfl ?_
    refine O_extract rfl rfl rfl rfl rfl rfl ?_
    refine O_assign rfl rfl rfl rfl rfl ?_
    refine O_assign rfl rfl rfl rfl rfl ?_
    refine O_assign rfl rfl rfl rfl rfl ?_
    refine R_nil ?_
    refine tn ?_
    refine F_seq ?_
    refine F_seq ?_
    refine F_region (p := ⟨_, [0, 0, 0, 0, 0, 0], []⟩) rfl [0, 1, 2, 3, 4, 5] rfl ?_
    refine O_move rfl rfl rfl rfl rfl ?_
    refine O_not rfl rfl rfl rfl rfl ?_
    refine O_move rfl rfl rfl rfl rfl ?_
    refine R_caseF (t := 52) rfl rfl ?_
    refine O_move rfl rfl rfl rfl rfl ?_
    refine O_not rfl rfl rfl rfl rfl ?_
    refine O_pickF rfl rfl rfl rfl rfl rfl ?_
    refine R_nil ?_
    refine tn ?_
    refine F_false rfl rfl ?_
    refine F_skip ?_
    refine tn ?_
    refine F_seq ?_
    refine F_region (p := ⟨_, [0, 2, 0], []⟩) rfl [0, 1, 2] rfl ?_
    refine O_move rfl rfl rfl rfl rfl ?_
    replace hS : Sat w0 (sackP E_ii O_ii 81 s1 (xs1.foldl (fun s y => addE O_ii y s) []) (max q n1) * (sackP E_ii O_ii 81 s2 (xs2.foldl (fun s y => addE O_ii y s) []) 60 * (sl 3 1 (.slice ad2 (xs2.foldl (fun s y => insR O_ii y s) []).length cap2) ((xs2.foldl (fun s y => insR O_ii y s) [])).length (((xs2.foldl (fun s y => insR O_ii y s) [])).map eI) * (whole w0 * (sl 3 1 (.slice ad1 (xs1.foldl (fun s y => insR O_ii y s) []).length cap1) ((xs1.foldl (fun s y => insR O_ii y s) [])).length (((xs1.foldl (fun s y => insR O_ii y s) [])).map eI) * R))))) w := hS.to (by ac_rfl)
    refine O_call rfl rfl rfl rfl Try.call22 rfl (sClone_ii hS) (fun _ _ hv => trivial) ?_
    rintro _ w ⟨cb, es2, rfl, hes2, hS⟩
    have hcl : expand es2 = (xs1.foldl (fun s y => insR O_ii y s) []) := hes2.trans f1.2.2.2
    obtain ⟨_, hwc, hsc, _, _, _⟩ := sackP_open hS
    have hroom : max q (n1 : Int) - tot es2 = max q n1 - n1 := by have := len_expand hwc; rw [hcl, insl_len, hn1] at this; omega
    have hmiss : (if cnt O_ii 0 es2 = 0 then (5 : Int) else 0) = (if cntR O_ii 0 (xs1.foldl (fun s y => insR O_ii y s) []) = 0 then 5 else 0) := by rw [← hcl, cnt_expand hwc hsc]
    refine O_assign rfl rfl rfl rfl rfl ?_
    refine R_nil ?_
    refine tn ?_
    refine F_seq ?_
    refine F_region (p := ⟨_, [0, 0, 2, 0], []⟩) rfl [0, 1, 2, 3] rfl ?_
    refine O_move rfl rfl rfl rfl rfl ?_
    refine O_move rfl rfl rfl rfl rfl ?_
    replace hS : Sat w0 (sackP E_ii O_ii 81 s1 (xs1.foldl (fun s y => addE O_ii y s) []) (max q n1) * (sackP E_ii O_ii 81 s2 (xs2.foldl (fun s y => addE O_ii y s) []) 60 * (sackP E_ii O_ii 81 cb es2 (max q n1) * (sl 3 1 (.slice ad2 (xs2.foldl (fun s y => insR O_ii y s) []).length cap2) ((xs2.foldl (fun s y => insR O_ii y s) [])).length (((xs2.foldl (fun s y => insR O_ii y s) [])).map eI) * (whole w0 * (sl 3 1 (.slice ad1 (xs1.foldl (fun s y => insR O_ii y s) []).length cap1) ((xs1.foldl (fun s y => insR O_ii y s) [])).length (((xs1.foldl (fun s y => insR O_ii y s) [])).map eI) * R)))))) w := hS.to (by ac_rfl)
    refine O_call rfl rfl rfl rfl Try.call15 rfl (sMerge_ii hS) (fun _ _ hv => trivial) ?_
    rintro _ w (⟨hno, rfl, hS⟩ | ⟨hyes, rfl, hS⟩)
    · rw [f1.2.2.1, f2.2.2.1] at hno
      have hbig : max q n1 < (n1 : Int) + n2 := by omega
      refine O_assign rfl rfl rfl rfl rfl ?_
      refine R_nil ?_
      refine tn ?_
      refine F_seq ?_
      refine F_seq ?_
      refine F_region (p := ⟨_, [0, 0, 0, 0, 2, 0, 2, 0, 0, 0, 0, 2, 0, 2, 0, 0, 0, 0, 2, 0, 0, 0, 0, 0, 0, 0, 0, 0], []⟩) rfl [0, 1, 2, 3, 4, 5, 6, 7, 8, 9, 10, 11, 12, 13, 14, 15, 16, 17, 18, 19, 20, 21, 22, 23, 24, 25, 26, 27] rfl ?_
      refine O_move rfl rfl rfl rfl rfl ?_
      refine O_eqNil rfl rfl rfl rfl rfl rfl Try.runUnderlying24 ?_
      refine O_move rfl rfl rfl rfl rfl ?_
      refine R_caseF (t := 63) rfl rfl ?_
      refine O_move rfl rfl rfl rfl rfl ?_
      refine O_call rfl rfl rfl rfl Try.call20 rfl (sAll_ii ⟨s2, rfl⟩ hS) (fun _ _ hv => trivial) ?_
      rintro _ w ⟨bx1, rfl, hS⟩
      replace hS : Sat w0 (pt bx1 (.cells #[.pointer (some ⟨s2, 0, none⟩)] 24) * (sackP E_ii O_ii 81 s1 (xs1.foldl (fun s y => addE O_ii y s) []) (max q n1) * (sackP E_ii O_ii 81 s2 (xs2.foldl (fun s y => addE O_ii y s) []) 60 * (sackP E_ii O_ii 81 cb es2 (max q n1) * (sl 3 1 (.slice ad2 (xs2.foldl (fun s y => insR O_ii y s) []).length cap2) ((xs2.foldl (fun s y => insR O_ii y s) [])).length (((xs2.foldl (fun s y => insR O_ii y s) [])).map eI) * (whole w0 * (sl 3 1 (.slice ad1 (xs1.foldl (fun s y => insR O_ii y s) []).length cap1) ((xs1.foldl (fun s y => insR O_ii y s) [])).length (((xs1.foldl (fun s y => insR O_ii y s) [])).map eI) * R))))))) w := hS
      refine O_move rfl rfl rfl rfl rfl ?_
      replace hS : Sat w0 ((pt bx1 (.cells #[.pointer (some ⟨s2, 0, none⟩)] 24) * sackP E_ii O_ii 81 s2 (xs2.foldl (fun s y => addE O_ii y s) []) 60) * (sl 3 1 (.slice ad2 (xs2.foldl (fun s y => insR O_ii y s) []).length cap2) ((xs2.foldl (fun s y => insR O_ii y s) [])).length (((xs2.foldl (fun s y => insR O_ii y s) [])).map eI) * (sackP E_ii O_ii 81 s1 (xs1.foldl (fun s y => addE O_ii y s) []) (max q n1) * (sackP E_ii O_ii 81 cb es2 (max q n1) * (whole w0 * (sl 3 1 (.slice ad1 (xs1.foldl (fun s y => insR O_ii y s) []).length cap1) ((xs1.foldl (fun s y => insR O_ii y s) [])).length (((xs1.foldl (fun s y => insR O_ii y s) [])).map eI) * R)))))) w := hS.to (by ac_rfl)
      refine O_call rfl rfl rfl rfl Try.call19 rfl (has_ii (f2.2.2.2 ▸ sall_ii_iter) sl_rds rfl (by rw [insl_len]; omega) hS) (fun _ _ hv => trivial) ?_
      rintro _ w ⟨rfl, hS⟩
      replace hS : Sat w0 (sackP E_ii O_ii 81 s2 (xs2.foldl (fun s y => addE O_ii y s) []) 60 * (sl 3 1 (.slice ad2 (xs2.foldl (fun s y => insR O_ii y s) []).length cap2) ((xs2.foldl (fun s y => insR O_ii y s) [])).length (((xs2.foldl (fun s y => insR O_ii y s) [])).map eI) * (sackP E_ii O_ii 81 s1 (xs1.foldl (fun s y => addE O_ii y s) []) (max q n1) * (sackP E_ii O_ii 81 cb es2 (max q n1) * (whole w0 * (sl 3 1 (.slice ad1 (xs1.foldl (fun s y => insR O_ii y s) []).length cap1) ((xs1.foldl (fun s y => insR O_ii y s) [])).length (((xs1.foldl (fun s y => insR O_ii y s) [])).map eI) * R)))))) w := Sat.drop (A := pt bx1 (.cells #[.pointer (some ⟨s2, 0, none⟩)] 24)) (hS.to (by ac_rfl))
      refine O_not rfl rfl rfl rfl rfl ?_
      refine O_pickF rfl rfl rfl rfl rfl rfl ?_
      refine O_move rfl rfl rfl rfl rfl ?_
      refine R_caseF (t := 70) rfl rfl ?_
      refine O_move rfl rfl rfl rfl rfl ?_
      refine O_call rfl rfl rfl rfl Try.call20 rfl (sAll_ii ⟨cb, rfl⟩ hS) (fun _ _ hv => trivial) ?_
      rintro _ w ⟨bx2, rfl, hS⟩
      replace hS : Sat w0 (pt bx2 (.cells #[.pointer (some ⟨cb, 0, none⟩)] 24) * (sackP E_ii O_ii 81 s2 (xs2.foldl (fun s y => addE O_ii y s) []) 60 * (sl 3 1 (.slice ad2 (xs2.foldl (fun s y => insR O_ii y s) []).length cap2) ((xs2.foldl (fun s y => insR O_ii y s) [])).length (((xs2.foldl (fun s y => insR O_ii y s) [])).map eI) * (sackP E_ii O_ii 81 s1 (xs1.foldl (fun s y => addE O_ii y s) []) (max q n1) * (sackP E_ii O_ii 81 cb es2 (max q n1) * (whole w0 * (sl 3 1 (.slice ad1 (xs1.foldl (fun s y => insR O_ii y s) []).length cap1) ((xs1.foldl (fun s y => insR O_ii y s) [])).length (((xs1.foldl (fun s y => insR O_ii y s) [])).map eI) * R))))))) w := hS
      refine O_move rfl rfl rfl rfl rfl ?_
      replace hS : Sat w0 ((pt bx2 (.cells #[.pointer (some ⟨cb, 0, none⟩)] 24) * sackP E_ii O_ii 81 cb es2 (max q n1)) * (sl 3 1 (.slice ad1 (xs1.foldl (fun s y => insR O_ii y s) []).length cap1) ((xs1.foldl (fun s y => insR O_ii y s) [])).length (((xs1.foldl (fun s y => insR O_ii y s) [])).map eI) * (sackP E_ii O_ii 81 s2 (xs2.foldl (fun s y => addE O_ii y s) []) 60 * (sl 3 1 (.slice ad2 (xs2.foldl (fun s y => insR O_ii y s) []).length cap2) ((xs2.foldl (fun s y => insR O_ii y s) [])).length (((xs2.foldl (fun s y => insR O_ii y s) [])).map eI) * (sackP E_ii O_ii 81 s1 (xs1.foldl (fun s y => addE O_ii y s) []) (max q n1) * (whole w0 * R)))))) w := hS.to (by ac_rfl)
      refine O_call rfl rfl rfl rfl Try.call19 rfl (has_ii (hcl ▸ sall_ii_iter) sl_rds rfl (by rw [insl_len]; omega) hS) (fun _ _ hv => trivial) ?_
      rintro _ w ⟨rfl, hS⟩
      replace hS : Sat w0 (sackP E_ii O_ii 81 cb es2 (max q n1) * (sl 3 1 (.slice ad1 (xs1.foldl (fun s y => insR O_ii y s) []).length cap1) ((xs1.foldl (fun s y => insR O_ii y s) [])).length (((xs1.foldl (fun s y => insR O_ii y s) [])).map eI) * (sackP E_ii O_ii 81 s2 (xs2.foldl (fun s y => addE O_ii y s) []) 60 * (sl 3 1 (.slice ad2 (xs2.foldl (fun s y => insR O_ii y s) []).length cap2) ((xs2.foldl (fun s y => insR O_ii y s) [])).length (((xs2.foldl (fun s y => insR O_ii y s) [])).map eI) * (sackP E_ii O_ii 81 s1 (xs1.foldl (fun s y => addE O_ii y s) []) (max q n1) * (whole w0 * R)))))) w := Sat.drop (A := pt bx2 (.cells #[.pointer (some ⟨cb, 0, none⟩)] 24)) (hS.to (by ac_rfl))
      refine O_not rfl rfl rfl rfl rfl ?_
      refine O_pickF rfl rfl rfl rfl rfl rfl ?_
      refine O_move rfl rfl rfl rfl rfl ?_
      refine R_caseF (t := 77) rfl rfl ?_
      refine O_move rfl rfl rfl rfl rfl ?_
      replace hS : Sat w0 (sackP E_ii O_ii 81 cb es2 (max q n1) * (sl 3 1 (.slice ad1 (xs1.foldl (fun s y => insR O_ii y s) []).length cap1) ((xs1.foldl (fun s y => insR O_ii y s) [])).length (((xs1.foldl (fun s y => insR O_ii y s) [])).map eI) * (sackP E_ii O_ii 81 s2 (xs2.foldl (fun s y => addE O_ii y s) []) 60 * (sl 3 1 (.slice ad2 (xs2.foldl (fun s y => insR O_ii y s) []).length cap2) ((xs2.foldl (fun s y => insR O_ii y s) [])).length (((xs2.foldl (fun s y => insR O_ii y s) [])).map eI) * (sackP E_ii O_ii 81 s1 (xs1.foldl (fun s y => addE O_ii y s) []) (max q n1) * (whole w0 * R)))))) w := hS.to (by ac_rfl)
      refine O_call rfl rfl rfl rfl Try.call17 rfl (pRoom_ii hS) (fun _ _ hv => trivial) ?_
      rintro _ w ⟨rfl, hS⟩
      refine O_move rfl rfl rfl rfl rfl ?_
      refine O_move rfl rfl rfl rfl rfl ?_
      refine O_lenSl rfl rfl rfl rfl rfl Try.runUnderlying28 ?_
      refine O_max2 rfl rfl rfl rfl rfl rfl ?_
      refine O_move rfl rfl rfl rfl rfl ?_
      refine O_lenSl rfl rfl rfl rfl rfl Try.runUnderlying28 ?_
      refine O_subN rfl rfl rfl rfl rfl rfl (by omega) ?_
      refine O_cmp rfl rfl rfl rfl rfl rfl rfl ?_
      refine O_pickF rfl rfl rfl rfl rfl rfl ?_
      refine R_nil ?_
      refine tn ?_
      refine F_false rfl (congrArg Bool.not (decide_eq_true hroom)) ?_
      refine F_skip ?_
      refine tn ?_
      refine F_seq ?_
      refine F_seq ?_
      refine F_region (p := ⟨_, [0, 0, 0, 0, 0, 0, 0, 0, 0, 0], []⟩) rfl [0, 1, 2, 3, 4, 5, 6, 7, 8, 9] rfl ?_
      refine O_move rfl rfl rfl rfl rfl ?_
      refine O_lenSl rfl rfl rfl rfl rfl Try.runUnderlying28 ?_
      refine O_move rfl rfl rfl rfl rfl ?_
      refine O_lenSl rfl rfl rfl rfl rfl Try.runUnderlying28 ?_
      refine O_addN rfl rfl rfl rfl rfl rfl (by omega) ?_
      refine O_move rfl rfl rfl rfl rfl ?_
      refine O_move rfl rfl rfl rfl rfl ?_
      refine O_lenSl rfl rfl rfl rfl rfl Try.runUnderlying28 ?_
      refine O_max2 rfl rfl rfl rfl rfl rfl ?_
      refine O_cmp rfl rfl rfl rfl rfl rfl rfl ?_
      refine R_nil ?_
      refine tn ?_
      refine F_true rfl (decide_eq_true (by omega)) ?_
      refine F_seq ?_
      refine F_region (p := ⟨_, [0, 0, 0, 0, 2, 0, 2, 0, 0], []⟩) rfl [0, 1, 2, 3, 4, 5, 6, 7, 8] rfl ?_
      refine O_move rfl rfl rfl rfl rfl ?_
      refine O_cmp rfl rfl rfl rfl rfl rfl rfl ?_
      refine O_move rfl rfl rfl rfl rfl ?_
      refine R_caseT (t := 101) rfl rfl ?_
      refine O_move rfl rfl rfl rfl rfl ?_
      refine O_call rfl rfl rfl rfl Try.call20 rfl (sAll_ii ⟨s1, rfl⟩ hS) (fun _ _ hv => trivial) ?_
      rintro _ w ⟨bx3, rfl, hS⟩
      replace hS : Sat w0 (pt bx3 (.cells #[.pointer (some ⟨s1, 0, none⟩)] 24) * (sackP E_ii O_ii 81 cb es2 (max q n1) * (sl 3 1 (.slice ad1 (xs1.foldl (fun s y => insR O_ii y s) []).length cap1) ((xs1.foldl (fun s y => insR O_ii y s) [])).length (((xs1.foldl (fun s y => insR O_ii y s) [])).map eI) * (sackP E_ii O_ii 81 s2 (xs2.foldl (fun s y => addE O_ii y s) []) 60 * (sl 3 1 (.slice ad2 (xs2.foldl (fun s y => insR O_ii y s) []).length cap2) ((xs2.foldl (fun s y => insR O_ii y s) [])).length (((xs2.foldl (fun s y => insR O_ii y s) [])).map eI) * (sackP E_ii O_ii 81 s1 (xs1.foldl (fun s y => addE O_ii y s) []) (max q n1) * (whole w0 * R))))))) w := hS
      refine O_move rfl rfl rfl rfl rfl ?_
      replace hS : Sat w0 ((pt bx3 (.cells #[.pointer (some ⟨s1, 0, none⟩)] 24) * sackP E_ii O_ii 81 s1 (xs1.foldl (fun s y => addE O_ii y s) []) (max q n1)) * (sl 3 1 (.slice ad1 (xs1.foldl (fun s y => insR O_ii y s) []).length cap1) ((xs1.foldl (fun s y => insR O_ii y s) [])).length (((xs1.foldl (fun s y => insR O_ii y s) [])).map eI) * (sackP E_ii O_ii 81 cb es2 (max q n1) * (sackP E_ii O_ii 81 s2 (xs2.foldl (fun s y => addE O_ii y s) []) 60 * (sl 3 1 (.slice ad2 (xs2.foldl (fun s y => insR O_ii y s) []).length cap2) ((xs2.foldl (fun s y => insR O_ii y s) [])).length (((xs2.foldl (fun s y => insR O_ii y s) [])).map eI) * (whole w0 * R)))))) w := hS.to (by ac_rfl)
      refine O_call rfl rfl rfl rfl Try.call19 rfl (has_ii (f1.2.2.2 ▸ sall_ii_iter) sl_rds rfl (by rw [insl_len]; omega) hS) (fun _ _ hv => trivial) ?_
      rintro _ w ⟨rfl, hS⟩
      replace hS : Sat w0 (sackP E_ii O_ii 81 s1 (xs1.foldl (fun s y => addE O_ii y s) []) (max q n1) * (sl 3 1 (.slice ad1 (xs1.foldl (fun s y => insR O_ii y s) []).length cap1) ((xs1.foldl (fun s y => insR O_ii y s) [])).length (((xs1.foldl (fun s y => insR O_ii y s) [])).map eI) * (sackP E_ii O_ii 81 cb es2 (max q n1) * (sackP E_ii O_ii 81 s2 (xs2.foldl (fun s y => addE O_ii y s) []) 60 * (sl 3 1 (.slice ad2 (xs2.foldl (fun s y => insR O_ii y s) []).length cap2) ((xs2.foldl (fun s y => insR O_ii y s) [])).length (((xs2.foldl (fun s y => insR O_ii y s) [])).map eI) * (whole w0 * R)))))) w := Sat.drop (A := pt bx3 (.cells #[.pointer (some ⟨s1, 0, none⟩)] 24)) (hS.to (by ac_rfl))
      refine O_pickT rfl rfl rfl rfl rfl rfl ?_
      refine O_assign rfl rfl rfl rfl rfl ?_
      refine R_nil ?_
      refine tn ?_
      refine F_ret ?_
      refine tr ?_
      replace hS : Sat w0 (whole w0 * R) w := Sat.drop (A := sackP E_ii O_ii 81 s1 (xs1.foldl (fun s y => addE O_ii y s) []) (max q n1) * sl 3 1 (.slice ad1 (xs1.foldl (fun s y => insR O_ii y s) []).length cap1) ((xs1.foldl (fun s y => insR O_ii y s) [])).length (((xs1.foldl (fun s y => insR O_ii y s) [])).map eI) * sackP E_ii O_ii 81 cb es2 (max q n1) * sackP E_ii O_ii 81 s2 (xs2.foldl (fun s y => addE O_ii y s) []) 60 * sl 3 1 (.slice ad2 (xs2.foldl (fun s y => insR O_ii y s) []).length cap2) ((xs2.foldl (fun s y => insR O_ii y s) [])).length (((xs2.foldl (fun s y => insR O_ii y s) [])).map eI)) (hS.to (by ac_rfl))
      show endF _ _ _ _ _ _
      refine end0 trivial rfl rfl rfl hS ?_
      intro w hS
      exact ⟨rfl, hS⟩
    · rw [f1.2.2.1, f2.2.2.1] at hyes
      have hbig : (n1 : Int) + n2 ≤ max q n1 := by omega
      have hmg : expand ((expand (xs2.foldl (fun s y => addE O_ii y s) [])).foldl (fun s y => addE O_ii y s) (xs1.foldl (fun s y => addE O_ii y s) [])) = ((xs2 ++ xs1).foldl (fun s y => insR O_ii y s) []) := by rw [(foldAdd f1.1 f1.2.1).2.2.2, f1.2.2.2, f2.2.2.2, (fold_merge (s := []))]; exact (fold_comm (l := xs2) (m := xs1) (s := [])).trans (List.foldl_append ..).symm
      refine O_assign rfl rfl rfl rfl rfl ?_
      refine R_nil ?_
      refine tn ?_
      refine F_seq ?_
      refine F_seq ?_
      refine F_region (p := ⟨_, [0, 0, 0, 0, 2, 0, 2, 0, 0, 0, 0, 2, 0, 2, 0, 0, 0, 0, 2, 0, 0, 0, 0, 0, 0, 0, 0, 0], []⟩) rfl [0, 1, 2, 3, 4, 5, 6, 7, 8, 9, 10, 11, 12, 13, 14, 15, 16, 17, 18, 19, 20, 21, 22, 23, 24, 25, 26, 27] rfl ?_
      refine O_move rfl rfl rfl rfl rfl ?_
      refine O_eqNil rfl rfl rfl rfl rfl rfl Try.runUnderlying24 ?_
      refine O_move rfl rfl rfl rfl rfl ?_
      refine R_caseF (t := 63) rfl rfl ?_
      refine O_move rfl rfl rfl rfl rfl ?_
      refine O_call rfl rfl rfl rfl Try.call20 rfl (sAll_ii ⟨s2, rfl⟩ hS) (fun _ _ hv => trivial) ?_
      rintro _ w ⟨bx1, rfl, hS⟩
      replace hS : Sat w0 (pt bx1 (.cells #[.pointer (some ⟨s2, 0, none⟩)] 24) * (sackP E_ii O_ii 81 s1 ((expand (xs2.foldl (fun s y => addE O_ii y s) [])).foldl (fun s y => addE O_ii y s) (xs1.foldl (fun s y => addE O_ii y s) [])) (max q n1) * (sackP E_ii O_ii 81 s2 (xs2.foldl (fun s y => addE O_ii y s) []) 60 * (sackP E_ii O_ii 81 cb es2 (max q n1) * (sl 3 1 (.slice ad2 (xs2.foldl (fun s y => insR O_ii y s) []).length cap2) ((xs2.foldl (fun s y => insR O_ii y s) [])).length (((xs2.foldl (fun s y => insR O_ii y s) [])).map eI) * (whole w0 * (sl 3 1 (.slice ad1 (xs1.foldl (fun s y => insR O_ii y s) []).length cap1) ((xs1.foldl (fun s y => insR O_ii y s) [])).length (((xs1.foldl (fun s y => insR O_ii y s) [])).map eI) * R))))))) w := hS
      refine O_move rfl rfl rfl rfl rfl ?_
      replace hS : Sat w0 ((pt bx1 (.cells #[.pointer (some ⟨s2, 0, none⟩)] 24) * sackP E_ii O_ii 81 s2 (xs2.foldl (fun s y => addE O_ii y s) []) 60) * (sl 3 1 (.slice ad2 (xs2.foldl (fun s y => insR O_ii y s) []).length cap2) ((xs2.foldl (fun s y => insR O_ii y s) [])).length (((xs2.foldl (fun s y => insR O_ii y s) [])).map eI) * (sackP E_ii O_ii 81 s1 ((expand (xs2.foldl (fun s y => addE O_ii y s) [])).foldl (fun s y => addE O_ii y s) (xs1.foldl (fun s y => addE O_ii y s) [])) (max q n1) * (sackP E_ii O_ii 81 cb es2 (max q n1) * (whole w0 * (sl 3 1 (.slice ad1 (xs1.foldl (fun s y => insR O_ii y s) []).length cap1) ((xs1.foldl (fun s y => insR O_ii y s) [])).length (((xs1.foldl (fun s y => insR O_ii y s) [])).map eI) * R)))))) w := hS.to (by ac_rfl)
      refine O_call rfl rfl rfl rfl Try.call19 rfl (has_ii (f2.2.2.2 ▸ sall_ii_iter) sl_rds rfl (by rw [insl_len]; omega) hS) (fun _ _ hv => trivial) ?_
      rintro _ w ⟨rfl, hS⟩
      replace hS : Sat w0 (sackP E_ii O_ii 81 s2 (xs2.foldl (fun s y => addE O_ii y s) []) 60 * (sl 3 1 (.slice ad2 (xs2.foldl (fun s y => insR O_ii y s) []).length cap2) ((xs2.foldl (fun s y => insR O_ii y s) [])).length (((xs2.foldl (fun s y => insR O_ii y s) [])).map eI) * (sackP E_ii O_ii 81 s1 ((expand (xs2.foldl (fun s y => addE O_ii y s) [])).foldl (fun s y => addE O_ii y s) (xs1.foldl (fun s y => addE O_ii y s) [])) (max q n1) * (sackP E_ii O_ii 81 cb es2 (max q n1) * (whole w0 * (sl 3 1 (.slice ad1 (xs1.foldl (fun s y => insR O_ii y s) []).length cap1) ((xs1.foldl (fun s y => insR O_ii y s) [])).length (((xs1.foldl (fun s y => insR O_ii y s) [])).map eI) * R)))))) w := Sat.drop (A := pt bx1 (.cells #[.pointer (some ⟨s2, 0, none⟩)] 24)) (hS.to (by ac_rfl))
      refine O_not rfl rfl rfl rfl rfl ?_
      refine O_pickF rfl rfl rfl rfl rfl rfl ?_
      refine O_move rfl rfl rfl rfl rfl ?_
      refine R_caseF (t := 70) rfl rfl ?_
      refine O_move rfl rfl rfl rfl rfl ?_
      refine O_call rfl rfl rfl rfl Try.call20 rfl (sAll_ii ⟨cb, rfl⟩ hS) (fun _ _ hv => trivial) ?_
      rintro _ w ⟨bx2, rfl, hS⟩
      replace hS : Sat w0 (pt bx2 (.cells #[.pointer (some ⟨cb, 0, none⟩)] 24) * (sackP E_ii O_ii 81 s2 (xs2.foldl (fun s y => addE O_ii y s) []) 60 * (sl 3 1 (.slice ad2 (xs2.foldl (fun s y => insR O_ii y s) []).length cap2) ((xs2.foldl (fun s y => insR O_ii y s) [])).length (((xs2.foldl (fun s y => insR O_ii y s) [])).map eI) * (sackP E_ii O_ii 81 s1 ((expand (xs2.foldl (fun s y => addE O_ii y s) [])).foldl (fun s y => addE O_ii y s) (xs1.foldl (fun s y => addE O_ii y s) [])) (max q n1) * (sackP E_ii O_ii 81 cb es2 (max q n1) * (whole w0 * (sl 3 1 (.slice ad1 (xs1.foldl (fun s y => insR O_ii y s) []).length cap1) ((xs1.foldl (fun s y => insR O_ii y s) [])).length (((xs1.foldl (fun s y => insR O_ii y s) [])).map eI) * R))))))) w := hS
      refine O_move rfl rfl rfl rfl rfl ?_
      replace hS : Sat w0 ((pt bx2 (.cells #[.pointer (some ⟨cb, 0, none⟩)] 24) * sackP E_ii O_ii 81 cb es2 (max q n1)) * (sl 3 1 (.slice ad1 (xs1.foldl (fun s y => insR O_ii y s) []).length cap1) ((xs1.foldl (fun s y => insR O_ii y s) [])).length (((xs1.foldl (fun s y => insR O_ii y s) [])).map eI) * (sackP E_ii O_ii 81 s2 (xs2.foldl (fun s y => addE O_ii y s) []) 60 * (sl 3 1 (.slice ad2 (xs2.foldl (fun s y => insR O_ii y s) []).length cap2) ((xs2.foldl (fun s y => insR O_ii y s) [])).length (((xs2.foldl (fun s y => insR O_ii y s) [])).map eI) * (sackP E_ii O_ii 81 s1 ((expand (xs2.foldl (fun s y => addE O_ii y s) [])).foldl (fun s y => addE O_ii y s) (xs1.foldl (fun s y => addE O_ii y s) [])) (max q n1) * (whole w0 * R)))))) w := hS.to (by ac_rfl)
      refine O_call rfl rfl rfl rfl Try.call19 rfl (has_ii (hcl ▸ sall_ii_iter) sl_rds rfl (by rw [insl_len]; omega) hS) (fun _ _ hv => trivial) ?_
      rintro _ w ⟨rfl, hS⟩
      replace hS : Sat w0 (sackP E_ii O_ii 81 cb es2 (max q n1) * (sl 3 1 (.slice ad1 (xs1.foldl (fun s y => insR O_ii y s) []).length cap1) ((xs1.foldl (fun s y => insR O_ii y s) [])).length (((xs1.foldl (fun s y => insR O_ii y s) [])).map eI) * (sackP E_ii O_ii 81 s2 (xs2.foldl (fun s y => addE O_ii y s) []) 60 * (sl 3 1 (.slice ad2 (xs2.foldl (fun s y => insR O_ii y s) []).length cap2) ((xs2.foldl (fun s y => insR O_ii y s) [])).length (((xs2.foldl (fun s y => insR O_ii y s) [])).map eI) * (sackP E_ii O_ii 81 s1 ((expand (xs2.foldl (fun s y => addE O_ii y s) [])).foldl (fun s y => addE O_ii y s) (xs1.foldl (fun s y => addE O_ii y s) [])) (max q n1) * (whole w0 * R)))))) w := Sat.drop (A := pt bx2 (.cells #[.pointer (some ⟨cb, 0, none⟩)] 24)) (hS.to (by ac_rfl))
      refine O_not rfl rfl rfl rfl rfl ?_
      refine O_pickF rfl rfl rfl rfl rfl rfl ?_
      refine O_move rfl rfl rfl rfl rfl ?_
      refine R_caseF (t := 77) rfl rfl ?_
      refine O_move rfl rfl rfl rfl rfl ?_
      replace hS : Sat w0 (sackP E_ii O_ii 81 cb es2 (max q n1) * (sl 3 1 (.slice ad1 (xs1.foldl (fun s y => insR O_ii y s) []).length cap1) ((xs1.foldl (fun s y => insR O_ii y s) [])).length (((xs1.foldl (fun s y => insR O_ii y s) [])).map eI) * (sackP E_ii O_ii 81 s2 (xs2.foldl (fun s y => addE O_ii y s) []) 60 * (sl 3 1 (.slice ad2 (xs2.foldl (fun s y => insR O_ii y s) []).length cap2) ((xs2.foldl (fun s y => insR O_ii y s) [])).length (((xs2.foldl (fun s y => insR O_ii y s) [])).map eI) * (sackP E_ii O_ii 81 s1 ((expand (xs2.foldl (fun s y => addE O_ii y s) [])).foldl (fun s y => addE O_ii y s) (xs1.foldl (fun s y => addE O_ii y s) [])) (max q n1) * (whole w0 * R)))))) w := hS.to (by ac_rfl)
      refine O_call rfl rfl rfl rfl Try.call17 rfl (pRoom_ii hS) (fun _ _ hv => trivial) ?_
      rintro _ w ⟨rfl, hS⟩
      refine O_move rfl rfl rfl rfl rfl ?_
      refine O_move rfl rfl rfl rfl rfl ?_
      refine O_lenSl rfl rfl rfl rfl rfl Try.runUnderlying28 ?_
      refine O_max2 rfl rfl rfl rfl rfl rfl ?_
      refine O_move rfl rfl rfl rfl rfl ?_
      refine O_lenSl rfl rfl rfl rfl rfl Try.runUnderlying28 ?_
      refine O_subN rfl rfl rfl rfl rfl rfl (by omega) ?_
      refine O_cmp rfl rfl rfl rfl rfl rfl rfl ?_
      refine O_pickF rfl rfl rfl rfl rfl rfl ?_
      refine R_nil ?_
      refine tn ?_
      refine F_false rfl (congrArg Bool.not (decide_eq_true hroom)) ?_
      refine F_skip ?_
      refine tn ?_
      refine F_seq ?_
      refine F_seq ?_
      refine F_region (p := ⟨_, [0, 0, 0, 0, 0, 0, 0, 0, 0, 0], []⟩) rfl [0, 1, 2, 3, 4, 5, 6, 7, 8, 9] rfl ?_
      refine O_move rfl rfl rfl rfl rfl ?_
      refine O_lenSl rfl rfl rfl rfl rfl Try.runUnderlying28 ?_
      refine O_move rfl rfl rfl rfl rfl ?_
      refine O_lenSl rfl rfl rfl rfl rfl Try.runUnderlying28 ?_
      refine O_addN rfl rfl rfl rfl rfl rfl (by omega) ?_
      refine O_move rfl rfl rfl rfl rfl ?_
      refine O_move rfl rfl rfl rfl rfl ?_
      refine O_lenSl rfl rfl rfl rfl rfl Try.runUnderlying28 ?_
      refine O_max2 rfl rfl rfl rfl rfl rfl ?_
      refine O_cmp rfl rfl rfl rfl rfl rfl rfl ?_
      refine R_nil ?_
      refine tn ?_
      refine F_false rfl (decide_eq_false (by omega)) ?_
      refine F_skip ?_
      refine tn ?_
      refine F_seq ?_
      refine F_region (p := ⟨_, [2, 0, 2, 0, 2, 2, 0, 0, 0, 0, 0, 0, 0], []⟩) rfl [0, 1, 2, 3, 4, 5, 6, 7, 8, 9, 10, 11, 12] rfl ?_
      refine O_sliceLit hS rfl rfl rfl rfl Try.runUnderlying28 Try.sizeOf3 Try.zeroValue3 rfl (by decide) rfl rfl rfl (cs := []) rfl rfl (fun _ _ _ => trivial) ?_
      intro bl1 w hS
      refine O_move rfl rfl rfl rfl rfl ?_
      replace hS : Sat w0 (sl 3 1 (.slice (some ⟨bl1, 0, none⟩) 0 0) 0 [] * (sackP E_ii O_ii 81 cb es2 (max q n1) * (sl 3 1 (.slice ad1 (xs1.foldl (fun s y => insR O_ii y s) []).length cap1) ((xs1.foldl (fun s y => insR O_ii y s) [])).length (((xs1.foldl (fun s y => insR O_ii y s) [])).map eI) * (sackP E_ii O_ii 81 s2 (xs2.foldl (fun s y => addE O_ii y s) []) 60 * (sl 3 1 (.slice ad2 (xs2.foldl (fun s y => insR O_ii y s) []).length cap2) ((xs2.foldl (fun s y => insR O_ii y s) [])).length (((xs2.foldl (fun s y => insR O_ii y s) [])).map eI) * (sackP E_ii O_ii 81 s1 ((expand (xs2.foldl (fun s y => addE O_ii y s) [])).foldl (fun s y => addE O_ii y s) (xs1.foldl (fun s y => addE O_ii y s) [])) (max q n1) * (whole w0 * R))))))) w := hS.to (by ac_rfl)
      have hrz1 := hA2 _ _ _ (hS.to (B := whole w0 * (sl 3 1 (.slice (some ⟨bl1, 0, none⟩) 0 0) 0 [] * (sackP E_ii O_ii 81 cb es2 (max q n1) * (sl 3 1 (.slice ad1 (xs1.foldl (fun s y => insR O_ii y s) []).length cap1) ((xs1.foldl (fun s y => insR O_ii y s) [])).length (((xs1.foldl (fun s y => insR O_ii y s) [])).map eI) * (sackP E_ii O_ii 81 s2 (xs2.foldl (fun s y => addE O_ii y s) []) 60 * (sl 3 1 (.slice ad2 (xs2.foldl (fun s y => insR O_ii y s) []).length cap2) ((xs2.foldl (fun s y => insR O_ii y s) [])).length (((xs2.foldl (fun s y => insR O_ii y s) [])).map eI) * (sackP E_ii O_ii 81 s1 ((expand (xs2.foldl (fun s y => addE O_ii y s) [])).foldl (fun s y => addE O_ii y s) (xs1.foldl (fun s y => addE O_ii y s) [])) (max q n1) * R))))))) (by ac_rfl))
      refine O_append (m := n2) (news := xs2.map eI) hS rfl rfl rfl rfl Try.underlying28 info_i rfl (by decide) rfl rfl (by rw [List.length_map, hn2, Nat.mul_one]) hnil2 hrz1 (by simp [Value.oneCell']) (by simp only [maxLen]; omega) (by omega) (fun _ _ _ => trivial) ?_
      intro vz1 w _ hS
      obtain ⟨adz1, capz1, rfl, hlez1, hcapz1, _⟩ := sl_form hS
      refine O_move rfl rfl rfl rfl rfl ?_
      replace hS : Sat w0 (sl 3 1 (.slice adz1 (0 + n2) capz1) (0 + n2) ([] ++ xs2.map eI) * (sackP E_ii O_ii 81 cb es2 (max q n1) * (sl 3 1 (.slice ad1 (xs1.foldl (fun s y => insR O_ii y s) []).length cap1) ((xs1.foldl (fun s y => insR O_ii y s) [])).length (((xs1.foldl (fun s y => insR O_ii y s) [])).map eI) * (sackP E_ii O_ii 81 s2 (xs2.foldl (fun s y => addE O_ii y s) []) 60 * (sl 3 1 (.slice ad2 (xs2.foldl (fun s y => insR O_ii y s) []).length cap2) ((xs2.foldl (fun s y => insR O_ii y s) [])).length (((xs2.foldl (fun s y => insR O_ii y s) [])).map eI) * (sackP E_ii O_ii 81 s1 ((expand (xs2.foldl (fun s y => addE O_ii y s) [])).foldl (fun s y => addE O_ii y s) (xs1.foldl (fun s y => addE O_ii y s) [])) (max q n1) * (whole w0 * R))))))) w := hS.to (by ac_rfl)
      have hrz2 := hA1 _ _ _ (hS.to (B := whole w0 * (sl 3 1 (.slice adz1 (0 + n2) capz1) (0 + n2) ([] ++ xs2.map eI) * (sackP E_ii O_ii 81 cb es2 (max q n1) * (sl 3 1 (.slice ad1 (xs1.foldl (fun s y => insR O_ii y s) []).length cap1) ((xs1.foldl (fun s y => insR O_ii y s) [])).length (((xs1.foldl (fun s y => insR O_ii y s) [])).map eI) * (sackP E_ii O_ii 81 s2 (xs2.foldl (fun s y => addE O_ii y s) []) 60 * (sl 3 1 (.slice ad2 (xs2.foldl (fun s y => insR O_ii y s) []).length cap2) ((xs2.foldl (fun s y => insR O_ii y s) [])).length (((xs2.foldl (fun s y => insR O_ii y s) [])).map eI) * (sackP E_ii O_ii 81 s1 ((expand (xs2.foldl (fun s y => addE O_ii y s) [])).foldl (fun s y => addE O_ii y s) (xs1.foldl (fun s y => addE O_ii y s) [])) (max q n1) * R))))))) (by ac_rfl))
      refine O_append (m := n1) (news := xs1.map eI) hS rfl rfl rfl rfl Try.underlying28 info_i rfl (by decide) rfl rfl (by rw [List.length_map, hn1, Nat.mul_one]) hnil1 hrz2 (by simp [Value.oneCell']) (by simp only [maxLen]; omega) (by omega) (fun _ _ _ => trivial) ?_
      intro vz2 w _ hS
      obtain ⟨adz2, capz2, rfl, hlez2, hcapz2, _⟩ := sl_form hS
      replace hS : Sat w0 (sl 3 1 (.slice adz2 (0 + n2 + n1) capz2) (0 + n2 + n1) ((xs2 ++ xs1).map eI) * (sackP E_ii O_ii 81 cb es2 (max q n1) * (sl 3 1 (.slice ad1 (xs1.foldl (fun s y => insR O_ii y s) []).length cap1) ((xs1.foldl (fun s y => insR O_ii y s) [])).length (((xs1.foldl (fun s y => insR O_ii y s) [])).map eI) * (sackP E_ii O_ii 81 s2 (xs2.foldl (fun s y => addE O_ii y s) []) 60 * (sl 3 1 (.slice ad2 (xs2.foldl (fun s y => insR O_ii y s) []).length cap2) ((xs2.foldl (fun s y => insR O_ii y s) [])).length (((xs2.foldl (fun s y => insR O_ii y s) [])).map eI) * (sackP E_ii O_ii 81 s1 ((expand (xs2.foldl (fun s y => addE O_ii y s) [])).foldl (fun s y => addE O_ii y s) (xs1.foldl (fun s y => addE O_ii y s) [])) (max q n1) * (whole w0 * R))))))) w := hS.to (by simp only [List.nil_append, ← List.map_append])
      refine O_call rfl rfl rfl rfl Try.call21 rfl (fill_ii sl_rds (by rw [List.length_append]; omega) (by omega) hS) (fun _ _ hv => trivial) ?_
      rintro _ w ⟨s3, v3, rfl, hS⟩
      obtain ⟨ad3, cap3, rfl, _, _, _⟩ := sl_form hS.b2
      refine O_move rfl rfl rfl rfl rfl ?_
      refine O_extract rfl rfl rfl rfl rfl rfl ?_
      refine O_extract rfl rfl rfl rfl rfl rfl ?_
      refine O_extract rfl rfl rfl rfl rfl rfl ?_
      refine O_assign rfl rfl rfl rfl rfl ?_
      refine O_assign rfl rfl rfl rfl rfl ?_
      refine O_assign rfl rfl rfl rfl rfl ?_
      refine R_nil ?_
      refine tn ?_
      refine F_seq ?_
      refine F_region (p := ⟨_, [0, 0, 0, 0, 0, 0, 0, 2, 0, 2, 0, 0, 0, 2, 0, 2, 0, 0, 0, 2, 0, 2, 0, 0, 0, 0, 2, 0, 2, 0, 0], []⟩) rfl [0, 1, 2, 3, 4, 5, 6, 7, 8, 9, 10, 11, 12, 13, 14, 15, 16, 17, 18, 19, 20, 21, 22, 23, 24, 25, 26, 27, 28, 29, 30] rfl ?_
      refine O_move rfl rfl rfl rfl rfl ?_
      refine O_cmp rfl rfl rfl rfl rfl rfl rfl ?_
      refine O_move rfl rfl rfl rfl rfl ?_
      refine R_caseT (t := 119) rfl rfl ?_
      refine O_move rfl rfl rfl rfl rfl ?_
      refine O_pickT rfl rfl rfl rfl rfl rfl ?_
      refine O_move rfl rfl rfl rfl rfl ?_
      refine R_caseT (t := 122) rfl rfl ?_
      refine O_move rfl rfl rfl rfl rfl ?_
      refine O_call rfl rfl rfl rfl Try.call20 rfl (sAll_ii ⟨s1, rfl⟩ hS) (fun _ _ hv => trivial) ?_
      rintro _ w ⟨bx3, rfl, hS⟩
      replace hS : Sat w0 (pt bx3 (.cells #[.pointer (some ⟨s1, 0, none⟩)] 24) * (sackP E_ii O_ii 81 s3 ((xs2 ++ xs1).foldl (fun s y => addE O_ii y s) []) 120 * (sl 3 1 (.slice ad3 ((xs2 ++ xs1).foldl (fun s y => insR O_ii y s) []).length cap3) (((xs2 ++ xs1).foldl (fun s y => insR O_ii y s) [])).length ((((xs2 ++ xs1).foldl (fun s y => insR O_ii y s) [])).map eI) * (sl 3 1 (.slice adz2 (0 + n2 + n1) capz2) (0 + n2 + n1) ((xs2 ++ xs1).map eI) * (sackP E_ii O_ii 81 cb es2 (max q n1) * (sl 3 1 (.slice ad1 (xs1.foldl (fun s y => insR O_ii y s) []).length cap1) ((xs1.foldl (fun s y => insR O_ii y s) [])).length (((xs1.foldl (fun s y => insR O_ii y s) [])).map eI) * (sackP E_ii O_ii 81 s2 (xs2.foldl (fun s y => addE O_ii y s) []) 60 * (sl 3 1 (.slice ad2 (xs2.foldl (fun s y => insR O_ii y s) []).length cap2) ((xs2.foldl (fun s y => insR O_ii y s) [])).length (((xs2.foldl (fun s y => insR O_ii y s) [])).map eI) * (sackP E_ii O_ii 81 s1 ((expand (xs2.foldl (fun s y => addE O_ii y s) [])).foldl (fun s y => addE O_ii y s) (xs1.foldl (fun s y => addE O_ii y s) [])) (max q n1) * (whole w0 * R)))))))))) w := hS
      refine O_move rfl rfl rfl rfl rfl ?_
      replace hS : Sat w0 ((pt bx3 (.cells #[.pointer (some ⟨s1, 0, none⟩)] 24) * sackP E_ii O_ii 81 s1 ((expand (xs2.foldl (fun s y => addE O_ii y s) [])).foldl (fun s y => addE O_ii y s) (xs1.foldl (fun s y => addE O_ii y s) [])) (max q n1)) * (sl 3 1 (.slice ad3 ((xs2 ++ xs1).foldl (fun s y => insR O_ii y s) []).length cap3) (((xs2 ++ xs1).foldl (fun s y => insR O_ii y s) [])).length ((((xs2 ++ xs1).foldl (fun s y => insR O_ii y s) [])).map eI) * (sackP E_ii O_ii 81 s3 ((xs2 ++ xs1).foldl (fun s y => addE O_ii y s) []) 120 * (sl 3 1 (.slice adz2 (0 + n2 + n1) capz2) (0 + n2 + n1) ((xs2 ++ xs1).map eI) * (sackP E_ii O_ii 81 cb es2 (max q n1) * (sl 3 1 (.slice ad1 (xs1.foldl (fun s y => insR O_ii y s) []).length cap1) ((xs1.foldl (fun s y => insR O_ii y s) [])).length (((xs1.foldl (fun s y => insR O_ii y s) [])).map eI) * (sackP E_ii O_ii 81 s2 (xs2.foldl (fun s y => addE O_ii y s) []) 60 * (sl 3 1 (.slice ad2 (xs2.foldl (fun s y => insR O_ii y s) []).length cap2) ((xs2.foldl (fun s y => insR O_ii y s) [])).length (((xs2.foldl (fun s y => insR O_ii y s) [])).map eI) * (whole w0 * R))))))))) w := hS.to (by ac_rfl)
      refine O_call rfl rfl rfl rfl Try.call19 rfl (has_ii (hmg ▸ sall_ii_iter) sl_rds rfl (by rw [insl_len, List.length_append]; omega) hS) (fun _ _ hv => trivial) ?_
      rintro _ w ⟨rfl, hS⟩
      replace hS : Sat w0 (sackP E_ii O_ii 81 s1 ((expand (xs2.foldl (fun s y => addE O_ii y s) [])).foldl (fun s y => addE O_ii y s) (xs1.foldl (fun s y => addE O_ii y s) [])) (max q n1) * (sl 3 1 (.slice ad3 ((xs2 ++ xs1).foldl (fun s y => insR O_ii y s) []).length cap3) (((xs2 ++ xs1).foldl (fun s y => insR O_ii y s) [])).length ((((xs2 ++ xs1).foldl (fun s y => insR O_ii y s) [])).map eI) * (sackP E_ii O_ii 81 s3 ((xs2 ++ xs1).foldl (fun s y => addE O_ii y s) []) 120 * (sl 3 1 (.slice adz2 (0 + n2 + n1) capz2) (0 + n2 + n1) ((xs2 ++ xs1).map eI) * (sackP E_ii O_ii 81 cb es2 (max q n1) * (sl 3 1 (.slice ad1 (xs1.foldl (fun s y => insR O_ii y s) []).length cap1) ((xs1.foldl (fun s y => insR O_ii y s) [])).length (((xs1.foldl (fun s y => insR O_ii y s) [])).map eI) * (sackP E_ii O_ii 81 s2 (xs2.foldl (fun s y => addE O_ii y s) []) 60 * (sl 3 1 (.slice ad2 (xs2.foldl (fun s y => insR O_ii y s) []).length cap2) ((xs2.foldl (fun s y => insR O_ii y s) [])).length (((xs2.foldl (fun s y => insR O_ii y s) [])).map eI) * (whole w0 * R))))))))) w := Sat.drop (A := pt bx3 (.cells #[.pointer (some ⟨s1, 0, none⟩)] 24)) (hS.to (by ac_rfl))
      refine O_pickT rfl rfl rfl rfl rfl rfl ?_
      refine O_move rfl rfl rfl rfl rfl ?_
      refine R_caseT (t := 128) rfl rfl ?_
      refine O_move rfl rfl rfl rfl rfl ?_
      refine O_call rfl rfl rfl rfl Try.call20 rfl (sAll_ii ⟨s3, rfl⟩ hS) (fun _ _ hv => trivial) ?_
      rintro _ w ⟨bx4, rfl, hS⟩
      replace hS : Sat w0 (pt bx4 (.cells #[.pointer (some ⟨s3, 0, none⟩)] 24) * (sackP E_ii O_ii 81 s1 ((expand (xs2.foldl (fun s y => addE O_ii y s) [])).foldl (fun s y => addE O_ii y s) (xs1.foldl (fun s y => addE O_ii y s) [])) (max q n1) * (sl 3 1 (.slice ad3 ((xs2 ++ xs1).foldl (fun s y => insR O_ii y s) []).length cap3) (((xs2 ++ xs1).foldl (fun s y => insR O_ii y s) [])).length ((((xs2 ++ xs1).foldl (fun s y => insR O_ii y s) [])).map eI) * (sackP E_ii O_ii 81 s3 ((xs2 ++ xs1).foldl (fun s y => addE O_ii y s) []) 120 * (sl 3 1 (.slice adz2 (0 + n2 + n1) capz2) (0 + n2 + n1) ((xs2 ++ xs1).map eI) * (sackP E_ii O_ii 81 cb es2 (max q n1) * (sl 3 1 (.slice ad1 (xs1.foldl (fun s y => insR O_ii y s) []).length cap1) ((xs1.foldl (fun s y => insR O_ii y s) [])).length (((xs1.foldl (fun s y => insR O_ii y s) [])).map eI) * (sackP E_ii O_ii 81 s2 (xs2.foldl (fun s y => addE O_ii y s) []) 60 * (sl 3 1 (.slice ad2 (xs2.foldl (fun s y => insR O_ii y s) []).length cap2) ((xs2.foldl (fun s y => insR O_ii y s) [])).length (((xs2.foldl (fun s y => insR O_ii y s) [])).map eI) * (whole w0 * R)))))))))) w := hS
      refine O_move rfl rfl rfl rfl rfl ?_
      replace hS : Sat w0 ((pt bx4 (.cells #[.pointer (some ⟨s3, 0, none⟩)] 24) * sackP E_ii O_ii 81 s3 ((xs2 ++ xs1).foldl (fun s y => addE O_ii y s) []) 120) * (sl 3 1 (.slice ad3 ((xs2 ++ xs1).foldl (fun s y => insR O_ii y s) []).length cap3) (((xs2 ++ xs1).foldl (fun s y => insR O_ii y s) [])).length ((((xs2 ++ xs1).foldl (fun s y => insR O_ii y s) [])).map eI) * (sackP E_ii O_ii 81 s1 ((expand (xs2.foldl (fun s y => addE O_ii y s) [])).foldl (fun s y => addE O_ii y s) (xs1.foldl (fun s y => addE O_ii y s) [])) (max q n1) * (sl 3 1 (.slice adz2 (0 + n2 + n1) capz2) (0 + n2 + n1) ((xs2 ++ xs1).map eI) * (sackP E_ii O_ii 81 cb es2 (max q n1) * (sl 3 1 (.slice ad1 (xs1.foldl (fun s y => insR O_ii y s) []).length cap1) ((xs1.foldl (fun s y => insR O_ii y s) [])).length (((xs1.foldl (fun s y => insR O_ii y s) [])).map eI) * (sackP E_ii O_ii 81 s2 (xs2.foldl (fun s y => addE O_ii y s) []) 60 * (sl 3 1 (.slice ad2 (xs2.foldl (fun s y => insR O_ii y s) []).length cap2) ((xs2.foldl (fun s y => insR O_ii y s) [])).length (((xs2.foldl (fun s y => insR O_ii y s) [])).map eI) * (whole w0 * R))))))))) w := hS.to (by ac_rfl)
      refine O_call rfl rfl rfl rfl Try.call19 rfl (has_ii (f3.2.2.2 ▸ sall_ii_iter) sl_rds rfl (by rw [insl_len, List.length_append]; omega) hS) (fun _ _ hv => trivial) ?_
      rintro _ w ⟨rfl, hS⟩
      replace hS : Sat w0 (sackP E_ii O_ii 81 s3 ((xs2 ++ xs1).foldl (fun s y => addE O_ii y s) []) 120 * (sl 3 1 (.slice ad3 ((xs2 ++ xs1).foldl (fun s y => insR O_ii y s) []).length cap3) (((xs2 ++ xs1).foldl (fun s y => insR O_ii y s) [])).length ((((xs2 ++ xs1).foldl (fun s y => insR O_ii y s) [])).map eI) * (sackP E_ii O_ii 81 s1 ((expand (xs2.foldl (fun s y => addE O_ii y s) [])).foldl (fun s y => addE O_ii y s) (xs1.foldl (fun s y => addE O_ii y s) [])) (max q n1) * (sl 3 1 (.slice adz2 (0 + n2 + n1) capz2) (0 + n2 + n1) ((xs2 ++ xs1).map eI) * (sackP E_ii O_ii 81 cb es2 (max q n1) * (sl 3 1 (.slice ad1 (xs1.foldl (fun s y => insR O_ii y s) []).length cap1) ((xs1.foldl (fun s y => insR O_ii y s) [])).length (((xs1.foldl (fun s y => insR O_ii y s) [])).map eI) * (sackP E_ii O_ii 81 s2 (xs2.foldl (fun s y => addE O_ii y s) []) 60 * (sl 3 1 (.slice ad2 (xs2.foldl (fun s y => insR O_ii y s) []).length cap2) ((xs2.foldl (fun s y => insR O_ii y s) [])).length (((xs2.foldl (fun s y => insR O_ii y s) [])).map eI) * (whole w0 * R))))))))) w := Sat.drop (A := pt bx4 (.cells #[.pointer (some ⟨s3, 0, none⟩)] 24)) (hS.to (by ac_rfl))
      refine O_pickT rfl rfl rfl rfl rfl rfl ?_
      refine O_move rfl rfl rfl rfl rfl ?_
      refine R_caseT (t := 134) rfl rfl ?_
      refine O_move rfl rfl rfl rfl rfl ?_
      replace hS : Sat w0 (sackP E_ii O_ii 81 cb es2 (max q n1) * (sackP E_ii O_ii 81 s3 ((xs2 ++ xs1).foldl (fun s y => addE O_ii y s) []) 120 * (sl 3 1 (.slice ad3 ((xs2 ++ xs1).foldl (fun s y => insR O_ii y s) []).length cap3) (((xs2 ++ xs1).foldl (fun s y => insR O_ii y s) [])).length ((((xs2 ++ xs1).foldl (fun s y => insR O_ii y s) [])).map eI) * (sackP E_ii O_ii 81 s1 ((expand (xs2.foldl (fun s y => addE O_ii y s) [])).foldl (fun s y => addE O_ii y s) (xs1.foldl (fun s y => addE O_ii y s) [])) (max q n1) * (sl 3 1 (.slice adz2 (0 + n2 + n1) capz2) (0 + n2 + n1) ((xs2 ++ xs1).map eI) * (sl 3 1 (.slice ad1 (xs1.foldl (fun s y => insR O_ii y s) []).length cap1) ((xs1.foldl (fun s y => insR O_ii y s) [])).length (((xs1.foldl (fun s y => insR O_ii y s) [])).map eI) * (sackP E_ii O_ii 81 s2 (xs2.foldl (fun s y => addE O_ii y s) []) 60 * (sl 3 1 (.slice ad2 (xs2.foldl (fun s y => insR O_ii y s) []).length cap2) ((xs2.foldl (fun s y => insR O_ii y s) [])).length (((xs2.foldl (fun s y => insR O_ii y s) [])).map eI) * (whole w0 * R))))))))) w := hS.to (by ac_rfl)
      refine O_call rfl rfl rfl rfl Try.call14 rfl (sDrop_ii 0 hS) (fun _ _ hv => trivial) ?_
      rintro _ w ⟨rfl, hS⟩
      refine O_move rfl rfl rfl rfl rfl ?_
      replace hS : Sat w0 (sl 3 1 (.slice ad1 (xs1.foldl (fun s y => insR O_ii y s) []).length cap1) ((xs1.foldl (fun s y => insR O_ii y s) [])).length (((xs1.foldl (fun s y => insR O_ii y s) [])).map eI) * (sackP E_ii O_ii 81 cb (dropE O_ii 0 es2) (max q n1) * (sackP E_ii O_ii 81 s3 ((xs2 ++ xs1).foldl (fun s y => addE O_ii y s) []) 120 * (sl 3 1 (.slice ad3 ((xs2 ++ xs1).foldl (fun s y => insR O_ii y s) []).length cap3) (((xs2 ++ xs1).foldl (fun s y => insR O_ii y s) [])).length ((((xs2 ++ xs1).foldl (fun s y => insR O_ii y s) [])).map eI) * (sackP E_ii O_ii 81 s1 ((expand (xs2.foldl (fun s y => addE O_ii y s) [])).foldl (fun s y => addE O_ii y s) (xs1.foldl (fun s y => addE O_ii y s) [])) (max q n1) * (sl 3 1 (.slice adz2 (0 + n2 + n1) capz2) (0 + n2 + n1) ((xs2 ++ xs1).map eI) * (sackP E_ii O_ii 81 s2 (xs2.foldl (fun s y => addE O_ii y s) []) 60 * (sl 3 1 (.slice ad2 (xs2.foldl (fun s y => insR O_ii y s) []).length cap2) ((xs2.foldl (fun s y => insR O_ii y s) [])).length (((xs2.foldl (fun s y => insR O_ii y s) [])).map eI) * (whole w0 * R))))))))) w := hS.to (by ac_rfl)
      refine O_call rfl rfl rfl rfl Try.call23 rfl (missing_ii (by rw [insl_len]; omega) 0 hS) (fun _ _ hv => trivial) ?_
      rintro _ w ⟨rfl, hS⟩
      refine O_cmp rfl rfl rfl rfl rfl rfl rfl ?_
      refine O_pickT rfl rfl rfl rfl rfl rfl ?_
      refine O_move rfl rfl rfl rfl rfl ?_
      refine R_caseT (t := 141) rfl (decide_eq_true hmiss) ?_
      refine O_move rfl rfl rfl rfl rfl ?_
      refine O_call rfl rfl rfl rfl Try.call20 rfl (sAll_ii ⟨s1, rfl⟩ hS) (fun _ _ hv => trivial) ?_
      rintro _ w ⟨bx5, rfl, hS⟩
      replace hS : Sat w0 (pt bx5 (.cells #[.pointer (some ⟨s1, 0, none⟩)] 24) * (sl 3 1 (.slice ad1 (xs1.foldl (fun s y => insR O_ii y s) []).length cap1) ((xs1.foldl (fun s y => insR O_ii y s) [])).length (((xs1.foldl (fun s y => insR O_ii y s) [])).map eI) * (sackP E_ii O_ii 81 cb (dropE O_ii 0 es2) (max q n1) * (sackP E_ii O_ii 81 s3 ((xs2 ++ xs1).foldl (fun s y => addE O_ii y s) []) 120 * (sl 3 1 (.slice ad3 ((xs2 ++ xs1).foldl (fun s y => insR O_ii y s) []).length cap3) (((xs2 ++ xs1).foldl (fun s y => insR O_ii y s) [])).length ((((xs2 ++ xs1).foldl (fun s y => insR O_ii y s) [])).map eI) * (sackP E_ii O_ii 81 s1 ((expand (xs2.foldl (fun s y => addE O_ii y s) [])).foldl (fun s y => addE O_ii y s) (xs1.foldl (fun s y => addE O_ii y s) [])) (max q n1) * (sl 3 1 (.slice adz2 (0 + n2 + n1) capz2) (0 + n2 + n1) ((xs2 ++ xs1).map eI) * (sackP E_ii O_ii 81 s2 (xs2.foldl (fun s y => addE O_ii y s) []) 60 * (sl 3 1 (.slice ad2 (xs2.foldl (fun s y => insR O_ii y s) []).length cap2) ((xs2.foldl (fun s y => insR O_ii y s) [])).length (((xs2.foldl (fun s y => insR O_ii y s) [])).map eI) * (whole w0 * R)))))))))) w := hS
      refine O_move rfl rfl rfl rfl rfl ?_
      replace hS : Sat w0 ((pt bx5 (.cells #[.pointer (some ⟨s1, 0, none⟩)] 24) * sackP E_ii O_ii 81 s1 ((expand (xs2.foldl (fun s y => addE O_ii y s) [])).foldl (fun s y => addE O_ii y s) (xs1.foldl (fun s y => addE O_ii y s) [])) (max q n1)) * (sl 3 1 (.slice ad3 ((xs2 ++ xs1).foldl (fun s y => insR O_ii y s) []).length cap3) (((xs2 ++ xs1).foldl (fun s y => insR O_ii y s) [])).length ((((xs2 ++ xs1).foldl (fun s y => insR O_ii y s) [])).map eI) * (sl 3 1 (.slice ad1 (xs1.foldl (fun s y => insR O_ii y s) []).length cap1) ((xs1.foldl (fun s y => insR O_ii y s) [])).length (((xs1.foldl (fun s y => insR O_ii y s) [])).map eI) * (sackP E_ii O_ii 81 cb (dropE O_ii 0 es2) (max q n1) * (sackP E_ii O_ii 81 s3 ((xs2 ++ xs1).foldl (fun s y => addE O_ii y s) []) 120 * (sl 3 1 (.slice adz2 (0 + n2 + n1) capz2) (0 + n2 + n1) ((xs2 ++ xs1).map eI) * (sackP E_ii O_ii 81 s2 (xs2.foldl (fun s y => addE O_ii y s) []) 60 * (sl 3 1 (.slice ad2 (xs2.foldl (fun s y => insR O_ii y s) []).length cap2) ((xs2.foldl (fun s y => insR O_ii y s) [])).length (((xs2.foldl (fun s y => insR O_ii y s) [])).map eI) * (whole w0 * R))))))))) w := hS.to (by ac_rfl)
      refine O_call rfl rfl rfl rfl Try.call19 rfl (has_ii (hmg ▸ sall_ii_iter) sl_rds rfl (by rw [insl_len, List.length_append]; omega) hS) (fun _ _ hv => trivial) ?_
      rintro _ w ⟨rfl, hS⟩
      replace hS : Sat w0 (sackP E_ii O_ii 81 s1 ((expand (xs2.foldl (fun s y => addE O_ii y s) [])).foldl (fun s y => addE O_ii y s) (xs1.foldl (fun s y => addE O_ii y s) [])) (max q n1) * (sl 3 1 (.slice ad3 ((xs2 ++ xs1).foldl (fun s y => insR O_ii y s) []).length cap3) (((xs2 ++ xs1).foldl (fun s y => insR O_ii y s) [])).length ((((xs2 ++ xs1).foldl (fun s y => insR O_ii y s) [])).map eI) * (sl 3 1 (.slice ad1 (xs1.foldl (fun s y => insR O_ii y s) []).length cap1) ((xs1.foldl (fun s y => insR O_ii y s) [])).length (((xs1.foldl (fun s y => insR O_ii y s) [])).map eI) * (sackP E_ii O_ii 81 cb (dropE O_ii 0 es2) (max q n1) * (sackP E_ii O_ii 81 s3 ((xs2 ++ xs1).foldl (fun s y => addE O_ii y s) []) 120 * (sl 3 1 (.slice adz2 (0 + n2 + n1) capz2) (0 + n2 + n1) ((xs2 ++ xs1).map eI) * (sackP E_ii O_ii 81 s2 (xs2.foldl (fun s y => addE O_ii y s) []) 60 * (sl 3 1 (.slice ad2 (xs2.foldl (fun s y => insR O_ii y s) []).length cap2) ((xs2.foldl (fun s y => insR O_ii y s) [])).length (((xs2.foldl (fun s y => insR O_ii y s) [])).map eI) * (whole w0 * R))))))))) w := Sat.drop (A := pt bx5 (.cells #[.pointer (some ⟨s1, 0, none⟩)] 24)) (hS.to (by ac_rfl))
      refine O_pickT rfl rfl rfl rfl rfl rfl ?_
      refine O_assign rfl rfl rfl rfl rfl ?_
      refine R_nil ?_
      refine tn ?_
      refine F_ret ?_
      replace hS : Sat w0 (whole w0 * R) w := Sat.drop (A := sackP E_ii O_ii 81 s1 ((expand (xs2.foldl (fun s y => addE O_ii y s) [])).foldl (fun s y => addE O_ii y s) (xs1.foldl (fun s y => addE O_ii y s) [])) (max q n1) * sl 3 1 (.slice ad3 ((xs2 ++ xs1).foldl (fun s y => insR O_ii y s) []).length cap3) (((xs2 ++ xs1).foldl (fun s y => insR O_ii y s) [])).length ((((xs2 ++ xs1).foldl (fun s y => insR O_ii y s) [])).map eI) * sl 3 1 (.slice ad1 (xs1.foldl (fun s y => insR O_ii y s) []).length cap1) ((xs1.foldl (fun s y => insR O_ii y s) [])).length (((xs1.foldl (fun s y => insR O_ii y s) [])).map eI) * sackP E_ii O_ii 81 cb (dropE O_ii 0 es2) (max q n1) * sackP E_ii O_ii 81 s3 ((xs2 ++ xs1).foldl (fun s y => addE O_ii y s) []) 120 * sl 3 1 (.slice adz2 (0 + n2 + n1) capz2) (0 + n2 + n1) ((xs2 ++ xs1).map eI) * sackP E_ii O_ii 81 s2 (xs2.foldl (fun s y => addE O_ii y s) []) 60 * sl 3 1 (.slice ad2 (xs2.foldl (fun s y => insR O_ii y s) []).length cap2) ((xs2.foldl (fun s y => insR O_ii y s) [])).length (((xs2.foldl (fun s y => insR O_ii y s) [])).map eI)) (hS.to (by ac_rfl))
      show endF _ _ _ _ _ _
      refine end0 trivial rfl rfl rfl hS ?_
      intro w hS
      exact ⟨congrArg Value.bool rfl, hS⟩
end Go.Proofs.Ytpnigaoibhogfaa
