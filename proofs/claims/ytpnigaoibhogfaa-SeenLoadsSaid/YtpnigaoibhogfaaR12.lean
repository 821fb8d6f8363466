/- YtpnigaoibhogfaaR12: a part of the proof: walks over the translated code, and plain facts on lists beside. -/
import Derived.Test.YtpnigaoibhogfaaR0
import Derived.Test.YtpnigaoibhogfaaR3
import Derived.Test.YtpnigaoibhogfaaSlLaw
import Derived.Test.YtpnigaoibhogfaaSlRd
set_option linter.all false
namespace Go.Proofs.Ytpnigaoibhogfaa
open Go Go.RowKit Go.Sl
set_option linter.unusedVariables false
theorem rMany_ii {w0 w : World} {R A : HProp} {ad : Option Addr} {n c : Nat} {xs : List Int} (hA : Rds A ad (xs.map eI)) (hn : xs.length = n) (hb : n ≤ 100000) (k : Int) (hS : Sat w0 (A * R) w) :
    Calls Try.prog 12 #[.slice ad n c, eI k] w (ret fun u w' => u = .int .i64 (cntR O_ii k xs) ∧ Sat w0 (A * R) w') := by
  refine enterF (args := [_, _]) Try.func12 rfl Try.ntmps12 rfl rfl ?_
  refine F_seq ?_
  refine F_region (p := ⟨_, [0], []⟩) rfl [0] rfl ?_
  refine O_assign rfl rfl rfl rfl rfl ?_
  refine R_nil ?_
  refine tn ?_
  refine F_seq ?_
  refine F_region (p := ⟨_, [0], []⟩) rfl [0] rfl ?_
  refine O_assign rfl rfl rfl rfl rfl ?_
  refine R_nil ?_
  refine tn ?_
  refine F_seq ?_
  refine F_seq ?_
  refine F_region (p := ⟨_, [0, 0, 0], []⟩) rfl [0, 1, 2] rfl ?_
  refine O_move rfl rfl rfl rfl rfl ?_
  refine O_lenSl rfl rfl rfl rfl rfl Try.runUnderlying28 ?_
  refine O_move rfl rfl rfl rfl rfl ?_
  refine R_nil ?_
  refine tn ?_
  refine F_block ?_
  refine F_loop2 (fun (pre _ : List Int) => [(0, .slice ad n c), (1, eI k), (5, .int .i64 (cntR O_ii k pre)), (8, .int .i64 n), (9, .int .i64 (pre.length : Nat))]) (fun pre post w => xs = pre ++ post ∧ Sat w0 (A * R) w) (fun _ post => post.length) [] xs ⟨rfl, rfl, rfl, rfl, rfl, trivial⟩ ⟨rfl, hS⟩ ?_
  clear hS
  rintro pre post w ⟨hx, hS⟩
  have hcr := cntR_le (O := O_ii) (x := k) pre
  have hl : pre.length + post.length = n := by rw [← hn, hx, List.length_append]
  cases post with
  | nil =>
    simp only [List.length_nil, Nat.add_zero] at hl
    rw [List.append_nil] at hx
    subst hx
    refine F_seq ?_
    refine F_region (p := ⟨_, [0], []⟩) rfl [0] rfl ?_
    refine O_cmp rfl rfl rfl rfl rfl rfl rfl ?_
    refine R_nil ?_
    refine tn ?_
    refine F_seq ?_
    refine F_false rfl (decide_eq_false (by omega)) ?_
    refine F_exit ?_
    refine tx ?_
    refine tx ?_
    refine Go.Sl.bx rfl ?_
    refine tn ?_
    refine F_seq ?_
    refine F_region (p := ⟨_, [0, 0], []⟩) rfl [0, 1] rfl ?_
    refine O_move rfl rfl rfl rfl rfl ?_
    refine O_assign rfl rfl rfl rfl rfl ?_
    refine R_nil ?_
    refine tn ?_
    refine F_ret ?_
    show endF _ _ _ _ _ _
    refine end0 trivial rfl rfl rfl hS ?_
    intro w hS
    exact ⟨rfl, hS⟩
  | cons x post =>
    simp only [List.length_cons] at hl
    obtain ⟨eb, eo, had, hcell⟩ := el1 (m := pre.length) (u := eI x) (hA _ _ _ hS) (by rw [hx]; simp)
    have hs : cntR O_ii k (pre ++ [x]) = cntR O_ii k pre + cntR O_ii k [x] := cntR_app
    by_cases hxk : x = k
    · rw [show cntR O_ii k [x] = 1 by rw [hxk]; exact cntR_one_eq] at hs
      refine F_seq ?_
      refine F_region (p := ⟨_, [0], []⟩) rfl [0] rfl ?_
      refine O_cmp rfl rfl rfl rfl rfl rfl rfl ?_
      refine R_nil ?_
      refine tn ?_
      refine F_seq ?_
      refine F_true rfl (decide_eq_true (by omega)) ?_
      refine F_skip ?_
      refine tn ?_
      refine F_seq ?_
      refine F_block ?_
      refine F_seq ?_
      refine F_region (p := ⟨_, [0, 0], []⟩) rfl [0, 1] rfl ?_
      refine O_move rfl rfl rfl rfl rfl ?_
      refine O_assign rfl rfl rfl rfl rfl ?_
      refine R_nil ?_
      refine tn ?_
      refine F_seq ?_
      refine F_region (p := ⟨_, [0, 0, 0, 1, 0, 0], []⟩) rfl [0, 1, 2, 3, 4, 5] rfl ?_
      refine O_move rfl rfl rfl rfl rfl ?_
      refine O_move rfl rfl rfl rfl rfl ?_
      refine O_indexSlE (m := pre.length) rfl rfl rfl rfl Try.runUnderlying28 Try.sizeOf3 rfl had rfl rfl (by omega) ?_
      refine O_load rfl rfl rfl rfl rfl Try.isAgg3 hcell (by trivial) ?_
      refine O_move rfl rfl rfl rfl rfl ?_
      refine O_cmp rfl rfl rfl rfl rfl rfl rfl ?_
      refine R_nil ?_
      refine tn ?_
      refine F_true rfl (decide_eq_true hxk) ?_
      refine F_region (p := ⟨_, [0, 0, 0], []⟩) rfl [0, 1, 2] rfl ?_
      refine O_move rfl rfl rfl rfl rfl ?_
      refine O_addN rfl rfl rfl rfl rfl rfl (by first | omega | (dsimp only; omega)) ?_
      refine O_assign rfl rfl rfl rfl rfl ?_
      refine R_nil ?_
      refine bn ?_
      refine tn ?_
      refine F_region (p := ⟨_, [0, 0], []⟩) rfl [0, 1] rfl ?_
      refine O_addN rfl rfl rfl rfl rfl rfl (by first | omega | (dsimp only; omega)) ?_
      refine O_move rfl rfl rfl rfl rfl ?_
      refine R_nil ?_
      refine tn ⟨rfl, rfl, (pre ++ [x], post), ⟨rfl, rfl, congrArg (fun z => some (Value.int .i64 z)) hs.symm, rfl, congrArg (fun z : Nat => some (Value.int .i64 z)) (show pre.length + 1 = (pre ++ [x]).length by simp), trivial⟩, ⟨by rw [hx]; simp, hS⟩, Nat.lt_succ_self _⟩
    · rw [cntR_one_ne hxk, Int.add_zero] at hs
      refine F_seq ?_
      refine F_region (p := ⟨_, [0], []⟩) rfl [0] rfl ?_
      refine O_cmp rfl rfl rfl rfl rfl rfl rfl ?_
      refine R_nil ?_
      refine tn ?_
      refine F_seq ?_
      refine F_true rfl (decide_eq_true (by omega)) ?_
      refine F_skip ?_
      refine tn ?_
      refine F_seq ?_
      refine F_block ?_
      refine F_seq ?_
      refine F_region (p := ⟨_, [0, 0], []⟩) rfl [0, 1] rfl ?_
      refine O_move rfl rfl rfl rfl rfl ?_
      refine O_assign rfl rfl rfl rfl rfl ?_
      refine R_nil ?_
      refine tn ?_
      refine F_seq ?_
      refine F_region (p := ⟨_, [0, 0, 0, 1, 0, 0], []⟩) rfl [0, 1, 2, 3, 4, 5] rfl ?_
      refine O_move rfl rfl rfl rfl rfl ?_
      refine O_move rfl rfl rfl rfl rfl ?_
      refine O_indexSlE (m := pre.length) rfl rfl rfl rfl Try.runUnderlying28 Try.sizeOf3 rfl had rfl rfl (by omega) ?_
      refine O_load rfl rfl rfl rfl rfl Try.isAgg3 hcell (by trivial) ?_
      refine O_move rfl rfl rfl rfl rfl ?_
      refine O_cmp rfl rfl rfl rfl rfl rfl rfl ?_
      refine R_nil ?_
      refine tn ?_
      refine F_false rfl (decide_eq_false hxk) ?_
      refine F_skip ?_
      refine bn ?_
      refine tn ?_
      refine F_region (p := ⟨_, [0, 0], []⟩) rfl [0, 1] rfl ?_
      refine O_addN rfl rfl rfl rfl rfl rfl (by first | omega | (dsimp only; omega)) ?_
      refine O_move rfl rfl rfl rfl rfl ?_
      refine R_nil ?_
      refine tn ⟨rfl, rfl, (pre ++ [x], post), ⟨rfl, rfl, congrArg (fun z => some (Value.int .i64 z)) hs.symm, rfl, congrArg (fun z : Nat => some (Value.int .i64 z)) (show pre.length + 1 = (pre ++ [x]).length by simp), trivial⟩, ⟨by rw [hx]; simp, hS⟩, Nat.lt_succ_self _⟩
theorem rAddR_ii {w0 w : World} {R A : HProp} {ad : Option Addr} {c : Nat} {xs : List Int} (hle : xs.length ≤ c) (hcap : c ≤ maxLen) (hnil : ad = none → c = 0) (hA : Rds A ad (xs.map eI)) (hb : xs.length ≤ 100000) (k : Int) (hS : Sat w0 (A * R) w) :
    Calls Try.prog 10 #[.slice ad xs.length c, eI k] w (ret fun u w' => Sat w0 (sl 3 1 u ((insR O_ii k xs)).length (((insR O_ii k xs)).map eI) * (A * R)) w') := by
  generalize hn : xs.length = n at *
  refine enterF (args := [_, _]) Try.func10 rfl Try.ntmps10 rfl rfl ?_
  refine F_seq ?_
  refine F_region (p := ⟨_, [0], []⟩) rfl [0] rfl ?_
  refine O_assign rfl rfl rfl rfl rfl ?_
  refine R_nil ?_
  refine tn ?_
  refine F_seq ?_
  refine F_region (p := ⟨_, [0], []⟩) rfl [0] rfl ?_
  refine O_assign rfl rfl rfl rfl rfl ?_
  refine R_nil ?_
  refine tn ?_
  refine F_seq ?_
  refine F_block ?_
  refine F_loop2 (fun (pre _ : List Int) => [(0, .slice ad n c), (1, eI k), (5, .int .i64 (pre.length : Nat))]) (fun pre post w => (xs = pre ++ post ∧ ∀ y ∈ pre, O_ii.lt k y = false) ∧ Sat w0 (A * R) w) (fun _ post => post.length) [] xs ⟨rfl, rfl, rfl, trivial⟩ ⟨⟨rfl, fun _ h => by cases h⟩, hS⟩ ?_
  clear hS
  rintro pre post w ⟨⟨hx, hne⟩, hS⟩
  have hl : pre.length + post.length = n := by rw [← hn, hx, List.length_append]
  rcases post with _ | ⟨x, post⟩
  · simp only [List.length_nil, Nat.add_zero] at hl
    have hlast : ∀ z q, ([] : List Int) = z :: q → O_ii.lt k z = true := fun _ _ e => by cases e
    refine F_seq ?_
    refine F_seq ?_
    refine F_region (p := ⟨_, [0, 0, 0, 0, 0, 0, 0, 0, 1, 0, 0, 0], []⟩) rfl [0, 1, 2, 3, 4, 5, 6, 7, 8, 9, 10, 11] rfl ?_
    refine O_move rfl rfl rfl rfl rfl ?_
    refine O_move rfl rfl rfl rfl rfl ?_
    refine O_lenSl rfl rfl rfl rfl rfl Try.runUnderlying28 ?_
    refine O_cmp rfl rfl rfl rfl rfl rfl rfl ?_
    refine O_move rfl rfl rfl rfl rfl ?_
    refine R_caseF (t := 10) rfl (decide_eq_false (by omega)) ?_
    refine R_skip rfl rfl rfl rfl ?_
    refine R_skip rfl rfl rfl rfl ?_
    refine R_skip rfl rfl rfl rfl ?_
    refine R_skip rfl rfl rfl rfl ?_
    refine R_skip rfl rfl rfl rfl ?_
    refine R_skip rfl rfl rfl rfl ?_
    refine O_pickF rfl rfl rfl rfl rfl rfl ?_
    refine R_nil ?_
    refine tn ?_
    refine F_false rfl rfl ?_
    refine F_exit ?_
    refine tx ?_
    refine tx ?_
    refine Go.Sl.bx rfl ?_
    refine tn ?_
    refine F_seq ?_
    refine F_drawnS hS (by kernel_rfl) (p := ⟨_, [2, 0, 0, 0, 2, 0, 2, 2, 0, 0, 0, 2, 0], []⟩) rfl (.app [1, 2, 3, 5, 8, 9, 10] (.two 0 6 (.app [] (.two 4 6 (.ofList [6, 7, 11, 12]) (.ofList [4, 7, 11, 12]))) (.ofList [0, 4, 7, 11, 12]))) (by kernel_rfl) ?_
    intro w hS
    refine O_move rfl rfl rfl rfl rfl ?_
    refine O_move rfl rfl rfl rfl rfl ?_
    refine O_sliceSl 0 pre.length rfl rfl rfl rfl rfl rfl rfl Try.runUnderlying28 Try.sizeOf3 bnd_none bnd_int ⟨by omega, by omega⟩ ?_
    refine O_move rfl rfl rfl rfl rfl ?_
    refine O_move rfl rfl rfl rfl rfl ?_
    refine O_move rfl rfl rfl rfl rfl ?_
    refine O_sliceSl pre.length n rfl rfl rfl rfl rfl rfl rfl Try.runUnderlying28 Try.sizeOf3 bnd_int bnd_none ⟨by omega, by omega⟩ ?_
    refine R_two ?_ ?_
    · refine O_sliceLit hS rfl rfl rfl rfl Try.runUnderlying28 Try.sizeOf3 Try.zeroValue3 rfl (by decide) rfl rfl rfl (cs := []) rfl rfl (fun _ _ _ => trivial) ?_
      intro bl1 w hS
      refine R_two ?_ ?_
      · replace hS : Sat w0 (A * (sl 3 1 (.slice (some ⟨bl1, 0, none⟩) 0 0) 0 [] * R)) w := hS.to (by ac_rfl)
        have hpz1 := rd_part hle hnil hA (lo := 0) (hi := pre.length) (part := (pre.map eI)) (by omega) (by omega) (by rw [hx, List.map_append, List.take_left' (by simp)]; rfl)
        have hrz1 := hpz1.1 _ _ _ hS
        replace hS : Sat w0 (sl 3 1 (.slice (some ⟨bl1, 0, none⟩) 0 0) 0 [] * (A * R)) w := hS.to (by ac_rfl)
        refine O_append (m := (pre.length - 0)) (news := (pre.map eI)) hS rfl rfl rfl rfl Try.underlying28 info_i rfl (by decide) rfl rfl (by simp) hpz1.2 hrz1 (by simp [Value.oneCell']) (by simp only [maxLen]; omega) (by omega) (fun _ _ _ => trivial) ?_
        intro vz1 w _ hS
        obtain ⟨adz1, capz1, rfl, hlez1, hcapz1, _⟩ := sl_form hS
        refine O_sliceLit hS rfl rfl rfl rfl Try.runUnderlying28 Try.sizeOf3 Try.zeroValue3 rfl (by decide) rfl rfl rfl (cs := [_]) rfl rfl (fun _ _ _ => trivial) ?_
        intro bl2 w hS
        replace hS : Sat w0 (sl 3 1 (.slice (some ⟨bl2, 0, none⟩) 1 1) 1 [(eI k)] * (sl 3 1 (.slice adz1 (0 + (pre.length - 0)) capz1) (0 + (pre.length - 0)) ([] ++ (pre.map eI)) * (A * R))) w := hS.to (by ac_rfl)
        have hpz2 := sl_rd hS
        replace hS : Sat w0 (sl 3 1 (.slice adz1 (0 + (pre.length - 0)) capz1) (0 + (pre.length - 0)) ([] ++ (pre.map eI)) * (sl 3 1 (.slice (some ⟨bl2, 0, none⟩) 1 1) 1 [(eI k)] * (A * R))) w := hS.to (by ac_rfl)
        refine O_append (m := 1) (news := [(eI k)]) hS rfl rfl rfl rfl Try.underlying28 info_i rfl (by decide) rfl rfl rfl (by intro e; cases e) hpz2 (by simp [Value.oneCell']) (by simp only [maxLen]; omega) (by omega) (fun _ _ _ => trivial) ?_
        intro vz2 w _ hS
        obtain ⟨adz2, capz2, rfl, hlez2, hcapz2, _⟩ := sl_form hS
        replace hS : Sat w0 (A * (sl 3 1 (.slice adz2 ((0 + (pre.length - 0)) + 1) capz2) ((0 + (pre.length - 0)) + 1) (([] ++ (pre.map eI)) ++ [(eI k)]) * (sl 3 1 (.slice (some ⟨bl2, 0, none⟩) 1 1) 1 [(eI k)] * R))) w := hS.to (by ac_rfl)
        have hpz3 := rd_part hle hnil hA (lo := pre.length) (hi := n) (part := (([] : List Int).map eI)) (by omega) (by omega) (by rw [List.take_of_length_le (by rw [List.length_map]; omega), hx]; simp)
        have hrz3 := hpz3.1 _ _ _ hS
        replace hS : Sat w0 (sl 3 1 (.slice adz2 ((0 + (pre.length - 0)) + 1) capz2) ((0 + (pre.length - 0)) + 1) (([] ++ (pre.map eI)) ++ [(eI k)]) * (sl 3 1 (.slice (some ⟨bl2, 0, none⟩) 1 1) 1 [(eI k)] * (A * R))) w := hS.to (by ac_rfl)
        refine O_append (m := (n - pre.length)) (news := (([] : List Int).map eI)) hS rfl rfl rfl rfl Try.underlying28 info_i rfl (by decide) rfl rfl (by simp only [List.length_map, List.length_nil, List.length_cons]; omega) hpz3.2 hrz3 (by simp [Value.oneCell']) (by simp only [maxLen]; omega) (by omega) (fun _ _ _ => trivial) ?_
        intro vz3 w _ hS
        obtain ⟨adz3, capz3, rfl, hlez3, hcapz3, _⟩ := sl_form hS
        refine O_assign rfl rfl rfl rfl rfl ?_
        refine R_nil ?_
        refine tn ?_
        refine F_ret ?_
        have he : insR O_ii k xs = pre ++ k :: [] := by rw [hx]; exact insR_split hne hlast
        replace hS : Sat w0 (sl 3 1 (.slice adz3 (((0 + (pre.length - 0)) + 1) + (n - pre.length)) capz3) (((0 + (pre.length - 0)) + 1) + (n - pre.length)) ((([] ++ (pre.map eI)) ++ [(eI k)]) ++ (([] : List Int).map eI)) * (A * R)) w := Sat.drop (A := sl 3 1 (.slice (some ⟨bl2, 0, none⟩) 1 1) 1 [(eI k)]) (hS.to (by ac_rfl))
        have hfin : sl 3 1 (.slice adz3 (((0 + (pre.length - 0)) + 1) + (n - pre.length)) capz3) (((0 + (pre.length - 0)) + 1) + (n - pre.length)) ((([] ++ (pre.map eI)) ++ [(eI k)]) ++ (([] : List Int).map eI)) = sl 3 1 (.slice adz3 (((0 + (pre.length - 0)) + 1) + (n - pre.length)) capz3) ((insR O_ii k xs)).length (((insR O_ii k xs)).map eI) := sl_cong (by rw [he]; simp only [List.length_append, List.length_cons, List.length_nil]; omega) (by rw [he]; simp)
        rw [hfin] at hS
        show endF _ _ _ _ _ _
        refine end0 trivial rfl rfl rfl hS ?_
        intro w hS
        exact hS
      · refine O_sliceLit hS rfl rfl rfl rfl Try.runUnderlying28 Try.sizeOf3 Try.zeroValue3 rfl (by decide) rfl rfl rfl (cs := [_]) rfl rfl (fun _ _ _ => trivial) ?_
        intro bl2 w hS
        replace hS : Sat w0 (A * (sl 3 1 (.slice (some ⟨bl2, 0, none⟩) 1 1) 1 [(eI k)] * (sl 3 1 (.slice (some ⟨bl1, 0, none⟩) 0 0) 0 [] * R))) w := hS.to (by ac_rfl)
        have hpz1 := rd_part hle hnil hA (lo := 0) (hi := pre.length) (part := (pre.map eI)) (by omega) (by omega) (by rw [hx, List.map_append, List.take_left' (by simp)]; rfl)
        have hrz1 := hpz1.1 _ _ _ hS
        replace hS : Sat w0 (sl 3 1 (.slice (some ⟨bl1, 0, none⟩) 0 0) 0 [] * (sl 3 1 (.slice (some ⟨bl2, 0, none⟩) 1 1) 1 [(eI k)] * (A * R))) w := hS.to (by ac_rfl)
        refine O_append (m := (pre.length - 0)) (news := (pre.map eI)) hS rfl rfl rfl rfl Try.underlying28 info_i rfl (by decide) rfl rfl (by simp) hpz1.2 hrz1 (by simp [Value.oneCell']) (by simp only [maxLen]; omega) (by omega) (fun _ _ _ => trivial) ?_
        intro vz1 w _ hS
        obtain ⟨adz1, capz1, rfl, hlez1, hcapz1, _⟩ := sl_form hS
        replace hS : Sat w0 (sl 3 1 (.slice (some ⟨bl2, 0, none⟩) 1 1) 1 [(eI k)] * (sl 3 1 (.slice adz1 (0 + (pre.length - 0)) capz1) (0 + (pre.length - 0)) ([] ++ (pre.map eI)) * (A * R))) w := hS.to (by ac_rfl)
        have hpz2 := sl_rd hS
        replace hS : Sat w0 (sl 3 1 (.slice adz1 (0 + (pre.length - 0)) capz1) (0 + (pre.length - 0)) ([] ++ (pre.map eI)) * (sl 3 1 (.slice (some ⟨bl2, 0, none⟩) 1 1) 1 [(eI k)] * (A * R))) w := hS.to (by ac_rfl)
        refine O_append (m := 1) (news := [(eI k)]) hS rfl rfl rfl rfl Try.underlying28 info_i rfl (by decide) rfl rfl rfl (by intro e; cases e) hpz2 (by simp [Value.oneCell']) (by simp only [maxLen]; omega) (by omega) (fun _ _ _ => trivial) ?_
        intro vz2 w _ hS
        obtain ⟨adz2, capz2, rfl, hlez2, hcapz2, _⟩ := sl_form hS
        replace hS : Sat w0 (A * (sl 3 1 (.slice adz2 ((0 + (pre.length - 0)) + 1) capz2) ((0 + (pre.length - 0)) + 1) (([] ++ (pre.map eI)) ++ [(eI k)]) * (sl 3 1 (.slice (some ⟨bl2, 0, none⟩) 1 1) 1 [(eI k)] * R))) w := hS.to (by ac_rfl)
        have hpz3 := rd_part hle hnil hA (lo := pre.length) (hi := n) (part := (([] : List Int).map eI)) (by omega) (by omega) (by rw [List.take_of_length_le (by rw [List.length_map]; omega), hx]; simp)
        have hrz3 := hpz3.1 _ _ _ hS
        replace hS : Sat w0 (sl 3 1 (.slice adz2 ((0 + (pre.length - 0)) + 1) capz2) ((0 + (pre.length - 0)) + 1) (([] ++ (pre.map eI)) ++ [(eI k)]) * (sl 3 1 (.slice (some ⟨bl2, 0, none⟩) 1 1) 1 [(eI k)] * (A * R))) w := hS.to (by ac_rfl)
        refine O_append (m := (n - pre.length)) (news := (([] : List Int).map eI)) hS rfl rfl rfl rfl Try.underlying28 info_i rfl (by decide) rfl rfl (by simp only [List.length_map, List.length_nil, List.length_cons]; omega) hpz3.2 hrz3 (by simp [Value.oneCell']) (by simp only [maxLen]; omega) (by omega) (fun _ _ _ => trivial) ?_
        intro vz3 w _ hS
        obtain ⟨adz3, capz3, rfl, hlez3, hcapz3, _⟩ := sl_form hS
        refine O_assign rfl rfl rfl rfl rfl ?_
        refine R_nil ?_
        refine tn ?_
        refine F_ret ?_
        have he : insR O_ii k xs = pre ++ k :: [] := by rw [hx]; exact insR_split hne hlast
        replace hS : Sat w0 (sl 3 1 (.slice adz3 (((0 + (pre.length - 0)) + 1) + (n - pre.length)) capz3) (((0 + (pre.length - 0)) + 1) + (n - pre.length)) ((([] ++ (pre.map eI)) ++ [(eI k)]) ++ (([] : List Int).map eI)) * (A * R)) w := Sat.drop (A := sl 3 1 (.slice (some ⟨bl2, 0, none⟩) 1 1) 1 [(eI k)]) (hS.to (by ac_rfl))
        have hfin : sl 3 1 (.slice adz3 (((0 + (pre.length - 0)) + 1) + (n - pre.length)) capz3) (((0 + (pre.length - 0)) + 1) + (n - pre.length)) ((([] ++ (pre.map eI)) ++ [(eI k)]) ++ (([] : List Int).map eI)) = sl 3 1 (.slice adz3 (((0 + (pre.length - 0)) + 1) + (n - pre.length)) capz3) ((insR O_ii k xs)).length (((insR O_ii k xs)).map eI) := sl_cong (by rw [he]; simp only [List.length_append, List.length_cons, List.length_nil]; omega) (by rw [he]; simp)
        rw [hfin] at hS
        show endF _ _ _ _ _ _
        refine end0 trivial rfl rfl rfl hS ?_
        intro w hS
        exact hS
    · refine O_sliceLit hS rfl rfl rfl rfl Try.runUnderlying28 Try.sizeOf3 Try.zeroValue3 rfl (by decide) rfl rfl rfl (cs := [_]) rfl rfl (fun _ _ _ => trivial) ?_
      intro bl1 w hS
      refine O_sliceLit hS rfl rfl rfl rfl Try.runUnderlying28 Try.sizeOf3 Try.zeroValue3 rfl (by decide) rfl rfl rfl (cs := []) rfl rfl (fun _ _ _ => trivial) ?_
      intro bl2 w hS
      replace hS : Sat w0 (A * (sl 3 1 (.slice (some ⟨bl2, 0, none⟩) 0 0) 0 [] * (sl 3 1 (.slice (some ⟨bl1, 0, none⟩) 1 1) 1 [(eI k)] * R))) w := hS.to (by ac_rfl)
      have hpz1 := rd_part hle hnil hA (lo := 0) (hi := pre.length) (part := (pre.map eI)) (by omega) (by omega) (by rw [hx, List.map_append, List.take_left' (by simp)]; rfl)
      have hrz1 := hpz1.1 _ _ _ hS
      replace hS : Sat w0 (sl 3 1 (.slice (some ⟨bl2, 0, none⟩) 0 0) 0 [] * (sl 3 1 (.slice (some ⟨bl1, 0, none⟩) 1 1) 1 [(eI k)] * (A * R))) w := hS.to (by ac_rfl)
      refine O_append (m := (pre.length - 0)) (news := (pre.map eI)) hS rfl rfl rfl rfl Try.underlying28 info_i rfl (by decide) rfl rfl (by simp) hpz1.2 hrz1 (by simp [Value.oneCell']) (by simp only [maxLen]; omega) (by omega) (fun _ _ _ => trivial) ?_
      intro vz1 w _ hS
      obtain ⟨adz1, capz1, rfl, hlez1, hcapz1, _⟩ := sl_form hS
      replace hS : Sat w0 (sl 3 1 (.slice (some ⟨bl1, 0, none⟩) 1 1) 1 [(eI k)] * (sl 3 1 (.slice adz1 (0 + (pre.length - 0)) capz1) (0 + (pre.length - 0)) ([] ++ (pre.map eI)) * (A * R))) w := hS.to (by ac_rfl)
      have hpz2 := sl_rd hS
      replace hS : Sat w0 (sl 3 1 (.slice adz1 (0 + (pre.length - 0)) capz1) (0 + (pre.length - 0)) ([] ++ (pre.map eI)) * (sl 3 1 (.slice (some ⟨bl1, 0, none⟩) 1 1) 1 [(eI k)] * (A * R))) w := hS.to (by ac_rfl)
      refine O_append (m := 1) (news := [(eI k)]) hS rfl rfl rfl rfl Try.underlying28 info_i rfl (by decide) rfl rfl rfl (by intro e; cases e) hpz2 (by simp [Value.oneCell']) (by simp only [maxLen]; omega) (by omega) (fun _ _ _ => trivial) ?_
      intro vz2 w _ hS
      obtain ⟨adz2, capz2, rfl, hlez2, hcapz2, _⟩ := sl_form hS
      replace hS : Sat w0 (A * (sl 3 1 (.slice adz2 ((0 + (pre.length - 0)) + 1) capz2) ((0 + (pre.length - 0)) + 1) (([] ++ (pre.map eI)) ++ [(eI k)]) * (sl 3 1 (.slice (some ⟨bl1, 0, none⟩) 1 1) 1 [(eI k)] * R))) w := hS.to (by ac_rfl)
      have hpz3 := rd_part hle hnil hA (lo := pre.length) (hi := n) (part := (([] : List Int).map eI)) (by omega) (by omega) (by rw [List.take_of_length_le (by rw [List.length_map]; omega), hx]; simp)
      have hrz3 := hpz3.1 _ _ _ hS
      replace hS : Sat w0 (sl 3 1 (.slice adz2 ((0 + (pre.length - 0)) + 1) capz2) ((0 + (pre.length - 0)) + 1) (([] ++ (pre.map eI)) ++ [(eI k)]) * (sl 3 1 (.slice (some ⟨bl1, 0, none⟩) 1 1) 1 [(eI k)] * (A * R))) w := hS.to (by ac_rfl)
      refine O_append (m := (n - pre.length)) (news := (([] : List Int).map eI)) hS rfl rfl rfl rfl Try.underlying28 info_i rfl (by decide) rfl rfl (by simp only [List.length_map, List.length_nil, List.length_cons]; omega) hpz3.2 hrz3 (by simp [Value.oneCell']) (by simp only [maxLen]; omega) (by omega) (fun _ _ _ => trivial) ?_
      intro vz3 w _ hS
      obtain ⟨adz3, capz3, rfl, hlez3, hcapz3, _⟩ := sl_form hS
      refine O_assign rfl rfl rfl rfl rfl ?_
      refine R_nil ?_
      refine tn ?_
      refine F_ret ?_
      have he : insR O_ii k xs = pre ++ k :: [] := by rw [hx]; exact insR_split hne hlast
      replace hS : Sat w0 (sl 3 1 (.slice adz3 (((0 + (pre.length - 0)) + 1) + (n - pre.length)) capz3) (((0 + (pre.length - 0)) + 1) + (n - pre.length)) ((([] ++ (pre.map eI)) ++ [(eI k)]) ++ (([] : List Int).map eI)) * (A * R)) w := Sat.drop (A := sl 3 1 (.slice (some ⟨bl1, 0, none⟩) 1 1) 1 [(eI k)]) (hS.to (by ac_rfl))
      have hfin : sl 3 1 (.slice adz3 (((0 + (pre.length - 0)) + 1) + (n - pre.length)) capz3) (((0 + (pre.length - 0)) + 1) + (n - pre.length)) ((([] ++ (pre.map eI)) ++ [(eI k)]) ++ (([] : List Int).map eI)) = sl 3 1 (.slice adz3 (((0 + (pre.length - 0)) + 1) + (n - pre.length)) capz3) ((insR O_ii k xs)).length (((insR O_ii k xs)).map eI) := sl_cong (by rw [he]; simp only [List.length_append, List.length_cons, List.length_nil]; omega) (by rw [he]; simp)
      rw [hfin] at hS
      show endF _ _ _ _ _ _
      refine end0 trivial rfl rfl rfl hS ?_
      intro w hS
      exact hS
  · simp only [List.length_cons] at hl
    obtain ⟨eb, eo, had, hcell⟩ := el1 (m := pre.length) (u := eI x) (hA _ _ _ hS) (by rw [hx]; simp)
    cases hxk : O_ii.lt k x with
    | false =>
      have hxk' : x ≤ k := by simpa [O_ii] using hxk
      refine F_seq ?_
      refine F_seq ?_
      refine F_region (p := ⟨_, [0, 0, 0, 0, 0, 0, 0, 0, 1, 0, 0, 0], []⟩) rfl [0, 1, 2, 3, 4, 5, 6, 7, 8, 9, 10, 11] rfl ?_
      refine O_move rfl rfl rfl rfl rfl ?_
      refine O_move rfl rfl rfl rfl rfl ?_
      refine O_lenSl rfl rfl rfl rfl rfl Try.runUnderlying28 ?_
      refine O_cmp rfl rfl rfl rfl rfl rfl rfl ?_
      refine O_move rfl rfl rfl rfl rfl ?_
      refine R_caseT (t := 10) rfl (decide_eq_true (by omega)) ?_
      refine O_move rfl rfl rfl rfl rfl ?_
      refine O_move rfl rfl rfl rfl rfl ?_
      refine O_indexSlE (m := pre.length) rfl rfl rfl rfl Try.runUnderlying28 Try.sizeOf3 rfl had rfl rfl (by omega) ?_
      refine O_load rfl rfl rfl rfl rfl Try.isAgg3 hcell (by trivial) ?_
      refine O_move rfl rfl rfl rfl rfl ?_
      refine O_cmp rfl rfl rfl rfl rfl rfl rfl ?_
      refine O_pickT rfl rfl rfl rfl rfl rfl ?_
      refine R_nil ?_
      refine tn ?_
      refine F_true rfl (decide_eq_true (by omega)) ?_
      refine F_skip ?_
      refine tn ?_
      refine F_block ?_
      refine F_region (p := ⟨_, [0, 0, 0], []⟩) rfl [0, 1, 2] rfl ?_
      refine O_move rfl rfl rfl rfl rfl ?_
      refine O_addN rfl rfl rfl rfl rfl rfl (by first | omega | (dsimp only; omega)) ?_
      refine O_assign rfl rfl rfl rfl rfl ?_
      refine R_nil ?_
      refine bn ?_
      refine tn ⟨rfl, rfl, (pre ++ [x], post), ⟨rfl, rfl, congrArg (fun z : Nat => some (Value.int .i64 z)) (show pre.length + 1 = (pre ++ [x]).length by simp), trivial⟩, ⟨⟨by rw [hx]; simp, fun y hy => ?_⟩, hS⟩, Nat.lt_succ_self _⟩
      rcases List.mem_append.1 hy with h | h
      · exact hne y h
      · rw [List.mem_singleton.1 h]; exact hxk
    | true =>
      have hlast : ∀ z q, x :: post = z :: q → O_ii.lt k z = true := fun z q e => by cases e; exact hxk
      have hxk' : k < x := by simpa [O_ii] using hxk
      refine F_seq ?_
      refine F_seq ?_
      refine F_region (p := ⟨_, [0, 0, 0, 0, 0, 0, 0, 0, 1, 0, 0, 0], []⟩) rfl [0, 1, 2, 3, 4, 5, 6, 7, 8, 9, 10, 11] rfl ?_
      refine O_move rfl rfl rfl rfl rfl ?_
      refine O_move rfl rfl rfl rfl rfl ?_
      refine O_lenSl rfl rfl rfl rfl rfl Try.runUnderlying28 ?_
      refine O_cmp rfl rfl rfl rfl rfl rfl rfl ?_
      refine O_move rfl rfl rfl rfl rfl ?_
      refine R_caseT (t := 10) rfl (decide_eq_true (by omega)) ?_
      refine O_move rfl rfl rfl rfl rfl ?_
      refine O_move rfl rfl rfl rfl rfl ?_
      refine O_indexSlE (m := pre.length) rfl rfl rfl rfl Try.runUnderlying28 Try.sizeOf3 rfl had rfl rfl (by omega) ?_
      refine O_load rfl rfl rfl rfl rfl Try.isAgg3 hcell (by trivial) ?_
      refine O_move rfl rfl rfl rfl rfl ?_
      refine O_cmp rfl rfl rfl rfl rfl rfl rfl ?_
      refine O_pickT rfl rfl rfl rfl rfl rfl ?_
      refine R_nil ?_
      refine tn ?_
      refine F_false rfl (decide_eq_false (by omega)) ?_
      refine F_exit ?_
      refine tx ?_
      refine tx ?_
      refine Go.Sl.bx rfl ?_
      refine tn ?_
      refine F_seq ?_
      refine F_drawnS hS (by kernel_rfl) (p := ⟨_, [2, 0, 0, 0, 2, 0, 2, 2, 0, 0, 0, 2, 0], []⟩) rfl (.app [1, 2, 3, 5, 8, 9, 10] (.two 0 6 (.app [] (.two 4 6 (.ofList [6, 7, 11, 12]) (.ofList [4, 7, 11, 12]))) (.ofList [0, 4, 7, 11, 12]))) (by kernel_rfl) ?_
      intro w hS
      refine O_move rfl rfl rfl rfl rfl ?_
      refine O_move rfl rfl rfl rfl rfl ?_
      refine O_sliceSl 0 pre.length rfl rfl rfl rfl rfl rfl rfl Try.runUnderlying28 Try.sizeOf3 bnd_none bnd_int ⟨by omega, by omega⟩ ?_
      refine O_move rfl rfl rfl rfl rfl ?_
      refine O_move rfl rfl rfl rfl rfl ?_
      refine O_move rfl rfl rfl rfl rfl ?_
      refine O_sliceSl pre.length n rfl rfl rfl rfl rfl rfl rfl Try.runUnderlying28 Try.sizeOf3 bnd_int bnd_none ⟨by omega, by omega⟩ ?_
      refine R_two ?_ ?_
      · refine O_sliceLit hS rfl rfl rfl rfl Try.runUnderlying28 Try.sizeOf3 Try.zeroValue3 rfl (by decide) rfl rfl rfl (cs := []) rfl rfl (fun _ _ _ => trivial) ?_
        intro bl1 w hS
        refine R_two ?_ ?_
        · replace hS : Sat w0 (A * (sl 3 1 (.slice (some ⟨bl1, 0, none⟩) 0 0) 0 [] * R)) w := hS.to (by ac_rfl)
          have hpz1 := rd_part hle hnil hA (lo := 0) (hi := pre.length) (part := (pre.map eI)) (by omega) (by omega) (by rw [hx, List.map_append, List.take_left' (by simp)]; rfl)
          have hrz1 := hpz1.1 _ _ _ hS
          replace hS : Sat w0 (sl 3 1 (.slice (some ⟨bl1, 0, none⟩) 0 0) 0 [] * (A * R)) w := hS.to (by ac_rfl)
          refine O_append (m := (pre.length - 0)) (news := (pre.map eI)) hS rfl rfl rfl rfl Try.underlying28 info_i rfl (by decide) rfl rfl (by simp) hpz1.2 hrz1 (by simp [Value.oneCell']) (by simp only [maxLen]; omega) (by omega) (fun _ _ _ => trivial) ?_
          intro vz1 w _ hS
          obtain ⟨adz1, capz1, rfl, hlez1, hcapz1, _⟩ := sl_form hS
          refine O_sliceLit hS rfl rfl rfl rfl Try.runUnderlying28 Try.sizeOf3 Try.zeroValue3 rfl (by decide) rfl rfl rfl (cs := [_]) rfl rfl (fun _ _ _ => trivial) ?_
          intro bl2 w hS
          replace hS : Sat w0 (sl 3 1 (.slice (some ⟨bl2, 0, none⟩) 1 1) 1 [(eI k)] * (sl 3 1 (.slice adz1 (0 + (pre.length - 0)) capz1) (0 + (pre.length - 0)) ([] ++ (pre.map eI)) * (A * R))) w := hS.to (by ac_rfl)
          have hpz2 := sl_rd hS
          replace hS : Sat w0 (sl 3 1 (.slice adz1 (0 + (pre.length - 0)) capz1) (0 + (pre.length - 0)) ([] ++ (pre.map eI)) * (sl 3 1 (.slice (some ⟨bl2, 0, none⟩) 1 1) 1 [(eI k)] * (A * R))) w := hS.to (by ac_rfl)
          refine O_append (m := 1) (news := [(eI k)]) hS rfl rfl rfl rfl Try.underlying28 info_i rfl (by decide) rfl rfl rfl (by intro e; cases e) hpz2 (by simp [Value.oneCell']) (by simp only [maxLen]; omega) (by omega) (fun _ _ _ => trivial) ?_
          intro vz2 w _ hS
          obtain ⟨adz2, capz2, rfl, hlez2, hcapz2, _⟩ := sl_form hS
          replace hS : Sat w0 (A * (sl 3 1 (.slice adz2 ((0 + (pre.length - 0)) + 1) capz2) ((0 + (pre.length - 0)) + 1) (([] ++ (pre.map eI)) ++ [(eI k)]) * (sl 3 1 (.slice (some ⟨bl2, 0, none⟩) 1 1) 1 [(eI k)] * R))) w := hS.to (by ac_rfl)
          have hpz3 := rd_part hle hnil hA (lo := pre.length) (hi := n) (part := ((x :: post).map eI)) (by omega) (by omega) (by rw [List.take_of_length_le (by rw [List.length_map]; omega), hx]; simp)
          have hrz3 := hpz3.1 _ _ _ hS
          replace hS : Sat w0 (sl 3 1 (.slice adz2 ((0 + (pre.length - 0)) + 1) capz2) ((0 + (pre.length - 0)) + 1) (([] ++ (pre.map eI)) ++ [(eI k)]) * (sl 3 1 (.slice (some ⟨bl2, 0, none⟩) 1 1) 1 [(eI k)] * (A * R))) w := hS.to (by ac_rfl)
          refine O_append (m := (n - pre.length)) (news := ((x :: post).map eI)) hS rfl rfl rfl rfl Try.underlying28 info_i rfl (by decide) rfl rfl (by simp only [List.length_map, List.length_nil, List.length_cons]; omega) hpz3.2 hrz3 (by simp [Value.oneCell']) (by simp only [maxLen]; omega) (by omega) (fun _ _ _ => trivial) ?_
          intro vz3 w _ hS
          obtain ⟨adz3, capz3, rfl, hlez3, hcapz3, _⟩ := sl_form hS
          refine O_assign rfl rfl rfl rfl rfl ?_
          refine R_nil ?_
          refine tn ?_
          refine F_ret ?_
          have he : insR O_ii k xs = pre ++ k :: (x :: post) := by rw [hx]; exact insR_split hne hlast
          replace hS : Sat w0 (sl 3 1 (.slice adz3 (((0 + (pre.length - 0)) + 1) + (n - pre.length)) capz3) (((0 + (pre.length - 0)) + 1) + (n - pre.length)) ((([] ++ (pre.map eI)) ++ [(eI k)]) ++ ((x :: post).map eI)) * (A * R)) w := Sat.drop (A := sl 3 1 (.slice (some ⟨bl2, 0, none⟩) 1 1) 1 [(eI k)]) (hS.to (by ac_rfl))
          have hfin : sl 3 1 (.slice adz3 (((0 + (pre.length - 0)) + 1) + (n - pre.length)) capz3) (((0 + (pre.length - 0)) + 1) + (n - pre.length)) ((([] ++ (pre.map eI)) ++ [(eI k)]) ++ ((x :: post).map eI)) = sl 3 1 (.slice adz3 (((0 + (pre.length - 0)) + 1) + (n - pre.length)) capz3) ((insR O_ii k xs)).length (((insR O_ii k xs)).map eI) := sl_cong (by rw [he]; simp only [List.length_append, List.length_cons, List.length_nil]; omega) (by rw [he]; simp)
          rw [hfin] at hS
          show endF _ _ _ _ _ _
          refine end0 trivial rfl rfl rfl hS ?_
          intro w hS
          exact hS
        · refine O_sliceLit hS rfl rfl rfl rfl Try.runUnderlying28 Try.sizeOf3 Try.zeroValue3 rfl (by decide) rfl rfl rfl (cs := [_]) rfl rfl (fun _ _ _ => trivial) ?_
          intro bl2 w hS
          replace hS : Sat w0 (A * (sl 3 1 (.slice (some ⟨bl2, 0, none⟩) 1 1) 1 [(eI k)] * (sl 3 1 (.slice (some ⟨bl1, 0, none⟩) 0 0) 0 [] * R))) w := hS.to (by ac_rfl)
          have hpz1 := rd_part hle hnil hA (lo := 0) (hi := pre.length) (part := (pre.map eI)) (by omega) (by omega) (by rw [hx, List.map_append, List.take_left' (by simp)]; rfl)
          have hrz1 := hpz1.1 _ _ _ hS
          replace hS : Sat w0 (sl 3 1 (.slice (some ⟨bl1, 0, none⟩) 0 0) 0 [] * (sl 3 1 (.slice (some ⟨bl2, 0, none⟩) 1 1) 1 [(eI k)] * (A * R))) w := hS.to (by ac_rfl)
          refine O_append (m := (pre.length - 0)) (news := (pre.map eI)) hS rfl rfl rfl rfl Try.underlying28 info_i rfl (by decide) rfl rfl (by simp) hpz1.2 hrz1 (by simp [Value.oneCell']) (by simp only [maxLen]; omega) (by omega) (fun _ _ _ => trivial) ?_
          intro vz1 w _ hS
          obtain ⟨adz1, capz1, rfl, hlez1, hcapz1, _⟩ := sl_form hS
          replace hS : Sat w0 (sl 3 1 (.slice (some ⟨bl2, 0, none⟩) 1 1) 1 [(eI k)] * (sl 3 1 (.slice adz1 (0 + (pre.length - 0)) capz1) (0 + (pre.length - 0)) ([] ++ (pre.map eI)) * (A * R))) w := hS.to (by ac_rfl)
          have hpz2 := sl_rd hS
          replace hS : Sat w0 (sl 3 1 (.slice adz1 (0 + (pre.length - 0)) capz1) (0 + (pre.length - 0)) ([] ++ (pre.map eI)) * (sl 3 1 (.slice (some ⟨bl2, 0, none⟩) 1 1) 1 [(eI k)] * (A * R))) w := hS.to (by ac_rfl)
          refine O_append (m := 1) (news := [(eI k)]) hS rfl rfl rfl rfl Try.underlying28 info_i rfl (by decide) rfl rfl rfl (by intro e; cases e) hpz2 (by simp [Value.oneCell']) (by simp only [maxLen]; omega) (by omega) (fun _ _ _ => trivial) ?_
          intro vz2 w _ hS
          obtain ⟨adz2, capz2, rfl, hlez2, hcapz2, _⟩ := sl_form hS
          replace hS : Sat w0 (A * (sl 3 1 (.slice adz2 ((0 + (pre.length - 0)) + 1) capz2) ((0 + (pre.length - 0)) + 1) (([] ++ (pre.map eI)) ++ [(eI k)]) * (sl 3 1 (.slice (some ⟨bl2, 0, none⟩) 1 1) 1 [(eI k)] * R))) w := hS.to (by ac_rfl)
          have hpz3 := rd_part hle hnil hA (lo := pre.length) (hi := n) (part := ((x :: post).map eI)) (by omega) (by omega) (by rw [List.take_of_length_le (by rw [List.length_map]; omega), hx]; simp)
          have hrz3 := hpz3.1 _ _ _ hS
          replace hS : Sat w0 (sl 3 1 (.slice adz2 ((0 + (pre.length - 0)) + 1) capz2) ((0 + (pre.length - 0)) + 1) (([] ++ (pre.map eI)) ++ [(eI k)]) * (sl 3 1 (.slice (some ⟨bl2, 0, none⟩) 1 1) 1 [(eI k)] * (A * R))) w := hS.to (by ac_rfl)
          refine O_append (m := (n - pre.length)) (news := ((x :: post).map eI)) hS rfl rfl rfl rfl Try.underlying28 info_i rfl (by decide) rfl rfl (by simp only [List.length_map, List.length_nil, List.length_cons]; omega) hpz3.2 hrz3 (by simp [Value.oneCell']) (by simp only [maxLen]; omega) (by omega) (fun _ _ _ => trivial) ?_
          intro vz3 w _ hS
          obtain ⟨adz3, capz3, rfl, hlez3, hcapz3, _⟩ := sl_form hS
          refine O_assign rfl rfl rfl rfl rfl ?_
          refine R_nil ?_
          refine tn ?_
          refine F_ret ?_
          have he : insR O_ii k xs = pre ++ k :: (x :: post) := by rw [hx]; exact insR_split hne hlast
          replace hS : Sat w0 (sl 3 1 (.slice adz3 (((0 + (pre.length - 0)) + 1) + (n - pre.length)) capz3) (((0 + (pre.length - 0)) + 1) + (n - pre.length)) ((([] ++ (pre.map eI)) ++ [(eI k)]) ++ ((x :: post).map eI)) * (A * R)) w := Sat.drop (A := sl 3 1 (.slice (some ⟨bl2, 0, none⟩) 1 1) 1 [(eI k)]) (hS.to (by ac_rfl))
          have hfin : sl 3 1 (.slice adz3 (((0 + (pre.length - 0)) + 1) + (n - pre.length)) capz3) (((0 + (pre.length - 0)) + 1) + (n - pre.length)) ((([] ++ (pre.map eI)) ++ [(eI k)]) ++ ((x :: post).map eI)) = sl 3 1 (.slice adz3 (((0 + (pre.length - 0)) + 1) + (n - pre.length)) capz3) ((insR O_ii k xs)).length (((insR O_ii k xs)).map eI) := sl_cong (by rw [he]; simp only [List.length_append, List.length_cons, List.length_nil]; omega) (by rw [he]; simp)
          rw [hfin] at hS
          show endF _ _ _ _ _ _
          refine end0 trivial rfl rfl rfl hS ?_
          intro w hS
          exact hS
      · refine O_sliceLit hS rfl rfl rfl rfl Try.runUnderlying28 Try.sizeOf3 Try.zeroValue3 rfl (by decide) rfl rfl rfl (cs := [_]) rfl rfl (fun _ _ _ => trivial) ?_
        intro bl1 w hS
        refine O_sliceLit hS rfl rfl rfl rfl Try.runUnderlying28 Try.sizeOf3 Try.zeroValue3 rfl (by decide) rfl rfl rfl (cs := []) rfl rfl (fun _ _ _ => trivial) ?_
        intro bl2 w hS
        replace hS : Sat w0 (A * (sl 3 1 (.slice (some ⟨bl2, 0, none⟩) 0 0) 0 [] * (sl 3 1 (.slice (some ⟨bl1, 0, none⟩) 1 1) 1 [(eI k)] * R))) w := hS.to (by ac_rfl)
        have hpz1 := rd_part hle hnil hA (lo := 0) (hi := pre.length) (part := (pre.map eI)) (by omega) (by omega) (by rw [hx, List.map_append, List.take_left' (by simp)]; rfl)
        have hrz1 := hpz1.1 _ _ _ hS
        replace hS : Sat w0 (sl 3 1 (.slice (some ⟨bl2, 0, none⟩) 0 0) 0 [] * (sl 3 1 (.slice (some ⟨bl1, 0, none⟩) 1 1) 1 [(eI k)] * (A * R))) w := hS.to (by ac_rfl)
        refine O_append (m := (pre.length - 0)) (news := (pre.map eI)) hS rfl rfl rfl rfl Try.underlying28 info_i rfl (by decide) rfl rfl (by simp) hpz1.2 hrz1 (by simp [Value.oneCell']) (by simp only [maxLen]; omega) (by omega) (fun _ _ _ => trivial) ?_
        intro vz1 w _ hS
        obtain ⟨adz1, capz1, rfl, hlez1, hcapz1, _⟩ := sl_form hS
        replace hS : Sat w0 (sl 3 1 (.slice (some ⟨bl1, 0, none⟩) 1 1) 1 [(eI k)] * (sl 3 1 (.slice adz1 (0 + (pre.length - 0)) capz1) (0 + (pre.length - 0)) ([] ++ (pre.map eI)) * (A * R))) w := hS.to (by ac_rfl)
        have hpz2 := sl_rd hS
        replace hS : Sat w0 (sl 3 1 (.slice adz1 (0 + (pre.length - 0)) capz1) (0 + (pre.length - 0)) ([] ++ (pre.map eI)) * (sl 3 1 (.slice (some ⟨bl1, 0, none⟩) 1 1) 1 [(eI k)] * (A * R))) w := hS.to (by ac_rfl)
        refine O_append (m := 1) (news := [(eI k)]) hS rfl rfl rfl rfl Try.underlying28 info_i rfl (by decide) rfl rfl rfl (by intro e; cases e) hpz2 (by simp [Value.oneCell']) (by simp only [maxLen]; omega) (by omega) (fun _ _ _ => trivial) ?_
        intro vz2 w _ hS
        obtain ⟨adz2, capz2, rfl, hlez2, hcapz2, _⟩ := sl_form hS
        replace hS : Sat w0 (A * (sl 3 1 (.slice adz2 ((0 + (pre.length - 0)) + 1) capz2) ((0 + (pre.length - 0)) + 1) (([] ++ (pre.map eI)) ++ [(eI k)]) * (sl 3 1 (.slice (some ⟨bl1, 0, none⟩) 1 1) 1 [(eI k)] * R))) w := hS.to (by ac_rfl)
        have hpz3 := rd_part hle hnil hA (lo := pre.length) (hi := n) (part := ((x :: post).map eI)) (by omega) (by omega) (by rw [List.take_of_length_le (by rw [List.length_map]; omega), hx]; simp)
        have hrz3 := hpz3.1 _ _ _ hS
        replace hS : Sat w0 (sl 3 1 (.slice adz2 ((0 + (pre.length - 0)) + 1) capz2) ((0 + (pre.length - 0)) + 1) (([] ++ (pre.map eI)) ++ [(eI k)]) * (sl 3 1 (.slice (some ⟨bl1, 0, none⟩) 1 1) 1 [(eI k)] * (A * R))) w := hS.to (by ac_rfl)
        refine O_append (m := (n - pre.length)) (news := ((x :: post).map eI)) hS rfl rfl rfl rfl Try.underlying28 info_i rfl (by decide) rfl rfl (by simp only [List.length_map, List.length_nil, List.length_cons]; omega) hpz3.2 hrz3 (by simp [Value.oneCell']) (by simp only [maxLen]; omega) (by omega) (fun _ _ _ => trivial) ?_
        intro vz3 w _ hS
        obtain ⟨adz3, capz3, rfl, hlez3, hcapz3, _⟩ := sl_form hS
        refine O_assign rfl rfl rfl rfl rfl ?_
        refine R_nil ?_
        refine tn ?_
        refine F_ret ?_
        have he : insR O_ii k xs = pre ++ k :: (x :: post) := by rw [hx]; exact insR_split hne hlast
        replace hS : Sat w0 (sl 3 1 (.slice adz3 (((0 + (pre.length - 0)) + 1) + (n - pre.length)) capz3) (((0 + (pre.length - 0)) + 1) + (n - pre.length)) ((([] ++ (pre.map eI)) ++ [(eI k)]) ++ ((x :: post).map eI)) * (A * R)) w := Sat.drop (A := sl 3 1 (.slice (some ⟨bl1, 0, none⟩) 1 1) 1 [(eI k)]) (hS.to (by ac_rfl))
        have hfin : sl 3 1 (.slice adz3 (((0 + (pre.length - 0)) + 1) + (n - pre.length)) capz3) (((0 + (pre.length - 0)) + 1) + (n - pre.length)) ((([] ++ (pre.map eI)) ++ [(eI k)]) ++ ((x :: post).map eI)) = sl 3 1 (.slice adz3 (((0 + (pre.length - 0)) + 1) + (n - pre.length)) capz3) ((insR O_ii k xs)).length (((insR O_ii k xs)).map eI) := sl_cong (by rw [he]; simp only [List.length_append, List.length_cons, List.length_nil]; omega) (by rw [he]; simp)
        rw [hfin] at hS
        show endF _ _ _ _ _ _
        refine end0 trivial rfl rfl rfl hS ?_
        intro w hS
        exact hS
end Go.Proofs.Ytpnigaoibhogfaa
