/- YtpnigaoibhogfaaR5: a part of the proof: walks over the translated code, and plain facts on lists beside. -/
import Derived.Test.YtpnigaoibhogfaaR4
set_option linter.all false
namespace Go.Proofs.Ytpnigaoibhogfaa
open Go Go.RowKit Go.Sl
set_option linter.unusedVariables false
theorem hasf_ii {w0 w : World} {R A : HProp} {ad : Option Addr} {n c b1 b2 b3 b4 : Nat} {lim : Int} {xs pre post : List Int} {x : Int} (hA : Rds A ad (xs.map eI)) (hn : xs.length = n) (hb : n ≤ 100000) (hx : xs = pre ++ x :: post) (hS : Sat w0 (blks [(b4, .cells #[.bool true] 4 (0, 0)), (b3, .cells #[.int .i64 (pre.length : Nat)] 3 (0, 0)), (b2, .cells #[.int .i64 lim] 3 (0, 0)), (b1, .cells #[.slice ad n c] 28 (0, 0))] * (A * R)) w) :
    Calls Try.prog 44 #[eI x, .pointer (some ⟨b4, 0, none⟩), .pointer (some ⟨b3, 0, none⟩), .pointer (some ⟨b1, 0, none⟩), .pointer (some ⟨b2, 0, none⟩)] w (ret fun u w' => u = .bool (decide ((pre.length : Int) + 1 < lim)) ∧ Sat w0 (blks [(b4, .cells #[.bool true] 4 (0, 0)), (b3, .cells #[.int .i64 ((pre.length : Int) + 1)] 3 (0, 0)), (b2, .cells #[.int .i64 lim] 3 (0, 0)), (b1, .cells #[.slice ad n c] 28 (0, 0))] * (A * R)) w') := by
  have hl : pre.length + (post.length + 1) = n := by rw [← hn, hx, List.length_append, List.length_cons]
  obtain ⟨eb, eo, had, hcell⟩ := el1 (m := pre.length) (u := eI x) (hA _ (blks [(b4, .cells #[.bool true] 4 (0, 0)), (b3, .cells #[.int .i64 (pre.length : Nat)] 3 (0, 0)), (b2, .cells #[.int .i64 lim] 3 (0, 0)), (b1, .cells #[.slice ad n c] 28 (0, 0))] * R) _ (hS.to (by ac_rfl))) (by rw [hx]; simp)
  refine enterF (args := [_, _, _, _, _]) Try.func44 rfl Try.ntmps44 rfl rfl ?_
  refine F_seq ?_
  refine F_region (p := ⟨_, [0], []⟩) rfl [0] rfl ?_
  refine O_assign rfl rfl rfl rfl rfl ?_
  refine R_nil ?_
  refine tn ?_
  refine F_seq ?_
  refine F_region (p := ⟨_, [1, 0, 1, 1, 0, 0, 0, 0, 1, 1, 0, 1, 0, 0, 0, 2], []⟩) rfl [0, 1, 2, 3, 4, 5, 6, 7, 8, 9, 10, 11, 12, 13, 14, 15] rfl ?_
  refine O_loadS hS rfl rfl rfl rfl rfl Try.isAgg4 (by first | exact .here rfl | exact .there (.here rfl) | exact .there (.there (.here rfl)) | exact .there (.there (.there (.here rfl))) | exact .there (.there (.there (.there (.here rfl)))) | exact .there (.there (.there (.there (.there (.here rfl))))) | exact .there (.there (.there (.there (.there (.there (.here rfl)))))) | exact .there (.there (.there (.there (.there (.there (.there (.here rfl))))))) | exact .there (.there (.there (.there (.there (.there (.there (.there (.here rfl))))))))) (by trivial) ?_
  refine O_move rfl rfl rfl rfl rfl ?_
  refine R_caseT (t := 8) rfl rfl ?_
  refine O_loadS hS rfl rfl rfl rfl rfl Try.isAgg3 (by first | exact .here rfl | exact .there (.here rfl) | exact .there (.there (.here rfl)) | exact .there (.there (.there (.here rfl))) | exact .there (.there (.there (.there (.here rfl)))) | exact .there (.there (.there (.there (.there (.here rfl))))) | exact .there (.there (.there (.there (.there (.there (.here rfl)))))) | exact .there (.there (.there (.there (.there (.there (.there (.here rfl))))))) | exact .there (.there (.there (.there (.there (.there (.there (.there (.here rfl))))))))) (by trivial) ?_
  refine O_loadS hS rfl rfl rfl rfl rfl Try.isAgg28 (by first | exact .here rfl | exact .there (.here rfl) | exact .there (.there (.here rfl)) | exact .there (.there (.there (.here rfl))) | exact .there (.there (.there (.there (.here rfl)))) | exact .there (.there (.there (.there (.there (.here rfl))))) | exact .there (.there (.there (.there (.there (.there (.here rfl)))))) | exact .there (.there (.there (.there (.there (.there (.there (.here rfl))))))) | exact .there (.there (.there (.there (.there (.there (.there (.there (.here rfl))))))))) (by trivial) ?_
  refine O_lenSl rfl rfl rfl rfl rfl Try.runUnderlying28 ?_
  refine O_cmp rfl rfl rfl rfl rfl rfl rfl ?_
  refine O_pickT rfl rfl rfl rfl rfl rfl ?_
  refine O_move rfl rfl rfl rfl rfl ?_
  refine R_caseT (t := 14) rfl (decide_eq_true (by omega)) ?_
  refine O_loadS hS rfl rfl rfl rfl rfl Try.isAgg28 (by first | exact .here rfl | exact .there (.here rfl) | exact .there (.there (.here rfl)) | exact .there (.there (.there (.here rfl))) | exact .there (.there (.there (.there (.here rfl)))) | exact .there (.there (.there (.there (.there (.here rfl))))) | exact .there (.there (.there (.there (.there (.there (.here rfl)))))) | exact .there (.there (.there (.there (.there (.there (.there (.here rfl))))))) | exact .there (.there (.there (.there (.there (.there (.there (.there (.here rfl))))))))) (by trivial) ?_
  refine O_loadS hS rfl rfl rfl rfl rfl Try.isAgg3 (by first | exact .here rfl | exact .there (.here rfl) | exact .there (.there (.here rfl)) | exact .there (.there (.there (.here rfl))) | exact .there (.there (.there (.there (.here rfl)))) | exact .there (.there (.there (.there (.there (.here rfl))))) | exact .there (.there (.there (.there (.there (.there (.here rfl)))))) | exact .there (.there (.there (.there (.there (.there (.there (.here rfl))))))) | exact .there (.there (.there (.there (.there (.there (.there (.there (.here rfl))))))))) (by trivial) ?_
  refine O_indexSlE (m := pre.length) rfl rfl rfl rfl Try.runUnderlying28 Try.sizeOf3 rfl had rfl rfl (by omega) ?_
  refine O_load rfl rfl rfl rfl rfl Try.isAgg3 hcell (by trivial) ?_
  refine O_move rfl rfl rfl rfl rfl ?_
  refine O_cmp rfl rfl rfl rfl rfl rfl rfl ?_
  refine R_caseT (t := 20) rfl (decide_eq_true rfl) ?_
  refine O_pickT rfl rfl rfl rfl rfl rfl ?_
  refine O_storeS hS rfl rfl rfl rfl rfl rfl rfl Try.sizeOf4 (by first | exact .here rfl rfl | exact .there (.here rfl rfl) | exact .there (.there (.here rfl rfl)) | exact .there (.there (.there (.here rfl rfl))) | exact .there (.there (.there (.there (.here rfl rfl)))) | exact .there (.there (.there (.there (.there (.here rfl rfl))))) | exact .there (.there (.there (.there (.there (.there (.here rfl rfl)))))) | exact .there (.there (.there (.there (.there (.there (.there (.here rfl rfl))))))) | exact .there (.there (.there (.there (.there (.there (.there (.there (.here rfl rfl))))))))) (fun w' hv => trivial) ?_
  intro w hS
  refine R_nil ?_
  refine tn ?_
  refine F_seq ?_
  refine F_region (p := ⟨_, [1, 0, 2], []⟩) rfl [0, 1, 2] rfl ?_
  refine O_loadS hS rfl rfl rfl rfl rfl Try.isAgg3 (by first | exact .here rfl | exact .there (.here rfl) | exact .there (.there (.here rfl)) | exact .there (.there (.there (.here rfl))) | exact .there (.there (.there (.there (.here rfl)))) | exact .there (.there (.there (.there (.there (.here rfl))))) | exact .there (.there (.there (.there (.there (.there (.here rfl)))))) | exact .there (.there (.there (.there (.there (.there (.there (.here rfl))))))) | exact .there (.there (.there (.there (.there (.there (.there (.there (.here rfl))))))))) (by trivial) ?_
  refine O_addN rfl rfl rfl rfl rfl rfl (by omega) ?_
  refine O_storeS hS rfl rfl rfl rfl rfl rfl rfl Try.sizeOf3 (by first | exact .here rfl rfl | exact .there (.here rfl rfl) | exact .there (.there (.here rfl rfl)) | exact .there (.there (.there (.here rfl rfl))) | exact .there (.there (.there (.there (.here rfl rfl)))) | exact .there (.there (.there (.there (.there (.here rfl rfl))))) | exact .there (.there (.there (.there (.there (.there (.here rfl rfl)))))) | exact .there (.there (.there (.there (.there (.there (.there (.here rfl rfl))))))) | exact .there (.there (.there (.there (.there (.there (.there (.there (.here rfl rfl))))))))) (fun w' hv => trivial) ?_
  intro w hS
  refine R_nil ?_
  refine tn ?_
  refine F_seq ?_
  refine F_region (p := ⟨_, [1, 0, 1, 1, 0, 0, 0], []⟩) rfl [0, 1, 2, 3, 4, 5, 6] rfl ?_
  refine O_loadS hS rfl rfl rfl rfl rfl Try.isAgg4 (by first | exact .here rfl | exact .there (.here rfl) | exact .there (.there (.here rfl)) | exact .there (.there (.there (.here rfl))) | exact .there (.there (.there (.there (.here rfl)))) | exact .there (.there (.there (.there (.there (.here rfl))))) | exact .there (.there (.there (.there (.there (.there (.here rfl)))))) | exact .there (.there (.there (.there (.there (.there (.there (.here rfl))))))) | exact .there (.there (.there (.there (.there (.there (.there (.there (.here rfl))))))))) (by trivial) ?_
  refine O_move rfl rfl rfl rfl rfl ?_
  refine R_caseT (t := 25) rfl rfl ?_
  refine O_loadS hS rfl rfl rfl rfl rfl Try.isAgg3 (by first | exact .here rfl | exact .there (.here rfl) | exact .there (.there (.here rfl)) | exact .there (.there (.there (.here rfl))) | exact .there (.there (.there (.there (.here rfl)))) | exact .there (.there (.there (.there (.there (.here rfl))))) | exact .there (.there (.there (.there (.there (.there (.here rfl)))))) | exact .there (.there (.there (.there (.there (.there (.there (.here rfl))))))) | exact .there (.there (.there (.there (.there (.there (.there (.there (.here rfl))))))))) (by trivial) ?_
  refine O_loadS hS rfl rfl rfl rfl rfl Try.isAgg3 (by first | exact .here rfl | exact .there (.here rfl) | exact .there (.there (.here rfl)) | exact .there (.there (.there (.here rfl))) | exact .there (.there (.there (.there (.here rfl)))) | exact .there (.there (.there (.there (.there (.here rfl))))) | exact .there (.there (.there (.there (.there (.there (.here rfl)))))) | exact .there (.there (.there (.there (.there (.there (.there (.here rfl))))))) | exact .there (.there (.there (.there (.there (.there (.there (.there (.here rfl))))))))) (by trivial) ?_
  refine O_cmp rfl rfl rfl rfl rfl rfl rfl ?_
  refine O_pickT rfl rfl rfl rfl rfl rfl ?_
  refine O_assign rfl rfl rfl rfl rfl ?_
  refine R_nil ?_
  refine tn ?_
  refine F_ret ?_
  show endF _ _ _ _ _ _
  refine end0 trivial rfl rfl rfl hS ?_
  intro w hS
  exact ⟨rfl, hS⟩
theorem has_ii {w0 w : World} {R A It : HProp} {gf : Nat} {first lb : Array Value} {ad : Option Addr} {n c : Nat} {lim : Int} {xs : List Int} (hit : Iter Try.prog (.func (.func gf) first lb) It (fun x => [eI x].toArray) xs) (hA : Rds A ad (xs.map eI)) (hn : xs.length = n) (hb : n ≤ 100000) (hS : Sat w0 (It * (A * R)) w) :
    Calls Try.prog 19 #[.func (.func gf) first lb, .slice ad n c, .int .i64 lim] w (ret fun u w' => u = .bool true ∧ Sat w0 (It * (A * R)) w') := by
  replace hS := hS.noblks
  refine enterF (args := [_, _, _]) Try.func19 rfl Try.ntmps19 rfl rfl ?_
  refine F_seq ?_
  refine F_region (p := ⟨_, [2, 2, 0], []⟩) rfl [0, 1, 2] rfl ?_
  refine O_boxS hS rfl rfl rfl rfl rfl (fun _ _ hv => trivial) ?_
  intro b1 w hS
  refine O_boxS hS rfl rfl rfl rfl rfl (fun _ _ hv => trivial) ?_
  intro b2 w hS
  refine O_assign rfl rfl rfl rfl rfl ?_
  refine R_nil ?_
  refine tn ?_
  refine F_seq ?_
  refine F_region (p := ⟨_, [2, 2, 2, 2], []⟩) rfl [0, 1, 2, 3] rfl ?_
  refine O_allocS hS rfl rfl rfl rfl Try.zeroValue3 (fun _ _ hv => trivial) ?_
  intro b3 w hS
  refine O_allocS hS rfl rfl rfl rfl Try.zeroValue4 (fun _ _ hv => trivial) ?_
  intro b4 w hS
  refine O_storeS hS rfl rfl rfl rfl rfl rfl rfl Try.sizeOf3 (by first | exact .here rfl rfl | exact .there (.here rfl rfl) | exact .there (.there (.here rfl rfl)) | exact .there (.there (.there (.here rfl rfl))) | exact .there (.there (.there (.there (.here rfl rfl)))) | exact .there (.there (.there (.there (.there (.here rfl rfl))))) | exact .there (.there (.there (.there (.there (.there (.here rfl rfl)))))) | exact .there (.there (.there (.there (.there (.there (.there (.here rfl rfl))))))) | exact .there (.there (.there (.there (.there (.there (.there (.there (.here rfl rfl))))))))) (fun w' hv => trivial) ?_
  intro w hS
  refine O_storeS hS rfl rfl rfl rfl rfl rfl rfl Try.sizeOf4 (by first | exact .here rfl rfl | exact .there (.here rfl rfl) | exact .there (.there (.here rfl rfl)) | exact .there (.there (.there (.here rfl rfl))) | exact .there (.there (.there (.there (.here rfl rfl)))) | exact .there (.there (.there (.there (.there (.here rfl rfl))))) | exact .there (.there (.there (.there (.there (.there (.here rfl rfl)))))) | exact .there (.there (.there (.there (.there (.there (.there (.here rfl rfl))))))) | exact .there (.there (.there (.there (.there (.there (.there (.there (.here rfl rfl))))))))) (fun w' hv => trivial) ?_
  intro w hS
  refine R_nil ?_
  refine tn ?_
  refine F_seq ?_
  refine F_region (p := ⟨_, [0, 0, 2], []⟩) rfl [0, 1, 2] rfl ?_
  refine O_move rfl rfl rfl rfl rfl ?_
  refine O_makeFunc rfl rfl rfl rfl rfl rfl ?_
  replace hS : Sat w0 (blks [(b4, .cells #[.bool true] 4 (0, 0)), (b3, .cells #[.int .i64 0] 3 (0, 0)), (b2, .cells #[.int .i64 lim] 3 (0, 0)), (b1, .cells #[.slice ad n c] 28 (0, 0))] * (It * (A * R))) w := hS
  have hQ : Sat w0 (It * ((fun pre : List Int => pur (pre = [] ∨ (pre.length : Int) < lim) * (blks [(b4, .cells #[.bool true] 4 (0, 0)), (b3, .cells #[.int .i64 (pre.length : Nat)] 3 (0, 0)), (b2, .cells #[.int .i64 lim] 3 (0, 0)), (b1, .cells #[.slice ad n c] 28 (0, 0))] * A)) [] * R)) w := Sat.to (Sat.mkpure (p := (([] : List Int) = [] ∨ ((([] : List Int).length : Nat) : Int) < lim)) (.inl rfl) hS) (by simp only [List.length_nil]; ac_rfl)
  have hy : ∀ pre x post R w, xs = pre ++ x :: post → Sat w0 ((fun pre : List Int => pur (pre = [] ∨ (pre.length : Int) < lim) * (blks [(b4, .cells #[.bool true] 4 (0, 0)), (b3, .cells #[.int .i64 (pre.length : Nat)] 3 (0, 0)), (b2, .cells #[.int .i64 lim] 3 (0, 0)), (b1, .cells #[.slice ad n c] 28 (0, 0))] * A)) pre * R) w → FV Try.prog (.func (.func 44) #[] #[.pointer (some ⟨b4, 0, none⟩), .pointer (some ⟨b3, 0, none⟩), .pointer (some ⟨b1, 0, none⟩), .pointer (some ⟨b2, 0, none⟩)]) ((fun x => [eI x].toArray) x) w (fun r w' => (r = .bool true ∧ Sat w0 ((fun pre : List Int => pur (pre = [] ∨ (pre.length : Int) < lim) * (blks [(b4, .cells #[.bool true] 4 (0, 0)), (b3, .cells #[.int .i64 (pre.length : Nat)] 3 (0, 0)), (b2, .cells #[.int .i64 lim] 3 (0, 0)), (b1, .cells #[.slice ad n c] 28 (0, 0))] * A)) (pre ++ [x]) * R) w') ∨ (r = .bool false ∧ Sat w0 ((fun pre : List Int => pur (¬ pre = [] ∧ (pre.length : Int) = max lim 1) * (blks [(b4, .cells #[.bool true] 4 (0, 0)), (b3, .cells #[.int .i64 (pre.length : Nat)] 3 (0, 0)), (b2, .cells #[.int .i64 lim] 3 (0, 0)), (b1, .cells #[.slice ad n c] 28 (0, 0))] * A)) (pre ++ [x]) * R) w')) := by
    intro pre x post R w hx hS
    obtain ⟨hp, hS⟩ := Sat.pure (hS.to (star_assoc _ _ _))
    replace hS : Sat w0 (blks [(b4, .cells #[.bool true] 4 (0, 0)), (b3, .cells #[.int .i64 (pre.length : Nat)] 3 (0, 0)), (b2, .cells #[.int .i64 lim] 3 (0, 0)), (b1, .cells #[.slice ad n c] 28 (0, 0))] * (A * R)) w := hS.to (by ac_rfl)
    refine FV.of_list (args := [eI x]) (cap := [.pointer (some ⟨b4, 0, none⟩), .pointer (some ⟨b3, 0, none⟩), .pointer (some ⟨b1, 0, none⟩), .pointer (some ⟨b2, 0, none⟩)]) Try.call44 (Calls.mono' (hasf_ii hA hn hb hx hS) ?_)
    rintro e w' ⟨u, rfl, rfl, hS⟩
    have hlen : ((pre ++ [x]).length : Int) = (pre.length : Int) + 1 := by simp
    by_cases hlt : (pre.length : Int) + 1 < lim
    · refine ⟨_, rfl, .inl ⟨congrArg Value.bool (decide_eq_true hlt), ?_⟩⟩
      exact (Sat.mkpure (p := (pre ++ [x] = [] ∨ ((pre ++ [x]).length : Int) < lim)) (.inr (by omega)) hS).to (by simp only [hlen]; ac_rfl)
    · have hmx : ((pre ++ [x]).length : Int) = max lim 1 := by
        rcases hp with h | h
        · rw [h] at hlt ⊢; simp at hlt ⊢; omega
        · omega
      refine ⟨_, rfl, .inr ⟨congrArg Value.bool (decide_eq_false hlt), ?_⟩⟩
      exact (Sat.mkpure (p := (¬ pre ++ [x] = [] ∧ ((pre ++ [x]).length : Int) = max lim 1)) ⟨by simp, hmx⟩ hS).to (by simp only [hlen]; ac_rfl)
  clear hS
  refine O_callv rfl rfl rfl rfl rfl rfl (hit w0 _ (fun pre : List Int => pur (pre = [] ∨ (pre.length : Int) < lim) * (blks [(b4, .cells #[.bool true] 4 (0, 0)), (b3, .cells #[.int .i64 (pre.length : Nat)] 3 (0, 0)), (b2, .cells #[.int .i64 lim] 3 (0, 0)), (b1, .cells #[.slice ad n c] 28 (0, 0))] * A)) (fun pre : List Int => pur (¬ pre = [] ∧ (pre.length : Int) = max lim 1) * (blks [(b4, .cells #[.bool true] 4 (0, 0)), (b3, .cells #[.int .i64 (pre.length : Nat)] 3 (0, 0)), (b2, .cells #[.int .i64 lim] 3 (0, 0)), (b1, .cells #[.slice ad n c] 28 (0, 0))] * A)) ⟨_, _, _, rfl⟩ hy R w hQ) (fun _ _ hv => trivial) ?_
  rintro _ w (hS | ⟨pre, hpre, hS⟩)
  · obtain ⟨hp, hS2⟩ := Sat.pure (p := (xs = [] ∨ ((xs.length : Nat) : Int) < lim)) (R := It * ((blks [(b4, .cells #[.bool true] 4 (0, 0)), (b3, .cells #[.int .i64 (xs.length : Nat)] 3 (0, 0)), (b2, .cells #[.int .i64 lim] 3 (0, 0)), (b1, .cells #[.slice ad n c] 28 (0, 0))] * A) * R)) (hS.to (by ac_rfl))
    clear hS
    replace hS : Sat w0 (blks [(b4, .cells #[.bool true] 4 (0, 0)), (b3, .cells #[.int .i64 (xs.length : Nat)] 3 (0, 0)), (b2, .cells #[.int .i64 lim] 3 (0, 0)), (b1, .cells #[.slice ad n c] 28 (0, 0))] * (It * (A * R))) w := hS2.to (by ac_rfl)
    have hres : ((xs.length : Nat) : Int) = min (n : Int) (max lim 1) := by
      rcases hp with h | h
      · have := congrArg List.length h; simp only [List.length_nil] at this; omega
      · omega
    refine R_nil ?_
    refine tn ?_
    refine F_seq ?_
    refine F_region (p := ⟨_, [1, 0, 1, 1, 0, 1, 0, 0, 0, 0, 0], []⟩) rfl [0, 1, 2, 3, 4, 5, 6, 7, 8, 9, 10] rfl ?_
    refine O_loadS hS rfl rfl rfl rfl rfl Try.isAgg4 (by first | exact .here rfl | exact .there (.here rfl) | exact .there (.there (.here rfl)) | exact .there (.there (.there (.here rfl))) | exact .there (.there (.there (.there (.here rfl)))) | exact .there (.there (.there (.there (.there (.here rfl))))) | exact .there (.there (.there (.there (.there (.there (.here rfl)))))) | exact .there (.there (.there (.there (.there (.there (.there (.here rfl))))))) | exact .there (.there (.there (.there (.there (.there (.there (.there (.here rfl))))))))) (by trivial) ?_
    refine O_move rfl rfl rfl rfl rfl ?_
    refine R_caseT (t := 13) rfl rfl ?_
    refine O_loadS hS rfl rfl rfl rfl rfl Try.isAgg3 (by first | exact .here rfl | exact .there (.here rfl) | exact .there (.there (.here rfl)) | exact .there (.there (.there (.here rfl))) | exact .there (.there (.there (.there (.here rfl)))) | exact .there (.there (.there (.there (.there (.here rfl))))) | exact .there (.there (.there (.there (.there (.there (.here rfl)))))) | exact .there (.there (.there (.there (.there (.there (.there (.here rfl))))))) | exact .there (.there (.there (.there (.there (.there (.there (.there (.here rfl))))))))) (by trivial) ?_
    refine O_loadS hS rfl rfl rfl rfl rfl Try.isAgg28 (by first | exact .here rfl | exact .there (.here rfl) | exact .there (.there (.here rfl)) | exact .there (.there (.there (.here rfl))) | exact .there (.there (.there (.there (.here rfl)))) | exact .there (.there (.there (.there (.there (.here rfl))))) | exact .there (.there (.there (.there (.there (.there (.here rfl)))))) | exact .there (.there (.there (.there (.there (.there (.there (.here rfl))))))) | exact .there (.there (.there (.there (.there (.there (.there (.there (.here rfl))))))))) (by trivial) ?_
    refine O_lenSl rfl rfl rfl rfl rfl Try.runUnderlying28 ?_
    refine O_loadS hS rfl rfl rfl rfl rfl Try.isAgg3 (by first | exact .here rfl | exact .there (.here rfl) | exact .there (.there (.here rfl)) | exact .there (.there (.there (.here rfl))) | exact .there (.there (.there (.there (.here rfl)))) | exact .there (.there (.there (.there (.there (.here rfl))))) | exact .there (.there (.there (.there (.there (.there (.here rfl)))))) | exact .there (.there (.there (.there (.there (.there (.there (.here rfl))))))) | exact .there (.there (.there (.there (.there (.there (.there (.there (.here rfl))))))))) (by trivial) ?_
    refine O_max2 rfl rfl rfl rfl rfl rfl ?_
    refine O_min2 rfl rfl rfl rfl rfl rfl ?_
    refine O_cmp rfl rfl rfl rfl rfl rfl rfl ?_
    refine O_pickT rfl rfl rfl rfl rfl rfl ?_
    refine O_assign rfl rfl rfl rfl rfl ?_
    refine R_nil ?_
    refine tn ?_
    refine F_ret ?_
    show endF _ _ _ _ _ _
    refine end0 trivial rfl rfl rfl hS ?_
    intro w hS
    refine ⟨congrArg Value.bool (decide_eq_true hres), ?_⟩
    exact Sat.drop hS
  · obtain ⟨hp, hS2⟩ := Sat.pure (p := (¬ pre = [] ∧ ((pre.length : Nat) : Int) = max lim 1)) (R := It * ((blks [(b4, .cells #[.bool true] 4 (0, 0)), (b3, .cells #[.int .i64 (pre.length : Nat)] 3 (0, 0)), (b2, .cells #[.int .i64 lim] 3 (0, 0)), (b1, .cells #[.slice ad n c] 28 (0, 0))] * A) * R)) (hS.to (by ac_rfl))
    clear hS
    replace hS : Sat w0 (blks [(b4, .cells #[.bool true] 4 (0, 0)), (b3, .cells #[.int .i64 (pre.length : Nat)] 3 (0, 0)), (b2, .cells #[.int .i64 lim] 3 (0, 0)), (b1, .cells #[.slice ad n c] 28 (0, 0))] * (It * (A * R))) w := hS2.to (by ac_rfl)
    have hle := hpre.length_le
    have hres : ((pre.length : Nat) : Int) = min (n : Int) (max lim 1) := by omega
    refine R_nil ?_
    refine tn ?_
    refine F_seq ?_
    refine F_region (p := ⟨_, [1, 0, 1, 1, 0, 1, 0, 0, 0, 0, 0], []⟩) rfl [0, 1, 2, 3, 4, 5, 6, 7, 8, 9, 10] rfl ?_
    refine O_loadS hS rfl rfl rfl rfl rfl Try.isAgg4 (by first | exact .here rfl | exact .there (.here rfl) | exact .there (.there (.here rfl)) | exact .there (.there (.there (.here rfl))) | exact .there (.there (.there (.there (.here rfl)))) | exact .there (.there (.there (.there (.there (.here rfl))))) | exact .there (.there (.there (.there (.there (.there (.here rfl)))))) | exact .there (.there (.there (.there (.there (.there (.there (.here rfl))))))) | exact .there (.there (.there (.there (.there (.there (.there (.there (.here rfl))))))))) (by trivial) ?_
    refine O_move rfl rfl rfl rfl rfl ?_
    refine R_caseT (t := 13) rfl rfl ?_
    refine O_loadS hS rfl rfl rfl rfl rfl Try.isAgg3 (by first | exact .here rfl | exact .there (.here rfl) | exact .there (.there (.here rfl)) | exact .there (.there (.there (.here rfl))) | exact .there (.there (.there (.there (.here rfl)))) | exact .there (.there (.there (.there (.there (.here rfl))))) | exact .there (.there (.there (.there (.there (.there (.here rfl)))))) | exact .there (.there (.there (.there (.there (.there (.there (.here rfl))))))) | exact .there (.there (.there (.there (.there (.there (.there (.there (.here rfl))))))))) (by trivial) ?_
    refine O_loadS hS rfl rfl rfl rfl rfl Try.isAgg28 (by first | exact .here rfl | exact .there (.here rfl) | exact .there (.there (.here rfl)) | exact .there (.there (.there (.here rfl))) | exact .there (.there (.there (.there (.here rfl)))) | exact .there (.there (.there (.there (.there (.here rfl))))) | exact .there (.there (.there (.there (.there (.there (.here rfl)))))) | exact .there (.there (.there (.there (.there (.there (.there (.here rfl))))))) | exact .there (.there (.there (.there (.there (.there (.there (.there (.here rfl))))))))) (by trivial) ?_
    refine O_lenSl rfl rfl rfl rfl rfl Try.runUnderlying28 ?_
    refine O_loadS hS rfl rfl rfl rfl rfl Try.isAgg3 (by first | exact .here rfl | exact .there (.here rfl) | exact .there (.there (.here rfl)) | exact .there (.there (.there (.here rfl))) | exact .there (.there (.there (.there (.here rfl)))) | exact .there (.there (.there (.there (.there (.here rfl))))) | exact .there (.there (.there (.there (.there (.there (.here rfl)))))) | exact .there (.there (.there (.there (.there (.there (.there (.here rfl))))))) | exact .there (.there (.there (.there (.there (.there (.there (.there (.here rfl))))))))) (by trivial) ?_
    refine O_max2 rfl rfl rfl rfl rfl rfl ?_
    refine O_min2 rfl rfl rfl rfl rfl rfl ?_
    refine O_cmp rfl rfl rfl rfl rfl rfl rfl ?_
    refine O_pickT rfl rfl rfl rfl rfl rfl ?_
    refine O_assign rfl rfl rfl rfl rfl ?_
    refine R_nil ?_
    refine tn ?_
    refine F_ret ?_
    show endF _ _ _ _ _ _
    refine end0 trivial rfl rfl rfl hS ?_
    intro w hS
    refine ⟨congrArg Value.bool (decide_eq_true hres), ?_⟩
    exact Sat.drop hS
end Go.Proofs.Ytpnigaoibhogfaa
