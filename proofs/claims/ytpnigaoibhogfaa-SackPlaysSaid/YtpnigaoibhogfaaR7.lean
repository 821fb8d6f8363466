/- YtpnigaoibhogfaaR7: a part of the proof: walks over the translated code, and plain facts on lists beside. -/
import Derived.Test.YtpnigaoibhogfaaR6
set_option linter.all false
namespace Go.Proofs.Ytpnigaoibhogfaa
open Go Go.RowKit Go.Sl
set_option linter.unusedVariables false
theorem sClone_ii {w0 w : World} {R : HProp} {sb : Nat} {room : Int} {es : List (Int × Int)} (hS : Sat w0 (sackP E_ii O_ii 81 sb es room * R) w) :
    Calls Try.prog 22 #[.pointer (some ⟨sb, 0, none⟩)] w (ret fun u w' => ∃ cb es2, u = .pointer (some ⟨cb, 0, none⟩) ∧ expand es2 = expand es ∧ Sat w0 (sackP E_ii O_ii 81 cb es2 room * (sackP E_ii O_ii 81 sb es room * R)) w') := by
  obtain ⟨rb, hw, hs, ht, hr, hS⟩ := sackP_open hS
  have h0 := tot0 hw
  refine enterF (args := [_]) Try.func22 rfl Try.ntmps22 rfl rfl ?_
  refine F_seq ?_
  refine F_region (p := ⟨_, [0], []⟩) rfl [0] rfl ?_
  refine O_assign rfl rfl rfl rfl rfl ?_
  refine R_nil ?_
  refine tn ?_
  refine F_seq ?_
  refine F_region (p := ⟨_, [0, 0, 0, 1, 2, 0, 0, 0, 0, 0], []⟩) rfl [0, 1, 2, 3, 4, 5, 6, 7, 8, 9] rfl ?_
  refine O_move rfl rfl rfl rfl rfl ?_
  refine O_nilCheck rfl rfl rfl rfl rfl ?_
  refine O_fieldAddr rfl rfl rfl rfl rfl Try.runUnderlying81 rfl Try.sizeOf3 ?_
  refine O_loadS hS rfl rfl rfl rfl rfl Try.isAgg3 (by first | exact .here rfl | exact .there (.here rfl) | exact .there (.there (.here rfl)) | exact .there (.there (.there (.here rfl))) | exact .there (.there (.there (.there (.here rfl)))) | exact .there (.there (.there (.there (.there (.here rfl))))) | exact .there (.there (.there (.there (.there (.there (.here rfl)))))) | exact .there (.there (.there (.there (.there (.there (.there (.here rfl))))))) | exact .there (.there (.there (.there (.there (.there (.there (.there (.here rfl))))))))) (by trivial) ?_
  replace hS := sackP_mk hw hs ht hr rfl hS
  refine O_call rfl rfl rfl rfl Try.call9 rfl (sNew_ii (by omega) hr hS) (fun _ _ hv => trivial) ?_
  rintro _ w ⟨cb, rfl, hS⟩
  refine O_move rfl rfl rfl rfl rfl ?_
  refine O_extract rfl rfl rfl rfl rfl rfl ?_
  refine O_extract rfl rfl rfl rfl rfl rfl ?_
  refine O_assign rfl rfl rfl rfl rfl ?_
  refine O_assign rfl rfl rfl rfl rfl ?_
  refine R_nil ?_
  refine tn ?_
  refine F_seq ?_
  refine F_region (p := ⟨_, [0, 0, 2], []⟩) rfl [0, 1, 2] rfl ?_
  refine O_move rfl rfl rfl rfl rfl ?_
  refine O_move rfl rfl rfl rfl rfl ?_
  refine O_call rfl rfl rfl rfl Try.call15 rfl (sMerge_ii hS) (fun _ _ hv => trivial) ?_
  rintro _ w (⟨hno, _⟩ | ⟨_, rfl, hS⟩)
  · exfalso; simp only [tot] at hno; omega
  refine R_nil ?_
  refine tn ?_
  refine F_seq ?_
  refine F_region (p := ⟨_, [0, 0], []⟩) rfl [0, 1] rfl ?_
  refine O_move rfl rfl rfl rfl rfl ?_
  refine O_assign rfl rfl rfl rfl rfl ?_
  refine R_nil ?_
  refine tn ?_
  refine F_ret ?_
  show endF _ _ _ _ _ _
  refine end0 trivial rfl rfl rfl hS ?_
  intro w hS
  exact ⟨_, _, rfl, by rw [(foldAdd (es := []) (fun _ h => by cases h) List.Pairwise.nil).2.2.2]; exact foldIns_self (a := []) (srtR_expand hw hs), hS⟩
theorem sNear_ii {w0 w : World} {R : HProp} {sb : Nat} {room num den : Int} {es : List (Int × Int)} {k : Int} (hd : 1 ≤ den ∧ den ≤ 1000000) (hn : 0 ≤ num ∧ num ≤ den) (hk : nearE num den (tot es) 0 es = some k) (hS : Sat w0 (sackP E_ii O_ii 81 sb es room * R) w) :
    Calls Try.prog 37 #[.pointer (some ⟨sb, 0, none⟩), .int .i64 num, .int .i64 den] w (ret fun u w' => u = .tuple #[E_ii.k k, .int .i64 0] ∧ Sat w0 (sackP E_ii O_ii 81 sb es room * R) w') := by
  obtain ⟨rb, hw, hs, ht, hr, hS⟩ := sackP_open hS
  have h0 := tot0 hw
  have hne : ¬ tot es = 0 := by
    intro e
    have := tot_bd hw
    have : es = [] := List.length_eq_zero_iff.1 (by omega)
    subst this; cases hk
  refine enterF (args := [_, _, _]) Try.func37 rfl Try.ntmps37 rfl rfl ?_
  refine F_seq ?_
  refine F_region (p := ⟨_, [2, 2, 2, 2, 2], []⟩) rfl [0, 1, 2, 3, 4] rfl ?_
  refine O_boxS hS rfl rfl rfl rfl rfl (fun _ _ hv => trivial) ?_
  intro b1 w hS
  refine O_boxS hS rfl rfl rfl rfl rfl (fun _ _ hv => trivial) ?_
  intro b2 w hS
  refine O_boxS hS rfl rfl rfl rfl rfl (fun _ _ hv => trivial) ?_
  intro b3 w hS
  refine O_allocS hS rfl rfl rfl rfl Try.zeroValue3 (fun _ _ hv => trivial) ?_
  intro b4 w hS
  refine O_allocS hS rfl rfl rfl rfl Try.zeroValue25 (fun _ _ hv => trivial) ?_
  intro b5 w hS
  refine R_nil ?_
  refine tn ?_
  refine F_seq ?_
  refine F_region (p := ⟨_, [0], []⟩) rfl [0] rfl ?_
  refine O_assign rfl rfl rfl rfl rfl ?_
  refine R_nil ?_
  refine tn ?_
  refine F_seq ?_
  refine F_block ?_
  refine F_seq ?_
  refine F_region (p := ⟨_, [1, 0, 0, 1, 0, 0, 0, 1, 0, 0, 0, 1, 1, 0, 0, 0], []⟩) rfl [0, 1, 2, 3, 4, 5, 6, 7, 8, 9, 10, 11, 12, 13, 14, 15] rfl ?_
  refine O_loadS hS rfl rfl rfl rfl rfl Try.isAgg3 (by first | exact .here rfl | exact .there (.here rfl) | exact .there (.there (.here rfl)) | exact .there (.there (.there (.here rfl))) | exact .there (.there (.there (.there (.here rfl)))) | exact .there (.there (.there (.there (.there (.here rfl))))) | exact .there (.there (.there (.there (.there (.there (.here rfl)))))) | exact .there (.there (.there (.there (.there (.there (.there (.here rfl))))))) | exact .there (.there (.there (.there (.there (.there (.there (.there (.here rfl))))))))) (by trivial) ?_
  refine O_cmp rfl rfl rfl rfl rfl rfl rfl ?_
  refine O_move rfl rfl rfl rfl rfl ?_
  refine R_caseF (t := 15) rfl (decide_eq_false (by omega)) ?_
  refine O_loadS hS rfl rfl rfl rfl rfl Try.isAgg3 (by first | exact .here rfl | exact .there (.here rfl) | exact .there (.there (.here rfl)) | exact .there (.there (.there (.here rfl))) | exact .there (.there (.there (.there (.here rfl)))) | exact .there (.there (.there (.there (.there (.here rfl))))) | exact .there (.there (.there (.there (.there (.there (.here rfl)))))) | exact .there (.there (.there (.there (.there (.there (.there (.here rfl))))))) | exact .there (.there (.there (.there (.there (.there (.there (.there (.here rfl))))))))) (by trivial) ?_
  refine O_cmp rfl rfl rfl rfl rfl rfl rfl ?_
  refine O_pickF rfl rfl rfl rfl rfl rfl ?_
  refine O_move rfl rfl rfl rfl rfl ?_
  refine R_caseF (t := 19) rfl (decide_eq_false (by omega)) ?_
  refine O_loadS hS rfl rfl rfl rfl rfl Try.isAgg3 (by first | exact .here rfl | exact .there (.here rfl) | exact .there (.there (.here rfl)) | exact .there (.there (.there (.here rfl))) | exact .there (.there (.there (.there (.here rfl)))) | exact .there (.there (.there (.there (.there (.here rfl))))) | exact .there (.there (.there (.there (.there (.there (.here rfl)))))) | exact .there (.there (.there (.there (.there (.there (.there (.here rfl))))))) | exact .there (.there (.there (.there (.there (.there (.there (.there (.here rfl))))))))) (by trivial) ?_
  refine O_cmp rfl rfl rfl rfl rfl rfl rfl ?_
  refine O_pickF rfl rfl rfl rfl rfl rfl ?_
  refine O_move rfl rfl rfl rfl rfl ?_
  refine R_caseF (t := 23) rfl (decide_eq_false (by omega)) ?_
  refine O_loadS hS rfl rfl rfl rfl rfl Try.isAgg3 (by first | exact .here rfl | exact .there (.here rfl) | exact .there (.there (.here rfl)) | exact .there (.there (.there (.here rfl))) | exact .there (.there (.there (.there (.here rfl)))) | exact .there (.there (.there (.there (.there (.here rfl))))) | exact .there (.there (.there (.there (.there (.there (.here rfl)))))) | exact .there (.there (.there (.there (.there (.there (.there (.here rfl))))))) | exact .there (.there (.there (.there (.there (.there (.there (.there (.here rfl))))))))) (by trivial) ?_
  refine O_loadS hS rfl rfl rfl rfl rfl Try.isAgg3 (by first | exact .here rfl | exact .there (.here rfl) | exact .there (.there (.here rfl)) | exact .there (.there (.there (.here rfl))) | exact .there (.there (.there (.there (.here rfl)))) | exact .there (.there (.there (.there (.there (.here rfl))))) | exact .there (.there (.there (.there (.there (.there (.here rfl)))))) | exact .there (.there (.there (.there (.there (.there (.there (.here rfl))))))) | exact .there (.there (.there (.there (.there (.there (.there (.there (.here rfl))))))))) (by trivial) ?_
  refine O_cmp rfl rfl rfl rfl rfl rfl rfl ?_
  refine O_pickF rfl rfl rfl rfl rfl rfl ?_
  refine O_assign rfl rfl rfl rfl rfl ?_
  refine R_nil ?_
  refine tn ?_
  refine F_false rfl (decide_eq_false (by omega)) ?_
  refine F_seq ?_
  refine F_region (p := ⟨_, [1, 0, 0, 1, 0, 0], []⟩) rfl [0, 1, 2, 3, 4, 5] rfl ?_
  refine O_loadS hS rfl rfl rfl rfl rfl Try.isAgg24 (by first | exact .here rfl | exact .there (.here rfl) | exact .there (.there (.here rfl)) | exact .there (.there (.there (.here rfl))) | exact .there (.there (.there (.there (.here rfl)))) | exact .there (.there (.there (.there (.there (.here rfl))))) | exact .there (.there (.there (.there (.there (.there (.here rfl)))))) | exact .there (.there (.there (.there (.there (.there (.there (.here rfl))))))) | exact .there (.there (.there (.there (.there (.there (.there (.there (.here rfl))))))))) (by trivial) ?_
  refine O_nilCheck rfl rfl rfl rfl rfl ?_
  refine O_fieldAddr rfl rfl rfl rfl rfl Try.runUnderlying81 rfl Try.sizeOf3 ?_
  refine O_loadS hS rfl rfl rfl rfl rfl Try.isAgg3 (by first | exact .here rfl | exact .there (.here rfl) | exact .there (.there (.here rfl)) | exact .there (.there (.there (.here rfl))) | exact .there (.there (.there (.there (.here rfl)))) | exact .there (.there (.there (.there (.there (.here rfl))))) | exact .there (.there (.there (.there (.there (.there (.here rfl)))))) | exact .there (.there (.there (.there (.there (.there (.there (.here rfl))))))) | exact .there (.there (.there (.there (.there (.there (.there (.there (.here rfl))))))))) (by trivial) ?_
  refine O_cmp rfl rfl rfl rfl rfl rfl rfl ?_
  refine O_assign rfl rfl rfl rfl rfl ?_
  refine R_nil ?_
  refine tn ?_
  refine F_false rfl (decide_eq_false (by omega)) ?_
  refine F_skip ?_
  refine bn ?_
  refine tn ?_
  refine F_seq ?_
  refine F_region (p := ⟨_, [2, 2], []⟩) rfl [0, 1] rfl ?_
  refine O_allocS hS rfl rfl rfl rfl Try.zeroValue3 (fun _ _ hv => trivial) ?_
  intro b6 w hS
  refine O_storeS hS rfl rfl rfl rfl rfl rfl rfl Try.sizeOf3 (by first | exact .here rfl rfl | exact .there (.here rfl rfl) | exact .there (.there (.here rfl rfl)) | exact .there (.there (.there (.here rfl rfl))) | exact .there (.there (.there (.there (.here rfl rfl)))) | exact .there (.there (.there (.there (.there (.here rfl rfl))))) | exact .there (.there (.there (.there (.there (.there (.here rfl rfl)))))) | exact .there (.there (.there (.there (.there (.there (.there (.here rfl rfl))))))) | exact .there (.there (.there (.there (.there (.there (.there (.there (.here rfl rfl))))))))) (fun w' hv => trivial) ?_
  intro w hS
  refine R_nil ?_
  refine tn ?_
  refine F_seq ?_
  refine F_seq ?_
  refine F_region (p := ⟨_, [1, 2], []⟩) rfl [0, 1] rfl ?_
  refine O_loadS hS rfl rfl rfl rfl rfl Try.isAgg24 (by first | exact .here rfl | exact .there (.here rfl) | exact .there (.there (.here rfl)) | exact .there (.there (.there (.here rfl))) | exact .there (.there (.there (.there (.here rfl)))) | exact .there (.there (.there (.there (.there (.here rfl))))) | exact .there (.there (.there (.there (.there (.there (.here rfl)))))) | exact .there (.there (.there (.there (.there (.there (.there (.here rfl))))))) | exact .there (.there (.there (.there (.there (.there (.there (.there (.here rfl))))))))) (by trivial) ?_
  replace hS : Sat w0 (blks [(sb, .cells #[.pointer (some ⟨rb, 0, none⟩), .int .i64 room, .int .i64 (tot es)] 81 (0, 0))] * (blks [(b6, .cells #[.int .i64 0] 3 (0, 0)), (b5, .cells #[(.int .i64 0)] 25 (0, 0)), (b4, .cells #[(.int .i64 0)] 3 (0, 0)), (b3, .cells #[.int .i64 den] 3 (0, 0)), (b2, .cells #[.int .i64 num] 3 (0, 0)), (b1, .cells #[.pointer (some ⟨sb, 0, none⟩)] 24 (0, 0))] * (rackP E_ii O_ii rb es * R))) w := hS.to (by simp only [blks]; ac_rfl)
  refine O_call rfl rfl rfl rfl Try.call46 rfl (sRuns_ii hS) (fun _ _ hv => trivial) ?_
  rintro _ w ⟨b7, rfl, hS⟩
  refine R_nil ?_
  refine tn ?_
  refine F_block ?_
  refine F_range (α := Int × Int) (It := (pt b7 (.cells #[.pointer (some ⟨rb, 0, none⟩)] 77) * rackP E_ii O_ii rb es)) (gf := 92) (first := #[]) (lb := #[.pointer (some ⟨b7, 0, none⟩)]) rfl Try.call92 (fun x => [E_ii.k x.1, E_ii.v x.2]) (all_ii_iter (rb := rb) (bx := b7) (xs := es)) [38, 39] rfl (fun _ => rfl) rfl (fun pre => pur (nearE num den (tot es) 0 pre = none) * blks [(b6, .cells #[.int .i64 (tot pre)] 3 (0, 0)), (b5, .cells #[(.int .i64 0)] 25 (0, 0)), (b4, .cells #[(.int .i64 0)] 3 (0, 0)), (b3, .cells #[.int .i64 den] 3 (0, 0)), (b2, .cells #[.int .i64 num] 3 (0, 0)), (b1, .cells #[.pointer (some ⟨sb, 0, none⟩)] 24 (0, 0)), (sb, .cells #[.pointer (some ⟨rb, 0, none⟩), .int .i64 room, .int .i64 (tot es)] 81 (0, 0))]) (fun c pre => hex fun k2 => pur (c = Code.ret ∧ nearE num den (tot es) 0 pre = some k2) * blks [(b6, .cells #[.int .i64 (tot pre)] 3 (0, 0)), (b5, .cells #[(.int .i64 0)] 25 (0, 0)), (b4, .cells #[E_ii.k k2] 3 (0, 0)), (b3, .cells #[.int .i64 den] 3 (0, 0)), (b2, .cells #[.int .i64 num] 3 (0, 0)), (b1, .cells #[.pointer (some ⟨sb, 0, none⟩)] 24 (0, 0)), (sb, .cells #[.pointer (some ⟨rb, 0, none⟩), .int .i64 room, .int .i64 (tot es)] 81 (0, 0))]) (R0 := R) (w0 := w0) ?_ ?_ ?_ ?_
  · exact (Sat.mkpure (p := nearE num den (tot es) 0 ([] : List (Int × Int)) = none) rfl hS).to (by simp only [blks, tot]; ac_rfl)
  · clear hS
    intro l pre x post R w hx hS
    obtain ⟨k1, n⟩ := x
    have hn1 : 1 ≤ n := hw (k1, n) (by rw [hx]; simp)
    have htp : tot pre + n ≤ tot es ∧ 0 ≤ tot pre := by
      have e1 : tot es = tot pre + (n + tot post) := by rw [hx, tot_app]; rfl
      have h2 := tot0 (es := post) (fun y hy => hw y (by rw [hx]; simp [hy]))
      have h3 := tot0 (es := pre) (fun y hy => hw y (by rw [hx]; simp [hy]))
      omega
    obtain ⟨hnp, hS2⟩ := Sat.pure (hS.to (star_assoc _ _ _))
    clear hS
    have hS := hS2
    clear hS2
    have hm1 := mul_bd (a := tot pre + n) (b := den) (by omega) (by omega)
    have hm2 := mul_bd (a := num) (b := tot es) (by omega) (by omega)
    refine F_seq ?_
    refine F_region (p := ⟨_, [0], []⟩) rfl [0] rfl ?_
    refine O_assign rfl rfl rfl rfl rfl ?_
    refine R_nil ?_
    refine tn ?_
    refine F_region (p := ⟨_, [0], []⟩) rfl [0] rfl ?_
    refine O_assign rfl rfl rfl rfl rfl ?_
    refine R_nil ?_
    refine tn ⟨_, hS, ?_⟩
    clear hS
    intro R w hS
    have hap := nearE_app (m := [(k1, n)]) hnp
    have htot : tot (pre ++ [(k1, n)]) = tot pre + n := by rw [tot_app]; simp [tot]
    by_cases hfar : num * tot es ≤ (tot pre + n) * den
    · refine F_block ?_
      refine F_seq ?_
      refine F_region (p := ⟨_, [1, 0, 0, 2], []⟩) rfl [0, 1, 2, 3] rfl ?_
      refine O_loadS hS rfl rfl rfl rfl rfl Try.isAgg3 (by first | exact .here rfl | exact .there (.here rfl) | exact .there (.there (.here rfl)) | exact .there (.there (.there (.here rfl))) | exact .there (.there (.there (.there (.here rfl)))) | exact .there (.there (.there (.there (.there (.here rfl))))) | exact .there (.there (.there (.there (.there (.there (.here rfl)))))) | exact .there (.there (.there (.there (.there (.there (.there (.here rfl))))))) | exact .there (.there (.there (.there (.there (.there (.there (.there (.here rfl))))))))) (by trivial) ?_
      refine O_move rfl rfl rfl rfl rfl ?_
      refine O_addN rfl rfl rfl rfl rfl rfl (by omega) ?_
      refine O_storeS hS rfl rfl rfl rfl rfl rfl rfl Try.sizeOf3 (by first | exact .here rfl rfl | exact .there (.here rfl rfl) | exact .there (.there (.here rfl rfl)) | exact .there (.there (.there (.here rfl rfl))) | exact .there (.there (.there (.there (.here rfl rfl)))) | exact .there (.there (.there (.there (.there (.here rfl rfl))))) | exact .there (.there (.there (.there (.there (.there (.here rfl rfl)))))) | exact .there (.there (.there (.there (.there (.there (.there (.here rfl rfl))))))) | exact .there (.there (.there (.there (.there (.there (.there (.there (.here rfl rfl))))))))) (fun w' hv => trivial) ?_
      intro w hS
      refine R_nil ?_
      refine tn ?_
      refine F_seq ?_
      refine F_drawnS hS (by kernel_rfl) (p := ⟨_, [1, 1, 0, 1, 1, 0, 0, 1, 0, 0], []⟩) rfl (.ofList [0, 1, 2, 3, 4, 5, 6, 7, 8, 9]) (by kernel_rfl) ?_
      intro w hS
      refine O_loadS hS rfl rfl rfl rfl rfl Try.isAgg3 (by first | exact .here rfl | exact .there (.here rfl) | exact .there (.there (.here rfl)) | exact .there (.there (.there (.here rfl))) | exact .there (.there (.there (.there (.here rfl)))) | exact .there (.there (.there (.there (.there (.here rfl))))) | exact .there (.there (.there (.there (.there (.there (.here rfl)))))) | exact .there (.there (.there (.there (.there (.there (.there (.here rfl))))))) | exact .there (.there (.there (.there (.there (.there (.there (.there (.here rfl))))))))) (by trivial) ?_
      refine O_loadS hS rfl rfl rfl rfl rfl Try.isAgg3 (by first | exact .here rfl | exact .there (.here rfl) | exact .there (.there (.here rfl)) | exact .there (.there (.there (.here rfl))) | exact .there (.there (.there (.there (.here rfl)))) | exact .there (.there (.there (.there (.there (.here rfl))))) | exact .there (.there (.there (.there (.there (.there (.here rfl)))))) | exact .there (.there (.there (.there (.there (.there (.there (.here rfl))))))) | exact .there (.there (.there (.there (.there (.there (.there (.there (.here rfl))))))))) (by trivial) ?_
      refine O_mulN rfl rfl rfl rfl rfl rfl (show -9223372036854775808 ≤ (tot pre + n) * den ∧ (tot pre + n) * den ≤ 9223372036854775807 from by omega) ?_
      refine O_loadS hS rfl rfl rfl rfl rfl Try.isAgg3 (by first | exact .here rfl | exact .there (.here rfl) | exact .there (.there (.here rfl)) | exact .there (.there (.there (.here rfl))) | exact .there (.there (.there (.there (.here rfl)))) | exact .there (.there (.there (.there (.there (.here rfl))))) | exact .there (.there (.there (.there (.there (.there (.here rfl)))))) | exact .there (.there (.there (.there (.there (.there (.there (.here rfl))))))) | exact .there (.there (.there (.there (.there (.there (.there (.there (.here rfl))))))))) (by trivial) ?_
      refine O_loadS hS rfl rfl rfl rfl rfl Try.isAgg24 (by first | exact .here rfl | exact .there (.here rfl) | exact .there (.there (.here rfl)) | exact .there (.there (.there (.here rfl))) | exact .there (.there (.there (.there (.here rfl)))) | exact .there (.there (.there (.there (.there (.here rfl))))) | exact .there (.there (.there (.there (.there (.there (.here rfl)))))) | exact .there (.there (.there (.there (.there (.there (.there (.here rfl))))))) | exact .there (.there (.there (.there (.there (.there (.there (.there (.here rfl))))))))) (by trivial) ?_
      refine O_nilCheck rfl rfl rfl rfl rfl ?_
      refine O_fieldAddr rfl rfl rfl rfl rfl Try.runUnderlying81 rfl Try.sizeOf3 ?_
      refine O_loadS hS rfl rfl rfl rfl rfl Try.isAgg3 (by first | exact .here rfl | exact .there (.here rfl) | exact .there (.there (.here rfl)) | exact .there (.there (.there (.here rfl))) | exact .there (.there (.there (.there (.here rfl)))) | exact .there (.there (.there (.there (.there (.here rfl))))) | exact .there (.there (.there (.there (.there (.there (.here rfl)))))) | exact .there (.there (.there (.there (.there (.there (.there (.here rfl))))))) | exact .there (.there (.there (.there (.there (.there (.there (.there (.here rfl))))))))) (by trivial) ?_
      refine O_mulN rfl rfl rfl rfl rfl rfl (by omega) ?_
      refine O_cmp rfl rfl rfl rfl rfl rfl rfl ?_
      refine R_nil ?_
      refine tn ?_
      refine F_true rfl (decide_eq_true (by omega)) ?_
      refine F_seq ?_
      refine F_region (p := ⟨_, [0, 2, 2], []⟩) rfl [0, 1, 2] rfl ?_
      refine O_move rfl rfl rfl rfl rfl ?_
      refine O_storeS hS rfl rfl rfl rfl rfl rfl rfl Try.sizeOf3 (by first | exact .here rfl rfl | exact .there (.here rfl rfl) | exact .there (.there (.here rfl rfl)) | exact .there (.there (.there (.here rfl rfl))) | exact .there (.there (.there (.there (.here rfl rfl)))) | exact .there (.there (.there (.there (.there (.here rfl rfl))))) | exact .there (.there (.there (.there (.there (.there (.here rfl rfl)))))) | exact .there (.there (.there (.there (.there (.there (.there (.here rfl rfl))))))) | exact .there (.there (.there (.there (.there (.there (.there (.there (.here rfl rfl))))))))) (fun w' hv => trivial) ?_
      intro w hS
      refine O_storeS hS rfl rfl rfl rfl rfl rfl rfl Try.sizeOf25 (by first | exact .here rfl rfl | exact .there (.here rfl rfl) | exact .there (.there (.here rfl rfl)) | exact .there (.there (.there (.here rfl rfl))) | exact .there (.there (.there (.there (.here rfl rfl)))) | exact .there (.there (.there (.there (.there (.here rfl rfl))))) | exact .there (.there (.there (.there (.there (.there (.here rfl rfl)))))) | exact .there (.there (.there (.there (.there (.there (.there (.here rfl rfl))))))) | exact .there (.there (.there (.there (.there (.there (.there (.there (.here rfl rfl))))))))) (fun w' hv => trivial) ?_
      intro w hS
      refine R_nil ?_
      refine tn ?_
      refine F_ret ?_
      refine br ?_
      have hf : nearE num den (tot es) 0 (pre ++ [(k1, n)]) = some k1 := by rw [hap, Int.zero_add]; simp only [nearE, if_pos hfar]
      show Sat w0 ((hex fun k2 => pur (Code.ret = Code.ret ∧ nearE num den (tot es) 0 (pre ++ [(k1, n)]) = some k2) * blks [(b6, .cells #[.int .i64 (tot (pre ++ [(k1, n)]))] 3 (0, 0)), (b5, .cells #[(.int .i64 0)] 25 (0, 0)), (b4, .cells #[E_ii.k k2] 3 (0, 0)), (b3, .cells #[.int .i64 den] 3 (0, 0)), (b2, .cells #[.int .i64 num] 3 (0, 0)), (b1, .cells #[.pointer (some ⟨sb, 0, none⟩)] 24 (0, 0)), (sb, .cells #[.pointer (some ⟨rb, 0, none⟩), .int .i64 room, .int .i64 (tot es)] 81 (0, 0))]) * R) w
      rw [htot]
      refine Sat.mkex k1 ?_
      exact (Sat.mkpure (show Code.ret = Code.ret ∧ _ from ⟨rfl, hf⟩) hS).to (star_assoc _ _ _).symm
    · refine F_block ?_
      refine F_seq ?_
      refine F_region (p := ⟨_, [1, 0, 0, 2], []⟩) rfl [0, 1, 2, 3] rfl ?_
      refine O_loadS hS rfl rfl rfl rfl rfl Try.isAgg3 (by first | exact .here rfl | exact .there (.here rfl) | exact .there (.there (.here rfl)) | exact .there (.there (.there (.here rfl))) | exact .there (.there (.there (.there (.here rfl)))) | exact .there (.there (.there (.there (.there (.here rfl))))) | exact .there (.there (.there (.there (.there (.there (.here rfl)))))) | exact .there (.there (.there (.there (.there (.there (.there (.here rfl))))))) | exact .there (.there (.there (.there (.there (.there (.there (.there (.here rfl))))))))) (by trivial) ?_
      refine O_move rfl rfl rfl rfl rfl ?_
      refine O_addN rfl rfl rfl rfl rfl rfl (by omega) ?_
      refine O_storeS hS rfl rfl rfl rfl rfl rfl rfl Try.sizeOf3 (by first | exact .here rfl rfl | exact .there (.here rfl rfl) | exact .there (.there (.here rfl rfl)) | exact .there (.there (.there (.here rfl rfl))) | exact .there (.there (.there (.there (.here rfl rfl)))) | exact .there (.there (.there (.there (.there (.here rfl rfl))))) | exact .there (.there (.there (.there (.there (.there (.here rfl rfl)))))) | exact .there (.there (.there (.there (.there (.there (.there (.here rfl rfl))))))) | exact .there (.there (.there (.there (.there (.there (.there (.there (.here rfl rfl))))))))) (fun w' hv => trivial) ?_
      intro w hS
      refine R_nil ?_
      refine tn ?_
      refine F_seq ?_
      refine F_drawnS hS (by kernel_rfl) (p := ⟨_, [1, 1, 0, 1, 1, 0, 0, 1, 0, 0], []⟩) rfl (.ofList [0, 1, 2, 3, 4, 5, 6, 7, 8, 9]) (by kernel_rfl) ?_
      intro w hS
      refine O_loadS hS rfl rfl rfl rfl rfl Try.isAgg3 (by first | exact .here rfl | exact .there (.here rfl) | exact .there (.there (.here rfl)) | exact .there (.there (.there (.here rfl))) | exact .there (.there (.there (.there (.here rfl)))) | exact .there (.there (.there (.there (.there (.here rfl))))) | exact .there (.there (.there (.there (.there (.there (.here rfl)))))) | exact .there (.there (.there (.there (.there (.there (.there (.here rfl))))))) | exact .there (.there (.there (.there (.there (.there (.there (.there (.here rfl))))))))) (by trivial) ?_
      refine O_loadS hS rfl rfl rfl rfl rfl Try.isAgg3 (by first | exact .here rfl | exact .there (.here rfl) | exact .there (.there (.here rfl)) | exact .there (.there (.there (.here rfl))) | exact .there (.there (.there (.there (.here rfl)))) | exact .there (.there (.there (.there (.there (.here rfl))))) | exact .there (.there (.there (.there (.there (.there (.here rfl)))))) | exact .there (.there (.there (.there (.there (.there (.there (.here rfl))))))) | exact .there (.there (.there (.there (.there (.there (.there (.there (.here rfl))))))))) (by trivial) ?_
      refine O_mulN rfl rfl rfl rfl rfl rfl (show -9223372036854775808 ≤ (tot pre + n) * den ∧ (tot pre + n) * den ≤ 9223372036854775807 from by omega) ?_
      refine O_loadS hS rfl rfl rfl rfl rfl Try.isAgg3 (by first | exact .here rfl | exact .there (.here rfl) | exact .there (.there (.here rfl)) | exact .there (.there (.there (.here rfl))) | exact .there (.there (.there (.there (.here rfl)))) | exact .there (.there (.there (.there (.there (.here rfl))))) | exact .there (.there (.there (.there (.there (.there (.here rfl)))))) | exact .there (.there (.there (.there (.there (.there (.there (.here rfl))))))) | exact .there (.there (.there (.there (.there (.there (.there (.there (.here rfl))))))))) (by trivial) ?_
      refine O_loadS hS rfl rfl rfl rfl rfl Try.isAgg24 (by first | exact .here rfl | exact .there (.here rfl) | exact .there (.there (.here rfl)) | exact .there (.there (.there (.here rfl))) | exact .there (.there (.there (.there (.here rfl)))) | exact .there (.there (.there (.there (.there (.here rfl))))) | exact .there (.there (.there (.there (.there (.there (.here rfl)))))) | exact .there (.there (.there (.there (.there (.there (.there (.here rfl))))))) | exact .there (.there (.there (.there (.there (.there (.there (.there (.here rfl))))))))) (by trivial) ?_
      refine O_nilCheck rfl rfl rfl rfl rfl ?_
      refine O_fieldAddr rfl rfl rfl rfl rfl Try.runUnderlying81 rfl Try.sizeOf3 ?_
      refine O_loadS hS rfl rfl rfl rfl rfl Try.isAgg3 (by first | exact .here rfl | exact .there (.here rfl) | exact .there (.there (.here rfl)) | exact .there (.there (.there (.here rfl))) | exact .there (.there (.there (.there (.here rfl)))) | exact .there (.there (.there (.there (.there (.here rfl))))) | exact .there (.there (.there (.there (.there (.there (.here rfl)))))) | exact .there (.there (.there (.there (.there (.there (.there (.here rfl))))))) | exact .there (.there (.there (.there (.there (.there (.there (.there (.here rfl))))))))) (by trivial) ?_
      refine O_mulN rfl rfl rfl rfl rfl rfl (by omega) ?_
      refine O_cmp rfl rfl rfl rfl rfl rfl rfl ?_
      refine R_nil ?_
      refine tn ?_
      refine F_false rfl (decide_eq_false (by omega)) ?_
      refine F_skip ?_
      refine bn ?_
      have hf : nearE num den (tot es) 0 (pre ++ [(k1, n)]) = none := by rw [hap, Int.zero_add]; simp only [nearE, if_neg hfar]
      show Sat w0 ((pur (nearE num den (tot es) 0 (pre ++ [(k1, n)]) = none) * blks [(b6, .cells #[.int .i64 (tot (pre ++ [(k1, n)]))] 3 (0, 0)), (b5, .cells #[(.int .i64 0)] 25 (0, 0)), (b4, .cells #[(.int .i64 0)] 3 (0, 0)), (b3, .cells #[.int .i64 den] 3 (0, 0)), (b2, .cells #[.int .i64 num] 3 (0, 0)), (b1, .cells #[.pointer (some ⟨sb, 0, none⟩)] 24 (0, 0)), (sb, .cells #[.pointer (some ⟨rb, 0, none⟩), .int .i64 room, .int .i64 (tot es)] 81 (0, 0))]) * R) w
      rw [htot]
      exact (Sat.mkpure hf hS).to (star_assoc _ _ _).symm
  · clear hS
    intro D w hS
    exfalso
    obtain ⟨hnp, _⟩ := Sat.pure (p := nearE num den (tot es) 0 es = none) (R := blks [(b6, .cells #[.int .i64 (tot es)] 3 (0, 0)), (b5, .cells #[(.int .i64 0)] 25 (0, 0)), (b4, .cells #[(.int .i64 0)] 3 (0, 0)), (b3, .cells #[.int .i64 den] 3 (0, 0)), (b2, .cells #[.int .i64 num] 3 (0, 0)), (b1, .cells #[.pointer (some ⟨sb, 0, none⟩)] 24 (0, 0)), (sb, .cells #[.pointer (some ⟨rb, 0, none⟩), .int .i64 room, .int .i64 (tot es)] 81 (0, 0))] * (pt D (.deferred (some [])) * ((pt b7 (.cells #[.pointer (some ⟨rb, 0, none⟩)] 77) * rackP E_ii O_ii rb es) * R))) (hS.to (by ac_rfl))
    rw [hnp] at hk; cases hk
  · clear hS
    intro D c pre w hp hS
    replace hS : Sat w0 ((hex fun k2 => pur (c = Code.ret ∧ nearE num den (tot es) 0 pre = some k2) * blks [(b6, .cells #[.int .i64 (tot pre)] 3 (0, 0)), (b5, .cells #[(.int .i64 0)] 25 (0, 0)), (b4, .cells #[E_ii.k k2] 3 (0, 0)), (b3, .cells #[.int .i64 den] 3 (0, 0)), (b2, .cells #[.int .i64 num] 3 (0, 0)), (b1, .cells #[.pointer (some ⟨sb, 0, none⟩)] 24 (0, 0)), (sb, .cells #[.pointer (some ⟨rb, 0, none⟩), .int .i64 room, .int .i64 (tot es)] 81 (0, 0))]) * (pt D (.deferred (some [])) * ((pt b7 (.cells #[.pointer (some ⟨rb, 0, none⟩)] 77) * rackP E_ii O_ii rb es) * R))) w := hS.to (by ac_rfl)
    obtain ⟨k2, hS2⟩ := hS.ex
    clear hS
    obtain ⟨hc, hS3⟩ := Sat.pure (hS2.to (star_assoc _ _ _))
    clear hS2
    obtain ⟨rfl, hf⟩ := hc
    have hS := hS3
    have hkk : k2 = k := by obtain ⟨q, hq⟩ := hp; have := nearE_pre (m := q) hf; rw [hq, hk] at this; cases this; rfl
    subst hkk
    refine F_ret ?_
    refine br ?_
    refine tr ?_
    show endF _ _ _ _ _ _
    refine end_in (w0 := w0) (A := blks [(b6, .cells #[.int .i64 (tot pre)] 3 (0, 0)), (b5, .cells #[(.int .i64 0)] 25 (0, 0)), (b4, .cells #[E_ii.k k2] 3 (0, 0)), (b3, .cells #[.int .i64 den] 3 (0, 0)), (b2, .cells #[.int .i64 num] 3 (0, 0)), (b1, .cells #[.pointer (some ⟨sb, 0, none⟩)] 24 (0, 0)), (sb, .cells #[.pointer (some ⟨rb, 0, none⟩), .int .i64 room, .int .i64 (tot es)] 81 (0, 0))] * (pt b7 (.cells #[.pointer (some ⟨rb, 0, none⟩)] 77) * (rackP E_ii O_ii rb es * R))) (vs := [E_ii.k k2, .int .i64 0]) trivial rfl ?_ ?_
    · exact marks1 (D := D) (hS.to (by ac_rfl))
    · intro w hS
      refine ⟨⟨_, rfl, Try.isAgg3, CellAt.cell (by first | exact .here rfl | exact .there (.here rfl) | exact .there (.there (.here rfl)) | exact .there (.there (.there (.here rfl))) | exact .there (.there (.there (.there (.here rfl)))) | exact .there (.there (.there (.there (.there (.here rfl))))) | exact .there (.there (.there (.there (.there (.there (.here rfl)))))) | exact .there (.there (.there (.there (.there (.there (.there (.here rfl))))))) | exact .there (.there (.there (.there (.there (.there (.there (.there (.here rfl))))))))) hS, _, rfl, Try.isAgg25, CellAt.cell (by first | exact .here rfl | exact .there (.here rfl) | exact .there (.there (.here rfl)) | exact .there (.there (.there (.here rfl))) | exact .there (.there (.there (.there (.here rfl)))) | exact .there (.there (.there (.there (.there (.here rfl))))) | exact .there (.there (.there (.there (.there (.there (.here rfl)))))) | exact .there (.there (.there (.there (.there (.there (.there (.here rfl))))))) | exact .there (.there (.there (.there (.there (.there (.there (.there (.here rfl))))))))) hS, trivial⟩, rfl, ?_⟩
      exact sackP_mk hw hs ht hr rfl (Sat.drop (A := blks [(b6, .cells #[.int .i64 (tot pre)] 3 (0, 0)), (b5, .cells #[(.int .i64 0)] 25 (0, 0)), (b4, .cells #[E_ii.k k2] 3 (0, 0)), (b3, .cells #[.int .i64 den] 3 (0, 0)), (b2, .cells #[.int .i64 num] 3 (0, 0)), (b1, .cells #[.pointer (some ⟨sb, 0, none⟩)] 24 (0, 0))] * pt b7 (.cells #[.pointer (some ⟨rb, 0, none⟩)] 77)) (hS.to (by simp only [blks]; ac_rfl)))
end Go.Proofs.Ytpnigaoibhogfaa
