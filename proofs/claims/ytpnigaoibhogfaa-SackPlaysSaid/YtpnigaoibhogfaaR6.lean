/- YtpnigaoibhogfaaR6: a part of the proof: walks over the translated code, and plain facts on lists beside. -/
import Derived.Test.YtpnigaoibhogfaaR5
set_option linter.all false
namespace Go.Proofs.Ytpnigaoibhogfaa
open Go Go.RowKit Go.Sl
set_option linter.unusedVariables false
theorem pRoom_ii {w0 w : World} {R : HProp} {sb : Nat} {room : Int} {es : List (Int × Int)} (hS : Sat w0 (sackP E_ii O_ii 81 sb es room * R) w) : Calls Try.prog 17 #[.pointer (some ⟨sb, 0, none⟩)] w (ret fun u w' => u = .int .i64 (room - tot es) ∧ Sat w0 (sackP E_ii O_ii 81 sb es room * R) w') := by
  obtain ⟨rb, hw, hs, ht, hr, hS⟩ := sackP_open hS
  have h0 := tot0 hw
  refine Calls.mono' (sRoom_ii (by omega) hS) ?_
  rintro e w' ⟨u, rfl, rfl, hS⟩
  exact ⟨_, rfl, rfl, sackP_mk hw hs ht hr rfl hS⟩
theorem pLen_ii {w0 w : World} {R : HProp} {sb : Nat} {room : Int} {es : List (Int × Int)} (hS : Sat w0 (sackP E_ii O_ii 81 sb es room * R) w) : Calls Try.prog 16 #[.pointer (some ⟨sb, 0, none⟩)] w (ret fun u w' => u = .int .i64 (tot es) ∧ Sat w0 (sackP E_ii O_ii 81 sb es room * R) w') := by
  obtain ⟨rb, hw, hs, ht, hr, hS⟩ := sackP_open hS
  have h0 := tot0 hw
  refine Calls.mono' (sLen_ii hS) ?_
  rintro e w' ⟨u, rfl, rfl, hS⟩
  exact ⟨_, rfl, rfl, sackP_mk hw hs ht hr rfl hS⟩
theorem pMany_ii {w0 w : World} {R : HProp} {sb : Nat} {room : Int} {es : List (Int × Int)} (k : Int) (hS : Sat w0 (sackP E_ii O_ii 81 sb es room * R) w) : Calls Try.prog 18 #[.pointer (some ⟨sb, 0, none⟩), E_ii.k k] w (ret fun u w' => u = .int .i64 (cnt O_ii k es) ∧ Sat w0 (sackP E_ii O_ii 81 sb es room * R) w') := by
  obtain ⟨rb, hw, hs, ht, hr, hS⟩ := sackP_open hS
  refine Calls.mono' (sMany_ii k hS) ?_
  rintro e w' ⟨u, rfl, rfl, hS⟩
  exact ⟨_, rfl, rfl, sackP_mk hw hs ht hr rfl hS⟩
theorem sMergeSelf_ii {w0 w : World} {R : HProp} {sb : Nat} {room : Int} {es : List (Int × Int)} (hS : Sat w0 (sackP E_ii O_ii 81 sb es room * R) w) :
    Calls Try.prog 15 #[.pointer (some ⟨sb, 0, none⟩), .pointer (some ⟨sb, 0, none⟩)] w (ret fun u w' => (room - tot es < tot es ∧ u = .int .i64 3 ∧ Sat w0 (sackP E_ii O_ii 81 sb es room * R) w') ∨ (tot es ≤ room - tot es ∧ u = .int .i64 0 ∧ Sat w0 (sackP E_ii O_ii 81 sb ((expand es).foldl (fun s y => addE O_ii y s) es) room * R) w')) := by
  obtain ⟨rb, hw, hs, ht, hr, hS⟩ := sackP_open hS
  have h0 := tot0 hw
  have hlen := len_expand hw
  by_cases hfull : room - tot es < tot es
  ·
    refine enterF (args := [_, _]) Try.func15 rfl Try.ntmps15 rfl rfl ?_
    refine F_seq ?_
    refine F_region (p := ⟨_, [0], []⟩) rfl [0] rfl ?_
    refine O_assign rfl rfl rfl rfl rfl ?_
    refine R_nil ?_
    refine tn ?_
    refine F_seq ?_
    refine F_seq ?_
    refine F_drawnS hS (by kernel_rfl) (p := ⟨_, [0, 0, 0, 1, 0, 2, 0], [(3, 5)]⟩) rfl (.ofList [0, 1, 2, 3, 4, 5, 6]) (by kernel_rfl) ?_
    intro w hS
    refine O_move rfl rfl rfl rfl rfl ?_
    refine O_nilCheck rfl rfl rfl rfl rfl ?_
    refine O_fieldAddr rfl rfl rfl rfl rfl Try.runUnderlying81 rfl Try.sizeOf3 ?_
    refine O_loadS hS rfl rfl rfl rfl rfl Try.isAgg3 (by first | exact .here rfl | exact .there (.here rfl) | exact .there (.there (.here rfl)) | exact .there (.there (.there (.here rfl))) | exact .there (.there (.there (.there (.here rfl)))) | exact .there (.there (.there (.there (.there (.here rfl))))) | exact .there (.there (.there (.there (.there (.there (.here rfl)))))) | exact .there (.there (.there (.there (.there (.there (.there (.here rfl))))))) | exact .there (.there (.there (.there (.there (.there (.there (.there (.here rfl))))))))) (by trivial) ?_
    refine O_move rfl rfl rfl rfl rfl ?_
    have hS_5 := hS
    refine O_call rfl rfl rfl rfl Try.call17 rfl (sRoom_ii (by omega) hS) (fun _ _ hv => ⟨CellAt.cell (by first | exact .here rfl | exact .there (.here rfl) | exact .there (.there (.here rfl)) | exact .there (.there (.there (.here rfl))) | exact .there (.there (.there (.there (.here rfl)))) | exact .there (.there (.there (.there (.there (.here rfl))))) | exact .there (.there (.there (.there (.there (.there (.here rfl)))))) | exact .there (.there (.there (.there (.there (.there (.there (.here rfl))))))) | exact .there (.there (.there (.there (.there (.there (.there (.there (.here rfl))))))))) (hv.2), trivial⟩) ?_
    rintro _ w ⟨rfl, hS⟩
    refine O_cmp rfl rfl rfl rfl rfl rfl rfl ?_
    refine R_nil ?_
    refine tn ?_
    refine F_true rfl (decide_eq_true (by omega)) ?_
    refine F_seq ?_
    refine F_region (p := ⟨_, [0], []⟩) rfl [0] rfl ?_
    refine O_assign rfl rfl rfl rfl rfl ?_
    refine R_nil ?_
    refine tn ?_
    refine F_ret ?_
    refine tr ?_
    replace hS := sackP_mk hw hs ht hr rfl hS
    show endF _ _ _ _ _ _
    refine end0 trivial rfl rfl rfl hS ?_
    intro w hS
    exact .inl ⟨hfull, rfl, hS⟩
  ·
    refine enterF (args := [_, _]) Try.func15 rfl Try.ntmps15 rfl rfl ?_
    refine F_seq ?_
    refine F_region (p := ⟨_, [0], []⟩) rfl [0] rfl ?_
    refine O_assign rfl rfl rfl rfl rfl ?_
    refine R_nil ?_
    refine tn ?_
    refine F_seq ?_
    refine F_seq ?_
    refine F_drawnS hS (by kernel_rfl) (p := ⟨_, [0, 0, 0, 1, 0, 2, 0], [(3, 5)]⟩) rfl (.ofList [0, 1, 2, 3, 4, 5, 6]) (by kernel_rfl) ?_
    intro w hS
    refine O_move rfl rfl rfl rfl rfl ?_
    refine O_nilCheck rfl rfl rfl rfl rfl ?_
    refine O_fieldAddr rfl rfl rfl rfl rfl Try.runUnderlying81 rfl Try.sizeOf3 ?_
    refine O_loadS hS rfl rfl rfl rfl rfl Try.isAgg3 (by first | exact .here rfl | exact .there (.here rfl) | exact .there (.there (.here rfl)) | exact .there (.there (.there (.here rfl))) | exact .there (.there (.there (.there (.here rfl)))) | exact .there (.there (.there (.there (.there (.here rfl))))) | exact .there (.there (.there (.there (.there (.there (.here rfl)))))) | exact .there (.there (.there (.there (.there (.there (.there (.here rfl))))))) | exact .there (.there (.there (.there (.there (.there (.there (.there (.here rfl))))))))) (by trivial) ?_
    refine O_move rfl rfl rfl rfl rfl ?_
    have hS_5 := hS
    refine O_call rfl rfl rfl rfl Try.call17 rfl (sRoom_ii (by omega) hS) (fun _ _ hv => ⟨CellAt.cell (by first | exact .here rfl | exact .there (.here rfl) | exact .there (.there (.here rfl)) | exact .there (.there (.there (.here rfl))) | exact .there (.there (.there (.there (.here rfl)))) | exact .there (.there (.there (.there (.there (.here rfl))))) | exact .there (.there (.there (.there (.there (.there (.here rfl)))))) | exact .there (.there (.there (.there (.there (.there (.there (.here rfl))))))) | exact .there (.there (.there (.there (.there (.there (.there (.there (.here rfl))))))))) (hv.2), trivial⟩) ?_
    rintro _ w ⟨rfl, hS⟩
    refine O_cmp rfl rfl rfl rfl rfl rfl rfl ?_
    refine R_nil ?_
    refine tn ?_
    refine F_false rfl (decide_eq_false (by omega)) ?_
    refine F_skip ?_
    refine tn ?_
    refine F_seq ?_
    refine F_seq ?_
    refine F_region (p := ⟨_, [0, 2, 2, 0, 0], []⟩) rfl [0, 1, 2, 3, 4] rfl ?_
    refine O_move rfl rfl rfl rfl rfl ?_
    replace hS := sackP_mk hw hs ht hr rfl hS
    refine O_call rfl rfl rfl rfl Try.call20 rfl (sAll_ii ⟨_, rfl⟩ hS) (fun _ _ hv => trivial) ?_
    rintro _ w ⟨bx, rfl, hS⟩
    replace hS : Sat w0 ((pt bx (.cells #[.pointer (some ⟨sb, 0, none⟩)] 24) * sackP E_ii O_ii 81 sb es room) * R) w := hS.to (by ac_rfl)
    refine O_call rfl rfl rfl rfl Try.call42 rfl (collect_i Try.call45 sall_ii_iter (by omega) hS) (fun _ _ hv => trivial) ?_
    rintro _ w hS
    obtain ⟨ad, c, rfl, hle, hcap, _⟩ := sl_form (hS.to (B := sl 3 1 _ ((expand es)).length (((expand es)).map eI) * ((pt bx (.cells #[.pointer (some ⟨sb, 0, none⟩)] 24) * sackP E_ii O_ii 81 sb es room) * R)) (by ac_rfl))
    generalize hxs : expand es = xs at *
    replace hS : Sat w0 (sl 3 1 (.slice ad xs.length c) xs.length (xs.map eI) * (sackP E_ii O_ii 81 sb es room * (pt bx (.cells #[.pointer (some ⟨sb, 0, none⟩)] 24) * R))) w := hS.to (by ac_rfl)
    refine O_lenSl rfl rfl rfl rfl rfl Try.runUnderlying28 ?_
    refine O_move rfl rfl rfl rfl rfl ?_
    refine R_nil ?_
    refine tn ?_
    refine F_block ?_
    refine F_loop2 (fun (pre _ : List Int) => [(0, .pointer (some ⟨sb, 0, none⟩)), (16, .slice ad xs.length c), (17, .int .i64 (xs.length : Nat)), (18, .int .i64 (pre.length : Nat))]) (fun pre post w => xs = pre ++ post ∧ Sat w0 (sl 3 1 (.slice ad xs.length c) xs.length (xs.map eI) * (sackP E_ii O_ii 81 sb (pre.foldl (fun s y => addE O_ii y s) es) room * (pt bx (.cells #[.pointer (some ⟨sb, 0, none⟩)] 24) * R))) w) (fun _ post => post.length) [] xs ⟨rfl, rfl, rfl, rfl, trivial⟩ ⟨rfl, hS⟩ ?_
    clear hS
    rintro pre post w ⟨hx, hS⟩
    have hl : pre.length + post.length = xs.length := by rw [hx, List.length_append]
    obtain ⟨_, _, hft, _⟩ := foldAdd (l := pre) hw hs
    rcases post with _ | ⟨x, post⟩
    · simp only [List.length_nil, Nat.add_zero] at hl
      rw [List.append_nil] at hx
      subst hx
      refine F_seq ?_
      refine F_region (p := ⟨_, [0], []⟩) rfl [0] rfl ?_
      refine O_cmp rfl rfl rfl rfl rfl rfl rfl ?_
      refine R_nil ?_
      refine tn ?_
      refine F_seq ?_
      refine F_false rfl (decide_eq_false (by omega)) ?_
      refine F_exit ?_
      refine tx ?_
      refine tx ?_
      refine Go.Sl.bx rfl ?_
      refine tn ?_
      refine F_seq ?_
      refine F_region (p := ⟨_, [0], []⟩) rfl [0] rfl ?_
      refine O_assign rfl rfl rfl rfl rfl ?_
      refine R_nil ?_
      refine tn ?_
      refine F_ret ?_
      subst hxs
      replace hS : Sat w0 (sackP E_ii O_ii 81 sb ((expand es).foldl (fun s y => addE O_ii y s) es) room * R) w := Sat.drop (A := sl 3 1 (.slice ad (expand es).length c) (expand es).length ((expand es).map eI) * pt bx (.cells #[.pointer (some ⟨sb, 0, none⟩)] 24)) (hS.to (by ac_rfl))
      show endF _ _ _ _ _ _
      refine end0 trivial rfl rfl rfl hS ?_
      intro w hS
      exact .inr ⟨by omega, rfl, hS⟩
    · simp only [List.length_cons] at hl
      obtain ⟨eb, eo, had, hcell⟩ := el1 (m := pre.length) (u := eI x) (sl_rd hS) (by rw [hx]; simp)
      refine F_seq ?_
      refine F_region (p := ⟨_, [0], []⟩) rfl [0] rfl ?_
      refine O_cmp rfl rfl rfl rfl rfl rfl rfl ?_
      refine R_nil ?_
      refine tn ?_
      refine F_seq ?_
      refine F_true rfl (decide_eq_true (by omega)) ?_
      refine F_skip ?_
      refine tn ?_
      refine F_seq ?_
      refine F_block ?_
      refine F_seq ?_
      refine F_region (p := ⟨_, [0, 1, 0], []⟩) rfl [0, 1, 2] rfl ?_
      refine O_indexSlE (m := pre.length) rfl rfl rfl rfl Try.runUnderlying28 Try.sizeOf3 rfl had rfl rfl (by omega) ?_
      refine O_load rfl rfl rfl rfl rfl Try.isAgg3 hcell (by trivial) ?_
      refine O_assign rfl rfl rfl rfl rfl ?_
      refine R_nil ?_
      refine tn ?_
      refine F_region (p := ⟨_, [0, 0, 2], []⟩) rfl [0, 1, 2] rfl ?_
      refine O_move rfl rfl rfl rfl rfl ?_
      refine O_move rfl rfl rfl rfl rfl ?_
      refine O_call rfl rfl rfl rfl Try.call11 rfl (sAdd_ii x hS.b2) (fun _ _ hv => trivial) ?_
      rintro _ w (⟨_, hno, _⟩ | ⟨rfl, hyes, hS⟩)
      · exfalso; omega
      replace hS := hS.b2
      refine R_nil ?_
      refine bn ?_
      refine tn ?_
      refine F_region (p := ⟨_, [0, 0], []⟩) rfl [0, 1] rfl ?_
      refine O_addN rfl rfl rfl rfl rfl rfl (by omega) ?_
      refine O_move rfl rfl rfl rfl rfl ?_
      refine R_nil ?_
      refine tn ⟨rfl, rfl, (pre ++ [x], post), ⟨rfl, rfl, rfl, congrArg (fun z : Nat => some (Value.int .i64 z)) (show pre.length + 1 = (pre ++ [x]).length by simp), trivial⟩, ⟨by rw [hx]; simp, ?_⟩, Nat.lt_succ_self _⟩
      show Sat w0 (sl 3 1 (.slice ad xs.length c) xs.length (xs.map eI) * (sackP E_ii O_ii 81 sb ((pre ++ [x]).foldl (fun s y => addE O_ii y s) es) room * (pt bx (.cells #[.pointer (some ⟨sb, 0, none⟩)] 24) * R))) w
      rw [List.foldl_append]; exact hS
theorem sMerge_ii {w0 w : World} {R : HProp} {sb ob : Nat} {room room2 : Int} {es fs : List (Int × Int)} (hS : Sat w0 (sackP E_ii O_ii 81 sb es room * (sackP E_ii O_ii 81 ob fs room2 * R)) w) :
    Calls Try.prog 15 #[.pointer (some ⟨sb, 0, none⟩), .pointer (some ⟨ob, 0, none⟩)] w (ret fun u w' => (room - tot es < tot fs ∧ u = .int .i64 3 ∧ Sat w0 (sackP E_ii O_ii 81 sb es room * (sackP E_ii O_ii 81 ob fs room2 * R)) w') ∨ (tot fs ≤ room - tot es ∧ u = .int .i64 0 ∧ Sat w0 (sackP E_ii O_ii 81 sb ((expand fs).foldl (fun s y => addE O_ii y s) es) room * (sackP E_ii O_ii 81 ob fs room2 * R)) w')) := by
  obtain ⟨rb, hw, hs, ht, hr, hS⟩ := sackP_open hS
  have h0 := tot0 hw
  obtain ⟨rb2, hw2, hs2, ht2, hr2, hS⟩ := sackP_open (hS.to (B := sackP E_ii O_ii 81 ob fs room2 * (blks [(sb, .cells #[.pointer (some ⟨rb, 0, none⟩), .int .i64 room, .int .i64 (tot es)] 81 (0, 0))] * (rackP E_ii O_ii rb es * R))) (by ac_rfl))
  have h02 := tot0 hw2
  replace hS : Sat w0 (blks [(sb, .cells #[.pointer (some ⟨rb, 0, none⟩), .int .i64 room, .int .i64 (tot es)] 81 (0, 0)), (ob, .cells #[.pointer (some ⟨rb2, 0, none⟩), .int .i64 room2, .int .i64 (tot fs)] 81 (0, 0))] * (rackP E_ii O_ii rb2 fs * (rackP E_ii O_ii rb es * R))) w := hS.to (by simp only [blks]; ac_rfl)
  have hlen := len_expand hw2
  by_cases hfull : room - tot es < tot fs
  ·
    refine enterF (args := [_, _]) Try.func15 rfl Try.ntmps15 rfl rfl ?_
    refine F_seq ?_
    refine F_region (p := ⟨_, [0], []⟩) rfl [0] rfl ?_
    refine O_assign rfl rfl rfl rfl rfl ?_
    refine R_nil ?_
    refine tn ?_
    refine F_seq ?_
    refine F_seq ?_
    refine F_drawnS hS (by kernel_rfl) (p := ⟨_, [0, 0, 0, 1, 0, 2, 0], [(3, 5)]⟩) rfl (.ofList [0, 1, 2, 3, 4, 5, 6]) (by kernel_rfl) ?_
    intro w hS
    refine O_move rfl rfl rfl rfl rfl ?_
    refine O_nilCheck rfl rfl rfl rfl rfl ?_
    refine O_fieldAddr rfl rfl rfl rfl rfl Try.runUnderlying81 rfl Try.sizeOf3 ?_
    refine O_loadS hS rfl rfl rfl rfl rfl Try.isAgg3 (by first | exact .here rfl | exact .there (.here rfl) | exact .there (.there (.here rfl)) | exact .there (.there (.there (.here rfl))) | exact .there (.there (.there (.there (.here rfl)))) | exact .there (.there (.there (.there (.there (.here rfl))))) | exact .there (.there (.there (.there (.there (.there (.here rfl)))))) | exact .there (.there (.there (.there (.there (.there (.there (.here rfl))))))) | exact .there (.there (.there (.there (.there (.there (.there (.there (.here rfl))))))))) (by trivial) ?_
    refine O_move rfl rfl rfl rfl rfl ?_
    have hS_5 := hS
    refine O_call rfl rfl rfl rfl Try.call17 rfl (sRoom_ii (by omega) hS.pop) (fun _ _ hv => ⟨CellAt.cell (by first | exact .here rfl | exact .there (.here rfl) | exact .there (.there (.here rfl)) | exact .there (.there (.there (.here rfl))) | exact .there (.there (.there (.there (.here rfl)))) | exact .there (.there (.there (.there (.there (.here rfl))))) | exact .there (.there (.there (.there (.there (.there (.here rfl)))))) | exact .there (.there (.there (.there (.there (.there (.there (.here rfl))))))) | exact .there (.there (.there (.there (.there (.there (.there (.there (.here rfl))))))))) (hv.2.unpop), trivial⟩) ?_
    rintro _ w ⟨rfl, hS⟩
    replace hS := hS.unpop
    refine O_cmp rfl rfl rfl rfl rfl rfl rfl ?_
    refine R_nil ?_
    refine tn ?_
    refine F_true rfl (decide_eq_true (by omega)) ?_
    refine F_seq ?_
    refine F_region (p := ⟨_, [0], []⟩) rfl [0] rfl ?_
    refine O_assign rfl rfl rfl rfl rfl ?_
    refine R_nil ?_
    refine tn ?_
    refine F_ret ?_
    refine tr ?_
    replace hS := sackP_mk (E := E_ii) (O := O_ii) (st := 81) hw hs ht hr rfl (hS.to (B := blks [(sb, .cells #[.pointer (some ⟨rb, 0, none⟩), .int .i64 room, .int .i64 (tot es)] 81 (0, 0))] * (rackP E_ii O_ii rb es * (blks [(ob, .cells #[.pointer (some ⟨rb2, 0, none⟩), .int .i64 room2, .int .i64 (tot fs)] 81 (0, 0))] * (rackP E_ii O_ii rb2 fs * R)))) (by simp only [blks]; ac_rfl))
    replace hS := sackP_mk (E := E_ii) (O := O_ii) (st := 81) hw2 hs2 ht2 hr2 rfl (hS.to (B := blks [(ob, .cells #[.pointer (some ⟨rb2, 0, none⟩), .int .i64 room2, .int .i64 (tot fs)] 81 (0, 0))] * (rackP E_ii O_ii rb2 fs * (sackP E_ii O_ii 81 sb es room * R))) (by ac_rfl))
    show endF _ _ _ _ _ _
    refine end0 trivial rfl rfl rfl hS ?_
    intro w hS
    exact .inl ⟨hfull, rfl, hS.to (by ac_rfl)⟩
  ·
    refine enterF (args := [_, _]) Try.func15 rfl Try.ntmps15 rfl rfl ?_
    refine F_seq ?_
    refine F_region (p := ⟨_, [0], []⟩) rfl [0] rfl ?_
    refine O_assign rfl rfl rfl rfl rfl ?_
    refine R_nil ?_
    refine tn ?_
    refine F_seq ?_
    refine F_seq ?_
    refine F_drawnS hS (by kernel_rfl) (p := ⟨_, [0, 0, 0, 1, 0, 2, 0], [(3, 5)]⟩) rfl (.ofList [0, 1, 2, 3, 4, 5, 6]) (by kernel_rfl) ?_
    intro w hS
    refine O_move rfl rfl rfl rfl rfl ?_
    refine O_nilCheck rfl rfl rfl rfl rfl ?_
    refine O_fieldAddr rfl rfl rfl rfl rfl Try.runUnderlying81 rfl Try.sizeOf3 ?_
    refine O_loadS hS rfl rfl rfl rfl rfl Try.isAgg3 (by first | exact .here rfl | exact .there (.here rfl) | exact .there (.there (.here rfl)) | exact .there (.there (.there (.here rfl))) | exact .there (.there (.there (.there (.here rfl)))) | exact .there (.there (.there (.there (.there (.here rfl))))) | exact .there (.there (.there (.there (.there (.there (.here rfl)))))) | exact .there (.there (.there (.there (.there (.there (.there (.here rfl))))))) | exact .there (.there (.there (.there (.there (.there (.there (.there (.here rfl))))))))) (by trivial) ?_
    refine O_move rfl rfl rfl rfl rfl ?_
    have hS_5 := hS
    refine O_call rfl rfl rfl rfl Try.call17 rfl (sRoom_ii (by omega) hS.pop) (fun _ _ hv => ⟨CellAt.cell (by first | exact .here rfl | exact .there (.here rfl) | exact .there (.there (.here rfl)) | exact .there (.there (.there (.here rfl))) | exact .there (.there (.there (.there (.here rfl)))) | exact .there (.there (.there (.there (.there (.here rfl))))) | exact .there (.there (.there (.there (.there (.there (.here rfl)))))) | exact .there (.there (.there (.there (.there (.there (.there (.here rfl))))))) | exact .there (.there (.there (.there (.there (.there (.there (.there (.here rfl))))))))) (hv.2.unpop), trivial⟩) ?_
    rintro _ w ⟨rfl, hS⟩
    replace hS := hS.unpop
    refine O_cmp rfl rfl rfl rfl rfl rfl rfl ?_
    refine R_nil ?_
    refine tn ?_
    refine F_false rfl (decide_eq_false (by omega)) ?_
    refine F_skip ?_
    refine tn ?_
    refine F_seq ?_
    refine F_seq ?_
    refine F_region (p := ⟨_, [0, 2, 2, 0, 0], []⟩) rfl [0, 1, 2, 3, 4] rfl ?_
    refine O_move rfl rfl rfl rfl rfl ?_
    replace hS := sackP_mk (E := E_ii) (O := O_ii) (st := 81) hw hs ht hr rfl (hS.to (B := blks [(sb, .cells #[.pointer (some ⟨rb, 0, none⟩), .int .i64 room, .int .i64 (tot es)] 81 (0, 0))] * (rackP E_ii O_ii rb es * (blks [(ob, .cells #[.pointer (some ⟨rb2, 0, none⟩), .int .i64 room2, .int .i64 (tot fs)] 81 (0, 0))] * (rackP E_ii O_ii rb2 fs * R)))) (by simp only [blks]; ac_rfl))
    replace hS := sackP_mk (E := E_ii) (O := O_ii) (st := 81) hw2 hs2 ht2 hr2 rfl (hS.to (B := blks [(ob, .cells #[.pointer (some ⟨rb2, 0, none⟩), .int .i64 room2, .int .i64 (tot fs)] 81 (0, 0))] * (rackP E_ii O_ii rb2 fs * (sackP E_ii O_ii 81 sb es room * R))) (by ac_rfl))
    refine O_call rfl rfl rfl rfl Try.call20 rfl (sAll_ii ⟨_, rfl⟩ hS) (fun _ _ hv => trivial) ?_
    rintro _ w ⟨bx, rfl, hS⟩
    replace hS : Sat w0 ((pt bx (.cells #[.pointer (some ⟨ob, 0, none⟩)] 24) * sackP E_ii O_ii 81 ob fs room2) * (sackP E_ii O_ii 81 sb es room * R)) w := hS.to (by ac_rfl)
    refine O_call rfl rfl rfl rfl Try.call42 rfl (collect_i Try.call45 sall_ii_iter (by omega) hS) (fun _ _ hv => trivial) ?_
    rintro _ w hS
    obtain ⟨ad, c, rfl, hle, hcap, _⟩ := sl_form (hS.to (B := sl 3 1 _ ((expand fs)).length (((expand fs)).map eI) * ((pt bx (.cells #[.pointer (some ⟨ob, 0, none⟩)] 24) * sackP E_ii O_ii 81 ob fs room2) * (sackP E_ii O_ii 81 sb es room * R))) (by ac_rfl))
    generalize hxs : expand fs = xs at *
    replace hS : Sat w0 (sl 3 1 (.slice ad xs.length c) xs.length (xs.map eI) * (sackP E_ii O_ii 81 sb es room * (pt bx (.cells #[.pointer (some ⟨ob, 0, none⟩)] 24) * (sackP E_ii O_ii 81 ob fs room2 * R)))) w := hS.to (by ac_rfl)
    refine O_lenSl rfl rfl rfl rfl rfl Try.runUnderlying28 ?_
    refine O_move rfl rfl rfl rfl rfl ?_
    refine R_nil ?_
    refine tn ?_
    refine F_block ?_
    refine F_loop2 (fun (pre _ : List Int) => [(0, .pointer (some ⟨sb, 0, none⟩)), (16, .slice ad xs.length c), (17, .int .i64 (xs.length : Nat)), (18, .int .i64 (pre.length : Nat))]) (fun pre post w => xs = pre ++ post ∧ Sat w0 (sl 3 1 (.slice ad xs.length c) xs.length (xs.map eI) * (sackP E_ii O_ii 81 sb (pre.foldl (fun s y => addE O_ii y s) es) room * (pt bx (.cells #[.pointer (some ⟨ob, 0, none⟩)] 24) * (sackP E_ii O_ii 81 ob fs room2 * R)))) w) (fun _ post => post.length) [] xs ⟨rfl, rfl, rfl, rfl, trivial⟩ ⟨rfl, hS⟩ ?_
    clear hS
    rintro pre post w ⟨hx, hS⟩
    have hl : pre.length + post.length = xs.length := by rw [hx, List.length_append]
    obtain ⟨_, _, hft, _⟩ := foldAdd (l := pre) hw hs
    rcases post with _ | ⟨x, post⟩
    · simp only [List.length_nil, Nat.add_zero] at hl
      rw [List.append_nil] at hx
      subst hx
      refine F_seq ?_
      refine F_region (p := ⟨_, [0], []⟩) rfl [0] rfl ?_
      refine O_cmp rfl rfl rfl rfl rfl rfl rfl ?_
      refine R_nil ?_
      refine tn ?_
      refine F_seq ?_
      refine F_false rfl (decide_eq_false (by omega)) ?_
      refine F_exit ?_
      refine tx ?_
      refine tx ?_
      refine Go.Sl.bx rfl ?_
      refine tn ?_
      refine F_seq ?_
      refine F_region (p := ⟨_, [0], []⟩) rfl [0] rfl ?_
      refine O_assign rfl rfl rfl rfl rfl ?_
      refine R_nil ?_
      refine tn ?_
      refine F_ret ?_
      subst hxs
      replace hS : Sat w0 (sackP E_ii O_ii 81 sb ((expand fs).foldl (fun s y => addE O_ii y s) es) room * (sackP E_ii O_ii 81 ob fs room2 * R)) w := Sat.drop (A := sl 3 1 (.slice ad (expand fs).length c) (expand fs).length ((expand fs).map eI) * pt bx (.cells #[.pointer (some ⟨ob, 0, none⟩)] 24)) (hS.to (by ac_rfl))
      show endF _ _ _ _ _ _
      refine end0 trivial rfl rfl rfl hS ?_
      intro w hS
      exact .inr ⟨by omega, rfl, hS⟩
    · simp only [List.length_cons] at hl
      obtain ⟨eb, eo, had, hcell⟩ := el1 (m := pre.length) (u := eI x) (sl_rd hS) (by rw [hx]; simp)
      refine F_seq ?_
      refine F_region (p := ⟨_, [0], []⟩) rfl [0] rfl ?_
      refine O_cmp rfl rfl rfl rfl rfl rfl rfl ?_
      refine R_nil ?_
      refine tn ?_
      refine F_seq ?_
      refine F_true rfl (decide_eq_true (by omega)) ?_
      refine F_skip ?_
      refine tn ?_
      refine F_seq ?_
      refine F_block ?_
      refine F_seq ?_
      refine F_region (p := ⟨_, [0, 1, 0], []⟩) rfl [0, 1, 2] rfl ?_
      refine O_indexSlE (m := pre.length) rfl rfl rfl rfl Try.runUnderlying28 Try.sizeOf3 rfl had rfl rfl (by omega) ?_
      refine O_load rfl rfl rfl rfl rfl Try.isAgg3 hcell (by trivial) ?_
      refine O_assign rfl rfl rfl rfl rfl ?_
      refine R_nil ?_
      refine tn ?_
      refine F_region (p := ⟨_, [0, 0, 2], []⟩) rfl [0, 1, 2] rfl ?_
      refine O_move rfl rfl rfl rfl rfl ?_
      refine O_move rfl rfl rfl rfl rfl ?_
      refine O_call rfl rfl rfl rfl Try.call11 rfl (sAdd_ii x hS.b2) (fun _ _ hv => trivial) ?_
      rintro _ w (⟨_, hno, _⟩ | ⟨rfl, hyes, hS⟩)
      · exfalso; omega
      replace hS := hS.b2
      refine R_nil ?_
      refine bn ?_
      refine tn ?_
      refine F_region (p := ⟨_, [0, 0], []⟩) rfl [0, 1] rfl ?_
      refine O_addN rfl rfl rfl rfl rfl rfl (by omega) ?_
      refine O_move rfl rfl rfl rfl rfl ?_
      refine R_nil ?_
      refine tn ⟨rfl, rfl, (pre ++ [x], post), ⟨rfl, rfl, rfl, congrArg (fun z : Nat => some (Value.int .i64 z)) (show pre.length + 1 = (pre ++ [x]).length by simp), trivial⟩, ⟨by rw [hx]; simp, ?_⟩, Nat.lt_succ_self _⟩
      show Sat w0 (sl 3 1 (.slice ad xs.length c) xs.length (xs.map eI) * (sackP E_ii O_ii 81 sb ((pre ++ [x]).foldl (fun s y => addE O_ii y s) es) room * (pt bx (.cells #[.pointer (some ⟨ob, 0, none⟩)] 24) * (sackP E_ii O_ii 81 ob fs room2 * R)))) w
      rw [List.foldl_append]; exact hS
end Go.Proofs.Ytpnigaoibhogfaa
