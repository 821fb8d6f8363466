/- YtpnigaoibhogfaaDoorV2s: a part of the proof: walks over the translated code, and plain facts on lists beside. -/
import Derived.Test.YtpnigaoibhogfaaDoorV1s
import Derived.Test.YtpnigaoibhogfaaDoorSlSack
set_option linter.all false
namespace Go.Proofs.YtpnigaoibhogfaaDoor
open Go Go.RowKit Go.Sl
set_option linter.unusedVariables false
theorem sNew_bad_si {w0 w : World} {R : HProp} {room : Int} (hr : room < 0 ∨ 1000 < room) (hS : Sat w0 R w) : Calls Tryd.prog 23 #[.int .i64 room] w (ret fun u w' => u = .tuple #[.pointer none, .int .i64 1] ∧ Sat w0 R w') := by
  by_cases h1 : room < 0
  ·
    refine enterF (args := [_]) Tryd.func23 rfl Tryd.ntmps23 rfl rfl ?_
    refine F_seq ?_
    refine F_region (p := ⟨_, [0, 0], []⟩) rfl [0, 1] rfl ?_
    refine O_assign rfl rfl rfl rfl rfl ?_
    refine O_assign rfl rfl rfl rfl rfl ?_
    refine R_nil ?_
    refine tn ?_
    refine F_seq ?_
    refine F_seq ?_
    refine F_region (p := ⟨_, [0, 0, 0, 0, 0, 0], []⟩) rfl [0, 1, 2, 3, 4, 5] rfl ?_
    refine O_move rfl rfl rfl rfl rfl ?_
    refine O_cmp rfl rfl rfl rfl rfl rfl rfl ?_
    refine O_move rfl rfl rfl rfl rfl ?_
    refine R_caseT (t := 6) rfl (decide_eq_true (by omega)) ?_
    refine R_skip rfl rfl rfl rfl ?_
    refine R_skip rfl rfl rfl rfl ?_
    refine O_pickT rfl rfl rfl rfl rfl rfl ?_
    refine R_nil ?_
    refine tn ?_
    refine F_true rfl rfl ?_
    refine F_seq ?_
    refine F_region (p := ⟨_, [0, 0], []⟩) rfl [0, 1] rfl ?_
    refine O_assign rfl rfl rfl rfl rfl ?_
    refine O_assign rfl rfl rfl rfl rfl ?_
    refine R_nil ?_
    refine tn ?_
    refine F_ret ?_
    refine tr ?_
    show endF _ _ _ _ _ _
    refine end0 trivial rfl rfl rfl hS ?_
    intro w hS
    exact ⟨rfl, hS⟩
  ·
    refine enterF (args := [_]) Tryd.func23 rfl Tryd.ntmps23 rfl rfl ?_
    refine F_seq ?_
    refine F_region (p := ⟨_, [0, 0], []⟩) rfl [0, 1] rfl ?_
    refine O_assign rfl rfl rfl rfl rfl ?_
    refine O_assign rfl rfl rfl rfl rfl ?_
    refine R_nil ?_
    refine tn ?_
    refine F_seq ?_
    refine F_seq ?_
    refine F_region (p := ⟨_, [0, 0, 0, 0, 0, 0], []⟩) rfl [0, 1, 2, 3, 4, 5] rfl ?_
    refine O_move rfl rfl rfl rfl rfl ?_
    refine O_cmp rfl rfl rfl rfl rfl rfl rfl ?_
    refine O_move rfl rfl rfl rfl rfl ?_
    refine R_caseF (t := 6) rfl (decide_eq_false (by omega)) ?_
    refine O_move rfl rfl rfl rfl rfl ?_
    refine O_cmp rfl rfl rfl rfl rfl rfl rfl ?_
    refine O_pickF rfl rfl rfl rfl rfl rfl ?_
    refine R_nil ?_
    refine tn ?_
    refine F_true rfl (decide_eq_true (by omega)) ?_
    refine F_seq ?_
    refine F_region (p := ⟨_, [0, 0], []⟩) rfl [0, 1] rfl ?_
    refine O_assign rfl rfl rfl rfl rfl ?_
    refine O_assign rfl rfl rfl rfl rfl ?_
    refine R_nil ?_
    refine tn ?_
    refine F_ret ?_
    refine tr ?_
    show endF _ _ _ _ _ _
    refine end0 trivial rfl rfl rfl hS ?_
    intro w hS
    exact ⟨rfl, hS⟩
theorem sNew_si {w0 w : World} {R : HProp} {room : Int} (h1 : 0 ≤ room) (h2 : room ≤ 1000) (hS : Sat w0 R w) : Calls Tryd.prog 23 #[.int .i64 room] w (ret fun u w' => ∃ sb, u = .tuple #[.pointer (some ⟨sb, 0, none⟩), .int .i64 0] ∧ Sat w0 (sackP E_si O_si 114 sb [] room * R) w') := by
  refine enterF (args := [_]) Tryd.func23 rfl Tryd.ntmps23 rfl rfl ?_
  refine F_seq ?_
  refine F_region (p := ⟨_, [0, 0], []⟩) rfl [0, 1] rfl ?_
  refine O_assign rfl rfl rfl rfl rfl ?_
  refine O_assign rfl rfl rfl rfl rfl ?_
  refine R_nil ?_
  refine tn ?_
  refine F_seq ?_
  refine F_seq ?_
  refine F_region (p := ⟨_, [0, 0, 0, 0, 0, 0], []⟩) rfl [0, 1, 2, 3, 4, 5] rfl ?_
  refine O_move rfl rfl rfl rfl rfl ?_
  refine O_cmp rfl rfl rfl rfl rfl rfl rfl ?_
  refine O_move rfl rfl rfl rfl rfl ?_
  refine R_caseF (t := 6) rfl (decide_eq_false (by omega)) ?_
  refine O_move rfl rfl rfl rfl rfl ?_
  refine O_cmp rfl rfl rfl rfl rfl rfl rfl ?_
  refine O_pickF rfl rfl rfl rfl rfl rfl ?_
  refine R_nil ?_
  refine tn ?_
  refine F_false rfl (decide_eq_false (by omega)) ?_
  refine F_skip ?_
  refine tn ?_
  refine F_seq ?_
  refine F_region (p := ⟨_, [2, 0, 0, 2, 0, 0], []⟩) rfl [0, 1, 2, 3, 4, 5] rfl ?_
  refine O_call rfl rfl rfl rfl Tryd.call52 rfl (New_si hS) (fun _ _ hv => trivial) ?_
  rintro _ w ⟨rb, rfl, hS⟩
  replace hS := hS.noblks
  refine O_move rfl rfl rfl rfl rfl ?_
  refine O_build rfl rfl rfl rfl rfl (run_buildS [_, _, _] Tryd.zeroValue114 Tryd.runUnderlying114 (fun _ => 1) ⟨Tryd.sizeOf110, Tryd.sizeOf3, Tryd.sizeOf3, trivial⟩ rfl) ?_
  refine O_boxS hS rfl rfl rfl rfl rfl (fun _ _ hv => trivial) ?_
  intro b1 w hS
  refine O_assign rfl rfl rfl rfl rfl ?_
  refine O_assign rfl rfl rfl rfl rfl ?_
  refine R_nil ?_
  refine tn ?_
  refine F_ret ?_
  show endF _ _ _ _ _ _
  refine end0 trivial rfl rfl rfl hS ?_
  intro w hS
  refine ⟨_, rfl, sackP_mk (rb := rb) (m := 0) (by intro x hx; cases hx) (by simp [Srt]) (by simp [tot]; omega) h2 rfl ?_⟩
  exact hS.to (by simp only [blks]; ac_rfl)
theorem sRoom_si {w0 w : World} {R : HProp} {sb : Nat} {x0 : Value} {room m : Int} (h1 : 0 ≤ m ∧ m ≤ room ∧ room ≤ 1000) (hS : Sat w0 (blks [(sb, .cells #[x0, .int .i64 room, .int .i64 m] 114 (0, 0))] * R) w) : Calls Tryd.prog 40 #[.pointer (some ⟨sb, 0, none⟩)] w (ret fun u w' => u = .int .i64 (room - m) ∧ Sat w0 (blks [(sb, .cells #[x0, .int .i64 room, .int .i64 m] 114 (0, 0))] * R) w') := by
  refine enterF (args := [_]) Tryd.func40 rfl Tryd.ntmps40 rfl rfl ?_
  refine F_seq ?_
  refine F_region (p := ⟨_, [0], []⟩) rfl [0] rfl ?_
  refine O_assign rfl rfl rfl rfl rfl ?_
  refine R_nil ?_
  refine tn ?_
  refine F_seq ?_
  refine F_drawnS hS (by kernel_rfl) (p := ⟨_, [0, 0, 0, 1, 0, 0, 0, 1, 0, 0], []⟩) rfl (.ofList [0, 1, 2, 3, 4, 5, 6, 7, 8, 9]) (by kernel_rfl) ?_
  intro w hS
  refine O_move rfl rfl rfl rfl rfl ?_
  refine O_nilCheck rfl rfl rfl rfl rfl ?_
  refine O_fieldAddr rfl rfl rfl rfl rfl Tryd.runUnderlying114 rfl Tryd.sizeOf3 ?_
  refine O_loadS hS rfl rfl rfl rfl rfl Tryd.isAgg3 (by repeat (first | exact .here rfl | apply CellAt.there)) (by trivial) ?_
  refine O_move rfl rfl rfl rfl rfl ?_
  refine O_nilCheck rfl rfl rfl rfl rfl ?_
  refine O_fieldAddr rfl rfl rfl rfl rfl Tryd.runUnderlying114 rfl Tryd.sizeOf3 ?_
  refine O_loadS hS rfl rfl rfl rfl rfl Tryd.isAgg3 (by repeat (first | exact .here rfl | apply CellAt.there)) (by trivial) ?_
  refine O_subN rfl rfl rfl rfl rfl rfl (by first | omega | (dsimp only; omega)) ?_
  refine O_assign rfl rfl rfl rfl rfl ?_
  refine R_nil ?_
  refine tn ?_
  refine F_ret ?_
  show endF _ _ _ _ _ _
  refine end0 trivial rfl rfl rfl hS ?_
  intro w hS
  exact ⟨rfl, hS⟩
theorem sLen_si {w0 w : World} {R : HProp} {sb : Nat} {x0 : Value} {room m : Int} (hS : Sat w0 (blks [(sb, .cells #[x0, .int .i64 room, .int .i64 m] 114 (0, 0))] * R) w) : Calls Tryd.prog 28 #[.pointer (some ⟨sb, 0, none⟩)] w (ret fun u w' => u = .int .i64 m ∧ Sat w0 (blks [(sb, .cells #[x0, .int .i64 room, .int .i64 m] 114 (0, 0))] * R) w') := by
  refine enterF (args := [_]) Tryd.func28 rfl Tryd.ntmps28 rfl rfl ?_
  refine F_seq ?_
  refine F_region (p := ⟨_, [0], []⟩) rfl [0] rfl ?_
  refine O_assign rfl rfl rfl rfl rfl ?_
  refine R_nil ?_
  refine tn ?_
  refine F_seq ?_
  refine F_region (p := ⟨_, [0, 0, 0, 1, 0], []⟩) rfl [0, 1, 2, 3, 4] rfl ?_
  refine O_move rfl rfl rfl rfl rfl ?_
  refine O_nilCheck rfl rfl rfl rfl rfl ?_
  refine O_fieldAddr rfl rfl rfl rfl rfl Tryd.runUnderlying114 rfl Tryd.sizeOf3 ?_
  refine O_loadS hS rfl rfl rfl rfl rfl Tryd.isAgg3 (by repeat (first | exact .here rfl | apply CellAt.there)) (by trivial) ?_
  refine O_assign rfl rfl rfl rfl rfl ?_
  refine R_nil ?_
  refine tn ?_
  refine F_ret ?_
  show endF _ _ _ _ _ _
  refine end0 trivial rfl rfl rfl hS ?_
  intro w hS
  exact ⟨rfl, hS⟩
theorem sMany_si {w0 w : World} {R : HProp} {sb rb : Nat} {room m : Int} {es : List (ByteArray × Int)} (k : ByteArray) (hS : Sat w0 (blks [(sb, .cells #[.pointer (some ⟨rb, 0, none⟩), .int .i64 room, .int .i64 (m)] 114 (0, 0))] * (rackP E_si O_si rb es * R)) w) :
    Calls Tryd.prog 39 #[.pointer (some ⟨sb, 0, none⟩), E_si.k k] w (ret fun u w' => u = .int .i64 (cnt O_si k es) ∧ Sat w0 (blks [(sb, .cells #[.pointer (some ⟨rb, 0, none⟩), .int .i64 room, .int .i64 (m)] 114 (0, 0))] * (rackP E_si O_si rb es * R)) w') := by
  have hg : ∃ n b, getV E_si (.int .i64 0) (get O_si k es) = .tuple #[.int .i64 n, .bool b] ∧ n = cnt O_si k es := by
    unfold cnt; cases get O_si k es with
    | none => exact ⟨0, false, rfl, rfl⟩
    | some n => exact ⟨n, true, rfl, rfl⟩
  obtain ⟨n, b, hg, hn⟩ := hg
  refine enterF (args := [_, _]) Tryd.func39 rfl Tryd.ntmps39 rfl rfl ?_
  refine F_seq ?_
  refine F_region (p := ⟨_, [0], []⟩) rfl [0] rfl ?_
  refine O_assign rfl rfl rfl rfl rfl ?_
  refine R_nil ?_
  refine tn ?_
  refine F_seq ?_
  refine F_region (p := ⟨_, [0, 0, 0, 1, 0, 2, 0, 0, 0, 0, 0], []⟩) rfl [0, 1, 2, 3, 4, 5, 6, 7, 8, 9, 10] rfl ?_
  refine O_move rfl rfl rfl rfl rfl ?_
  refine O_nilCheck rfl rfl rfl rfl rfl ?_
  refine O_fieldAddr rfl rfl rfl rfl rfl Tryd.runUnderlying114 rfl Tryd.sizeOf110 ?_
  refine O_loadS hS rfl rfl rfl rfl rfl Tryd.isAgg110 (by repeat (first | exact .here rfl | apply CellAt.there)) (by trivial) ?_
  refine O_move rfl rfl rfl rfl rfl ?_
  refine O_call rfl rfl rfl rfl Tryd.call64 rfl (Get_si k hS.b2) (fun _ _ hv => trivial) ?_
  rintro _ w ⟨rfl, hS⟩
  replace hS := hS.b2
  rw [hg]
  refine O_move rfl rfl rfl rfl rfl ?_
  refine O_extract rfl rfl rfl rfl rfl rfl ?_
  refine O_extract rfl rfl rfl rfl rfl rfl ?_
  refine O_assign rfl rfl rfl rfl rfl ?_
  refine O_assign rfl rfl rfl rfl rfl ?_
  refine R_nil ?_
  refine tn ?_
  refine F_seq ?_
  refine F_region (p := ⟨_, [0, 0], []⟩) rfl [0, 1] rfl ?_
  refine O_move rfl rfl rfl rfl rfl ?_
  refine O_assign rfl rfl rfl rfl rfl ?_
  refine R_nil ?_
  refine tn ?_
  refine F_ret ?_
  show endF _ _ _ _ _ _
  refine end0 trivial rfl rfl rfl hS ?_
  intro w hS
  exact ⟨by rw [← hn]; rfl, hS⟩
theorem sAdd_si {w0 w : World} {R : HProp} {sb : Nat} {room : Int} {es : List (ByteArray × Int)} (k : ByteArray) (hS : Sat w0 (sackP E_si O_si 114 sb es room * R) w) :
    Calls Tryd.prog 55 #[.pointer (some ⟨sb, 0, none⟩), E_si.k k] w (ret fun u w' => (u = .int .i64 3 ∧ room ≤ tot es ∧ Sat w0 (sackP E_si O_si 114 sb es room * R) w') ∨ (u = .int .i64 0 ∧ tot es < room ∧ Sat w0 (sackP E_si O_si 114 sb (addE O_si k es) room * R) w')) := by
  obtain ⟨rb, hw, hs, ht, hr, hS⟩ := sackP_open hS
  have h0 := tot0 hw
  have hc := cnt_bd (O := O_si) (k := k) hw
  by_cases hfull : room - tot es < 1
  ·
    refine enterF (args := [_, _]) Tryd.func55 rfl Tryd.ntmps55 rfl rfl ?_
    refine F_seq ?_
    refine F_region (p := ⟨_, [0], []⟩) rfl [0] rfl ?_
    refine O_assign rfl rfl rfl rfl rfl ?_
    refine R_nil ?_
    refine tn ?_
    refine F_seq ?_
    refine F_seq ?_
    refine F_region (p := ⟨_, [0, 2, 0], []⟩) rfl [0, 1, 2] rfl ?_
    refine O_move rfl rfl rfl rfl rfl ?_
    refine O_call rfl rfl rfl rfl Tryd.call40 rfl (sRoom_si (by omega) hS) (fun _ _ hv => trivial) ?_
    rintro _ w ⟨rfl, hS⟩
    refine O_cmp rfl rfl rfl rfl rfl rfl rfl ?_
    refine R_nil ?_
    refine tn ?_
    refine F_true rfl (decide_eq_true (by omega)) ?_
    refine F_seq ?_
    refine F_region (p := ⟨_, [0], []⟩) rfl [0] rfl ?_
    refine O_assign rfl rfl rfl rfl rfl ?_
    refine R_nil ?_
    refine tn ?_
    refine F_ret ?_
    refine tr ?_
    show endF _ _ _ _ _ _
    refine end0 trivial rfl rfl rfl hS ?_
    intro w hS
    exact .inl ⟨rfl, by omega, sackP_mk hw hs ht hr rfl hS⟩
  ·
    refine enterF (args := [_, _]) Tryd.func55 rfl Tryd.ntmps55 rfl rfl ?_
    refine F_seq ?_
    refine F_region (p := ⟨_, [0], []⟩) rfl [0] rfl ?_
    refine O_assign rfl rfl rfl rfl rfl ?_
    refine R_nil ?_
    refine tn ?_
    refine F_seq ?_
    refine F_seq ?_
    refine F_region (p := ⟨_, [0, 2, 0], []⟩) rfl [0, 1, 2] rfl ?_
    refine O_move rfl rfl rfl rfl rfl ?_
    refine O_call rfl rfl rfl rfl Tryd.call40 rfl (sRoom_si (by omega) hS) (fun _ _ hv => trivial) ?_
    rintro _ w ⟨rfl, hS⟩
    refine O_cmp rfl rfl rfl rfl rfl rfl rfl ?_
    refine R_nil ?_
    refine tn ?_
    refine F_false rfl (decide_eq_false (by omega)) ?_
    refine F_skip ?_
    refine tn ?_
    refine F_seq ?_
    refine F_drawnS hS (by kernel_rfl) (p := ⟨_, [0, 0, 0, 1, 0, 0, 0, 2, 0, 2], [(3, 7)]⟩) rfl (.ofList [0, 1, 2, 3, 4, 5, 6, 7, 8, 9]) (by kernel_rfl) ?_
    intro w hS
    refine O_move rfl rfl rfl rfl rfl ?_
    refine O_nilCheck rfl rfl rfl rfl rfl ?_
    refine O_fieldAddr rfl rfl rfl rfl rfl Tryd.runUnderlying114 rfl Tryd.sizeOf110 ?_
    refine O_loadS hS rfl rfl rfl rfl rfl Tryd.isAgg110 (by repeat (first | exact .here rfl | apply CellAt.there)) (by trivial) ?_
    refine O_move rfl rfl rfl rfl rfl ?_
    refine O_move rfl rfl rfl rfl rfl ?_
    refine O_move rfl rfl rfl rfl rfl ?_
    have hS_7 := hS
    refine O_call rfl rfl rfl rfl Tryd.call39 rfl (sMany_si k hS) (fun _ _ hv => ⟨CellAt.cell (by repeat (first | exact .here rfl | apply CellAt.there)) (hv.2), trivial⟩) ?_
    rintro _ w ⟨rfl, hS⟩
    refine O_addN rfl rfl rfl rfl rfl rfl (by first | omega | (dsimp only; omega)) ?_
    refine O_call rfl rfl rfl rfl Tryd.call75 rfl (Put_si k (cnt O_si k es + 1) (len_le hw ht hr) hS.b2) (fun _ _ hv => ⟨trivial, trivial⟩) ?_
    rintro _ w ⟨rfl, hS⟩
    replace hS := hS.b2
    refine R_nil ?_
    refine tn ?_
    refine F_seq ?_
    refine F_region (p := ⟨_, [0, 0, 0, 1, 0, 0, 0, 2], []⟩) rfl [0, 1, 2, 3, 4, 5, 6, 7] rfl ?_
    refine O_move rfl rfl rfl rfl rfl ?_
    refine O_nilCheck rfl rfl rfl rfl rfl ?_
    refine O_fieldAddr rfl rfl rfl rfl rfl Tryd.runUnderlying114 rfl Tryd.sizeOf3 ?_
    refine O_loadS hS rfl rfl rfl rfl rfl Tryd.isAgg3 (by repeat (first | exact .here rfl | apply CellAt.there)) (by trivial) ?_
    refine O_addN rfl rfl rfl rfl rfl rfl (by first | omega | (dsimp only; omega)) ?_
    refine O_nilCheck rfl rfl rfl rfl rfl ?_
    refine O_fieldAddr rfl rfl rfl rfl rfl Tryd.runUnderlying114 rfl Tryd.sizeOf3 ?_
    refine O_storeS hS rfl rfl rfl rfl rfl rfl rfl Tryd.sizeOf3 (by repeat (first | exact .here rfl rfl | apply SetAt.there)) (fun w' hv => trivial) ?_
    intro w hS
    refine R_nil ?_
    refine tn ?_
    refine F_seq ?_
    refine F_region (p := ⟨_, [0], []⟩) rfl [0] rfl ?_
    refine O_assign rfl rfl rfl rfl rfl ?_
    refine R_nil ?_
    refine tn ?_
    refine F_ret ?_
    show endF _ _ _ _ _ _
    refine end0 trivial rfl rfl rfl hS ?_
    intro w hS
    exact .inr ⟨rfl, by omega, sackP_mk (addE_wf hw) (addE_srt hs) (by rw [addE_tot]; omega) hr (by rw [addE_tot]) hS⟩
theorem sRuns_si {w0 w : World} {R : HProp} {sb rb : Nat} {x1 x2 : Value} (hS : Sat w0 (blks [(sb, .cells #[.pointer (some ⟨rb, 0, none⟩), x1, x2] 114 (0, 0))] * R) w) : Calls Tryd.prog 71 #[.pointer (some ⟨sb, 0, none⟩)] w (ret fun u w' => ∃ bx, u = .func (.func 88) #[] #[.pointer (some ⟨bx, 0, none⟩)] ∧ Sat w0 (blks [(sb, .cells #[.pointer (some ⟨rb, 0, none⟩), x1, x2] 114 (0, 0))] * (pt bx (.cells #[.pointer (some ⟨rb, 0, none⟩)] 110) * R)) w') := by
  refine enterF (args := [_]) Tryd.func71 rfl Tryd.ntmps71 rfl rfl ?_
  refine F_seq ?_
  refine F_region (p := ⟨_, [0], []⟩) rfl [0] rfl ?_
  refine O_assign rfl rfl rfl rfl rfl ?_
  refine R_nil ?_
  refine tn ?_
  refine F_seq ?_
  refine F_region (p := ⟨_, [0, 0, 0, 1, 2, 0], []⟩) rfl [0, 1, 2, 3, 4, 5] rfl ?_
  refine O_move rfl rfl rfl rfl rfl ?_
  refine O_nilCheck rfl rfl rfl rfl rfl ?_
  refine O_fieldAddr rfl rfl rfl rfl rfl Tryd.runUnderlying114 rfl Tryd.sizeOf110 ?_
  refine O_loadS hS rfl rfl rfl rfl rfl Tryd.isAgg110 (by repeat (first | exact .here rfl | apply CellAt.there)) (by trivial) ?_
  refine O_call rfl rfl rfl rfl Tryd.call81 rfl (All_si ⟨_, rfl⟩ hS) (fun _ _ hv => trivial) ?_
  rintro _ w ⟨bx, rfl, hS⟩
  refine O_assign rfl rfl rfl rfl rfl ?_
  refine R_nil ?_
  refine tn ?_
  refine F_ret ?_
  show endF _ _ _ _ _ _
  refine end0 trivial rfl rfl rfl hS ?_
  intro w hS
  exact ⟨_, rfl, hS.b2⟩
theorem sAll_si {w0 w : World} {R : HProp} {a : Value} (ha : ∃ sb, a = .pointer (some ⟨sb, 0, none⟩)) (hS : Sat w0 R w) : Calls Tryd.prog 45 #[a] w (ret fun u w' => ∃ bx, u = .func (.func 70) #[] #[.pointer (some ⟨bx, 0, none⟩)] ∧ Sat w0 (pt bx (.cells #[a] 66) * R) w') := by
  obtain ⟨sb, rfl⟩ := ha
  replace hS := hS.noblks
  refine enterF (args := [_]) Tryd.func45 rfl Tryd.ntmps45 rfl rfl ?_
  refine F_seq ?_
  refine F_region (p := ⟨_, [2, 0], []⟩) rfl [0, 1] rfl ?_
  refine O_boxS hS rfl rfl rfl rfl rfl (fun _ _ hv => trivial) ?_
  intro b1 w hS
  refine O_assign rfl rfl rfl rfl rfl ?_
  refine R_nil ?_
  refine tn ?_
  refine F_seq ?_
  refine F_region (p := ⟨_, [0, 0], []⟩) rfl [0, 1] rfl ?_
  refine O_makeFunc rfl rfl rfl rfl rfl rfl ?_
  refine O_assign rfl rfl rfl rfl rfl ?_
  refine R_nil ?_
  refine tn ?_
  refine F_ret ?_
  show endF _ _ _ _ _ _
  refine end0 trivial rfl rfl rfl hS ?_
  intro w hS
  exact ⟨_, rfl, hS.to (by simp only [blks]; ac_rfl)⟩
set_option maxHeartbeats 2000000 in
theorem sall_si_iter {sb bx : Nat} {es : List (ByteArray × Int)} {room : Int} : Iter Tryd.prog (.func (.func 70) #[] #[.pointer (some ⟨bx, 0, none⟩)]) (pt bx (.cells #[.pointer (some ⟨sb, 0, none⟩)] 66) * sackP E_si O_si 114 sb es room) (fun x => [E_si.k x].toArray) (expand es) := by
  intro w0 y J Jx hyf hy R w hS
  obtain ⟨yn, ya, yc, rfl⟩ := hyf
  refine FV.of_list (args := [.func yn ya yc]) (cap := [.pointer (some ⟨bx, 0, none⟩)]) Tryd.call70 ?_
  replace hS : Sat w0 (sackP E_si O_si 114 sb es room * (pt bx (.cells #[.pointer (some ⟨sb, 0, none⟩)] 66) * (J [] * R))) w := hS.to (by ac_rfl)
  obtain ⟨rb, hw, hs, ht, hr, hS⟩ := sackP_open hS
  have h0 := tot0 hw
  replace hS : Sat w0 (blks [(bx, .cells #[.pointer (some ⟨sb, 0, none⟩)] 66 (0, 0)), (sb, .cells #[.pointer (some ⟨rb, 0, none⟩), .int .i64 room, .int .i64 (tot es)] 114 (0, 0))] * (rackP E_si O_si rb es * (J [] * R))) w := hS.to (by simp only [blks]; ac_rfl)
  refine enterF (args := [_, _]) Tryd.func70 rfl Tryd.ntmps70 rfl rfl ?_
  refine F_seq ?_
  refine F_region (p := ⟨_, [2], []⟩) rfl [0] rfl ?_
  refine O_boxS hS rfl rfl rfl rfl rfl (fun _ _ hv => trivial) ?_
  intro b1 w hS
  refine R_nil ?_
  refine tn ?_
  refine F_seq ?_
  refine F_region (p := ⟨_, [1, 2], []⟩) rfl [0, 1] rfl ?_
  refine O_loadS hS rfl rfl rfl rfl rfl Tryd.isAgg66 (by repeat (first | exact .here rfl | apply CellAt.there)) (by trivial) ?_
  replace hS : Sat w0 (blks [(sb, .cells #[.pointer (some ⟨rb, 0, none⟩), .int .i64 room, .int .i64 (tot es)] 114 (0, 0))] * (blks [(b1, .cells #[.func yn ya yc] 123 (0, 0)), (bx, .cells #[.pointer (some ⟨sb, 0, none⟩)] 66 (0, 0))] * (rackP E_si O_si rb es * (J [] * R)))) w := hS.to (by simp only [blks]; ac_rfl)
  refine O_call rfl rfl rfl rfl Tryd.call71 rfl (sRuns_si hS) (fun _ _ hv => trivial) ?_
  rintro _ w ⟨b2, rfl, hS⟩
  refine R_nil ?_
  refine tn ?_
  refine F_block ?_
  refine F_range (α := ByteArray × Int) (It := (pt b2 (.cells #[.pointer (some ⟨rb, 0, none⟩)] 110) * rackP E_si O_si rb es)) (gf := 88) (first := #[]) (lb := #[.pointer (some ⟨b2, 0, none⟩)]) rfl Tryd.call88 (fun x => [E_si.k x.1, E_si.v x.2]) (all_si_iter (rb := rb) (bx := b2) (xs := es)) [7, 8] rfl (fun _ => rfl) rfl (fun pre => blks [(b1, .cells #[.func yn ya yc] 123 (0, 0))] * J (expand pre)) (fun c pre => hex fun q => pur (c = .ret ∧ q <+: expand es) * (blks [(b1, .cells #[.func yn ya yc] 123 (0, 0))] * Jx q)) (R0 := (blks [(bx, .cells #[.pointer (some ⟨sb, 0, none⟩)] 66 (0, 0)), (sb, .cells #[.pointer (some ⟨rb, 0, none⟩), .int .i64 room, .int .i64 (tot es)] 114 (0, 0))] * R)) (w0 := w0) ?_ ?_ ?_ ?_
  · exact hS.to (by simp only [blks, expand]; ac_rfl)
  · clear hS
    intro l pre x post R w hx hS
    obtain ⟨k, n⟩ := x
    have hn : 1 ≤ n := hw (k, n) (by rw [hx]; simp)
    have hn2 : n ≤ 1000 := by have := tot_mem hw (x := (k, n)) (by rw [hx]; simp); simp only at this; omega
    refine F_seq ?_
    refine F_region (p := ⟨_, [0], []⟩) rfl [0] rfl ?_
    refine O_assign rfl rfl rfl rfl rfl ?_
    refine R_nil ?_
    refine tn ?_
    refine F_region (p := ⟨_, [0], []⟩) rfl [0] rfl ?_
    refine O_assign rfl rfl rfl rfl rfl ?_
    refine R_nil ?_
    refine tn ⟨_, hS, ?_⟩
    clear hS
    intro R w hS
    replace hS : Sat w0 (blks [(b1, .cells #[.func yn ya yc] 123 (0, 0))] * (J (expand pre) * R)) w := hS.to (by ac_rfl)
    refine F_block ?_
    refine F_seq ?_
    refine F_region (p := ⟨_, [0, 0], []⟩) rfl [0, 1] rfl ?_
    refine O_move rfl rfl rfl rfl rfl ?_
    refine O_move rfl rfl rfl rfl rfl ?_
    refine R_nil ?_
    refine tn ?_
    refine F_block ?_
    refine F_loop (α := Nat) (fun j => [(2, .pointer (some ⟨b1, 0, none⟩)), (3, E_si.k k), (4, .int .i64 n), (9, .int .i64 n), (10, .int .i64 (j : Int))]) (fun j w => (j : Int) ≤ n ∧ Sat w0 (blks [(b1, .cells #[.func yn ya yc] 123 (0, 0))] * (J (expand pre ++ List.replicate j k) * R)) w) (fun j => n.toNat - j) 0 ⟨rfl, rfl, rfl, rfl, rfl, trivial⟩ ⟨by omega, by simpa using hS⟩ ?_
    clear hS
    rintro j w ⟨hjn, hS⟩
    have hpre : expand pre ++ List.replicate j k ++ [k] <+: expand es ∨ (j : Int) = n := by
      rcases Int.lt_or_le j n with h | h
      · obtain ⟨q, hq⟩ := expand_at (pre := pre) (post := post) (k := k) h; exact .inl ⟨q, by rw [hx, hq]; simp⟩
      · exact .inr (by omega)
    by_cases hlt : (j : Int) < n
    · replace hpre := hpre.resolve_right (by omega)
      obtain ⟨q, hq⟩ := expand_at (pre := pre) (post := post) (k := k) hlt
      refine F_seq ?_
      refine F_region (p := ⟨_, [0], []⟩) rfl [0] rfl ?_
      refine O_cmp rfl rfl rfl rfl rfl rfl rfl ?_
      refine R_nil ?_
      refine tn ?_
      refine F_seq ?_
      refine F_true rfl (decide_eq_true (by omega)) ?_
      refine F_skip ?_
      refine tn ?_
      refine F_seq ?_
      refine F_block ?_
      refine F_seq ?_
      refine F_region (p := ⟨_, [1, 0, 2, 0], []⟩) rfl [0, 1, 2, 3] rfl ?_
      refine O_loadS hS rfl rfl rfl rfl rfl Tryd.isAgg123 (by repeat (first | exact .here rfl | apply CellAt.there)) (by trivial) ?_
      refine O_move rfl rfl rfl rfl rfl ?_
      have hQ : Sat w0 (J (expand pre ++ List.replicate j k) * (blks [(b1, .cells #[.func yn ya yc] 123 (0, 0))] * R)) w := hS.b2
      refine O_callv rfl rfl rfl rfl rfl rfl (hy _ k (q) _ _ (by rw [hx, hq]) hQ) (fun _ _ hv => trivial) ?_
      rintro _ w (⟨rfl, hS⟩ | ⟨rfl, hS⟩)
      · replace hS := hS.b2
        refine O_not rfl rfl rfl rfl rfl ?_
        refine R_nil ?_
        refine tn ?_
        refine F_false rfl rfl ?_
        refine F_skip ?_
        refine bn ?_
        refine tn ?_
        refine F_region (p := ⟨_, [0, 0], []⟩) rfl [0, 1] rfl ?_
        refine O_addN rfl rfl rfl rfl rfl rfl (by first | omega | (dsimp only; omega)) ?_
        refine O_move rfl rfl rfl rfl rfl ?_
        refine R_nil ?_
        refine tn ⟨rfl, rfl, j + 1, ⟨rfl, rfl, rfl, rfl, rfl, trivial⟩, ⟨by omega, ?_⟩, by omega⟩
        rw [List.replicate_succ', ← List.append_assoc]; exact hS
      · replace hS := hS.b2
        refine O_not rfl rfl rfl rfl rfl ?_
        refine R_nil ?_
        refine tn ?_
        refine F_true rfl rfl ?_
        refine F_ret ?_
        refine br ?_
        refine tr ?_
        refine tr ?_
        refine br ?_
        refine br ?_
        show Sat w0 ((hex fun q => pur (Code.ret = .ret ∧ q <+: expand es) * (blks [(b1, .cells #[.func yn ya yc] 123 (0, 0))] * Jx q)) * R) w
        refine Sat.mkex (expand pre ++ List.replicate j k ++ [k]) ?_
        refine (Sat.mkpure (show Code.ret = .ret ∧ (expand pre ++ List.replicate j k ++ [k]) <+: expand es from ⟨rfl, hpre⟩) (R := blks [(b1, .cells #[.func yn ya yc] 123 (0, 0))] * Jx (expand pre ++ List.replicate j k ++ [k]) * R) (hS.to (by ac_rfl))).to (by ac_rfl)
    · refine F_seq ?_
      refine F_region (p := ⟨_, [0], []⟩) rfl [0] rfl ?_
      refine O_cmp rfl rfl rfl rfl rfl rfl rfl ?_
      refine R_nil ?_
      refine tn ?_
      refine F_seq ?_
      refine F_false rfl (decide_eq_false (by omega)) ?_
      refine F_exit ?_
      refine tx ?_
      refine tx ?_
      refine Go.Sl.bx rfl ?_
      refine bn ?_
      show Sat w0 (blks [(b1, .cells #[.func yn ya yc] 123 (0, 0))] * J (expand (pre ++ [(k, n)])) * R) w
      rw [expand_snoc]
      have hjn : j = n.toNat := by omega
      subst hjn
      exact hS.to (by ac_rfl)
  · clear hS
    intro D w hS
    refine bn ?_
    show endF _ _ _ _ _ _
    refine end_sl (w0 := w0) (A := blks [(sb, .cells #[.pointer (some ⟨rb, 0, none⟩), .int .i64 room, .int .i64 (tot es)] 114 (0, 0))] * (rackP E_si O_si rb es * (pt bx (.cells #[.pointer (some ⟨sb, 0, none⟩)] 66) * (J (expand es) * R)))) trivial rfl rfl ?_ ?_
    · exact marks1 (D := D) (Sat.drop (A := blks [(b1, .cells #[.func yn ya yc] 123 (0, 0))] * pt b2 (.cells #[.pointer (some ⟨rb, 0, none⟩)] 110)) (hS.to (by simp only [blks]; ac_rfl)))
    · intro w hS; exact .inl ((sackP_mk hw hs ht hr rfl hS).to (by ac_rfl))
  · clear hS
    intro D c pre w hp hS
    replace hS : Sat w0 ((hex fun q => pur (c = .ret ∧ q <+: expand es) * (blks [(b1, .cells #[.func yn ya yc] 123 (0, 0))] * Jx q)) * (pt D (.deferred (some [])) * ((pt b2 (.cells #[.pointer (some ⟨rb, 0, none⟩)] 110) * rackP E_si O_si rb es) * (blks [(bx, .cells #[.pointer (some ⟨sb, 0, none⟩)] 66 (0, 0)), (sb, .cells #[.pointer (some ⟨rb, 0, none⟩), .int .i64 room, .int .i64 (tot es)] 114 (0, 0))] * R)))) w := hS.to (by ac_rfl)
    obtain ⟨q, hS2⟩ := hS.ex
    clear hS
    obtain ⟨hc, hS3⟩ := Sat.pure (hS2.to (star_assoc _ _ _))
    clear hS2
    obtain ⟨rfl, hq⟩ := hc
    have hS := hS3
    refine F_ret ?_
    refine br ?_
    show endF _ _ _ _ _ _
    refine end_sl (w0 := w0) (A := blks [(sb, .cells #[.pointer (some ⟨rb, 0, none⟩), .int .i64 room, .int .i64 (tot es)] 114 (0, 0))] * (rackP E_si O_si rb es * (pt bx (.cells #[.pointer (some ⟨sb, 0, none⟩)] 66) * (Jx q * R)))) trivial rfl rfl ?_ ?_
    · exact marks1 (D := D) (Sat.drop (A := blks [(b1, .cells #[.func yn ya yc] 123 (0, 0))] * pt b2 (.cells #[.pointer (some ⟨rb, 0, none⟩)] 110)) (hS.to (by simp only [blks]; ac_rfl)))
    · intro w hS; exact .inr ⟨q, hq, (sackP_mk hw hs ht hr rfl hS).to (by ac_rfl)⟩
end Go.Proofs.YtpnigaoibhogfaaDoor
