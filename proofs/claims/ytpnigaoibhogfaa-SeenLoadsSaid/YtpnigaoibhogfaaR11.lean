/- YtpnigaoibhogfaaR11: a part of the proof: walks over the translated code, and plain facts on lists beside. -/
import Derived.Test.YtpnigaoibhogfaaR1b
import Derived.Test.YtpnigaoibhogfaaR1s
import Derived.Test.YtpnigaoibhogfaaSlSeen
set_option linter.all false
namespace Go.Proofs.Ytpnigaoibhogfaa
open Go Go.RowKit Go.Sl
set_option linter.unusedVariables false
theorem At0_ib {w0 w : World} {R : HProp} {rb : Nat} {x0 : Int × Bool} {xs : List (Int × Bool)} (hS : Sat w0 (rackP E_ib O_ib rb (x0 :: xs) * R) w) :
    Calls Try.prog 57 #[.pointer (some ⟨rb, 0, none⟩), .int .i64 0] w (ret fun u w' => u = .tuple #[E_ib.k x0.1, E_ib.v x0.2, .bool true] ∧ Sat w0 (rackP E_ib O_ib rb (x0 :: xs) * R) w') := by
  obtain ⟨root, t0, ht0, hs, hS⟩ := rackP_open hS
  refine enterF (args := [_, _]) Try.func57 rfl Try.ntmps57 rfl rfl ?_
  refine F_seq ?_
  refine F_region (p := ⟨_, [0, 0, 0], []⟩) rfl [0, 1, 2] rfl ?_
  refine O_assign rfl rfl rfl rfl rfl ?_
  refine O_assign rfl rfl rfl rfl rfl ?_
  refine O_assign rfl rfl rfl rfl rfl ?_
  refine R_nil ?_
  refine tn ?_
  refine F_seq ?_
  refine F_region (p := ⟨_, [0, 0, 0, 1, 0], []⟩) rfl [0, 1, 2, 3, 4] rfl ?_
  refine O_move rfl rfl rfl rfl rfl ?_
  refine O_nilCheck rfl rfl rfl rfl rfl ?_
  refine O_fieldAddr rfl rfl rfl rfl rfl Try.runUnderlying136 rfl Try.sizeOf132 ?_
  refine O_loadS hS rfl rfl rfl rfl rfl Try.isAgg132 (by repeat (first | exact .here rfl | apply CellAt.there)) (by trivial) ?_
  refine O_assign rfl rfl rfl rfl rfl ?_
  refine R_nil ?_
  refine tn ?_
  refine F_seq ?_
  refine F_block ?_
  refine F_loop (α := Option Addr × T Int Bool) (fun x => [(0, .pointer (some ⟨rb, 0, none⟩)), (1, .int .i64 0), (4, (.int .i64 0)), (5, (.bool false)), (6, .bool false), (7, .pointer x.1)]) (fun x w => (∃ q, x.2.toList = x0 :: q) ∧ ∃ C : HProp, Sat w0 (blks [(rb, .cells #[E_ib.cv, .pointer root] 136 (0, 0))] * (tree E_ib x.1 x.2 * (C * R))) w ∧ ∀ R' w', Sat w0 (tree E_ib x.1 x.2 * (C * R')) w' → Sat w0 (tree E_ib root t0 * R') w') (fun x => x.2.sz) (root, t0) ⟨rfl, rfl, rfl, rfl, rfl, rfl, trivial⟩ ⟨⟨xs, ht0⟩, hemp, hS.to (by ac_rfl), fun R' w' h' => h'.to (by ac_rfl)⟩ ?_
  clear hS
  rintro ⟨p, t⟩ w ⟨⟨q, hq⟩, C, hS, hC⟩
  cases t with
  | leaf => cases hq
  | node l k0 v0 r =>
    obtain ⟨b, pl, pr, rfl, hN⟩ := tree_node hS.b2
    clear hS
    simp only [T.toList] at hq
    have hlm := T.m_len l
    have hlb := T.bd l
    have hS : Sat w0 (blks [(rb, .cells #[E_ib.cv, .pointer root] 136 (0, 0)), (b, .cells #[E_ib.k k0, E_ib.v v0, .pointer pl, .pointer pr, .int .i64 (1 + max l.h r.h), .int .i64 (1 + l.m + r.m)] 138 (0, 0))] * (tree E_ib pl l * (tree E_ib pr r * (C * R)))) w := hN.to (by simp only [blks]; ac_rfl)
    clear hN
    cases hll : l.toList with
    | nil =>
      rw [hll] at hlm hq
      simp only [List.length_nil] at hlm
      simp only [List.nil_append, List.cons.injEq] at hq
      refine F_seq ?_
      refine F_seq ?_
      refine F_region (p := ⟨_, [0, 0], []⟩) rfl [0, 1] rfl ?_
      refine O_move rfl rfl rfl rfl rfl ?_
      refine O_neNil rfl rfl rfl rfl rfl rfl Try.runUnderlying132 ?_
      refine R_nil ?_
      refine tn ?_
      refine F_true rfl rfl ?_
      refine F_skip ?_
      refine tn ?_
      refine F_block ?_
      refine F_seq ?_
      refine F_region (p := ⟨_, [0, 0, 0, 1, 2, 0], []⟩) rfl [0, 1, 2, 3, 4, 5] rfl ?_
      refine O_move rfl rfl rfl rfl rfl ?_
      refine O_nilCheck rfl rfl rfl rfl rfl ?_
      refine O_fieldAddr rfl rfl rfl rfl rfl Try.runUnderlying138 rfl Try.sizeOf132 ?_
      refine O_loadS hS rfl rfl rfl rfl rfl Try.isAgg132 (by repeat (first | exact .here rfl | apply CellAt.there)) (by trivial) ?_
      refine O_call rfl rfl rfl rfl Try.call77 rfl ((ht_ib _ _ _ hS.b2).2) (fun _ _ hv => trivial) ?_
      rintro _ w ⟨rfl, hS⟩
      replace hS := hS.b2
      refine O_assign rfl rfl rfl rfl rfl ?_
      refine R_nil ?_
      refine tn ?_
      refine F_seq ?_
      refine F_seq ?_
      refine F_region (p := ⟨_, [0, 0, 0], []⟩) rfl [0, 1, 2] rfl ?_
      refine O_move rfl rfl rfl rfl rfl ?_
      refine O_move rfl rfl rfl rfl rfl ?_
      refine O_cmp rfl rfl rfl rfl rfl rfl rfl ?_
      refine R_nil ?_
      refine tn ?_
      refine F_true rfl (decide_eq_true (by omega)) ?_
      refine F_seq ?_
      refine F_drawnS hS (by kernel_rfl) (p := ⟨_, [0, 0, 0, 1, 0, 0, 0, 1, 0, 0, 0], []⟩) rfl (.ofList [0, 1, 2, 3, 4, 5, 6, 7, 8, 9, 10]) (by kernel_rfl) ?_
      intro w hS
      refine O_move rfl rfl rfl rfl rfl ?_
      refine O_nilCheck rfl rfl rfl rfl rfl ?_
      refine O_fieldAddr rfl rfl rfl rfl rfl Try.runUnderlying138 rfl Try.sizeOf3 ?_
      refine O_loadS hS rfl rfl rfl rfl rfl Try.isAgg3 (by repeat (first | exact .here rfl | apply CellAt.there)) (by trivial) ?_
      refine O_move rfl rfl rfl rfl rfl ?_
      refine O_nilCheck rfl rfl rfl rfl rfl ?_
      refine O_fieldAddr rfl rfl rfl rfl rfl Try.runUnderlying138 rfl Try.sizeOf4 ?_
      refine O_loadS hS rfl rfl rfl rfl rfl Try.isAgg4 (by repeat (first | exact .here rfl | apply CellAt.there)) (by trivial) ?_
      refine O_assign rfl rfl rfl rfl rfl ?_
      refine O_assign rfl rfl rfl rfl rfl ?_
      refine O_assign rfl rfl rfl rfl rfl ?_
      refine R_nil ?_
      refine tn ?_
      refine F_ret ?_
      refine tr ?_
      refine br ?_
      refine tr ?_
      refine br ?_
      refine tr ?_
      show endF _ _ _ _ _ _
      refine end0 trivial rfl rfl rfl hS ?_
      intro w hS
      refine ⟨by rw [← hq.1]; rfl, ?_⟩
      have hq2 : Sat w0 (blks [(b, .cells #[E_ib.k k0, E_ib.v v0, .pointer pl, .pointer pr, .int .i64 (1 + max l.h r.h), .int .i64 (1 + l.m + r.m)] 138 (0, 0))] * (tree E_ib pl l * (tree E_ib pr r * (C * (blks [(rb, .cells #[E_ib.cv, .pointer root] 136 (0, 0))] * R))))) w := hS.to (by first | ac_rfl | (simp only [blks]; ac_rfl))
      exact rackP_mk ht0 hs (hC _ _ (tree_node_mk rfl rfl hq2)).b2
    | cons y ys =>
      rw [hll] at hlm hq
      simp only [List.length_cons] at hlm
      simp only [List.cons_append, List.cons.injEq] at hq
      refine F_seq ?_
      refine F_seq ?_
      refine F_region (p := ⟨_, [0, 0], []⟩) rfl [0, 1] rfl ?_
      refine O_move rfl rfl rfl rfl rfl ?_
      refine O_neNil rfl rfl rfl rfl rfl rfl Try.runUnderlying132 ?_
      refine R_nil ?_
      refine tn ?_
      refine F_true rfl rfl ?_
      refine F_skip ?_
      refine tn ?_
      refine F_block ?_
      refine F_seq ?_
      refine F_region (p := ⟨_, [0, 0, 0, 1, 2, 0], []⟩) rfl [0, 1, 2, 3, 4, 5] rfl ?_
      refine O_move rfl rfl rfl rfl rfl ?_
      refine O_nilCheck rfl rfl rfl rfl rfl ?_
      refine O_fieldAddr rfl rfl rfl rfl rfl Try.runUnderlying138 rfl Try.sizeOf132 ?_
      refine O_loadS hS rfl rfl rfl rfl rfl Try.isAgg132 (by repeat (first | exact .here rfl | apply CellAt.there)) (by trivial) ?_
      refine O_call rfl rfl rfl rfl Try.call77 rfl ((ht_ib _ _ _ hS.b2).2) (fun _ _ hv => trivial) ?_
      rintro _ w ⟨rfl, hS⟩
      replace hS := hS.b2
      refine O_assign rfl rfl rfl rfl rfl ?_
      refine R_nil ?_
      refine tn ?_
      refine F_seq ?_
      refine F_seq ?_
      refine F_region (p := ⟨_, [0, 0, 0], []⟩) rfl [0, 1, 2] rfl ?_
      refine O_move rfl rfl rfl rfl rfl ?_
      refine O_move rfl rfl rfl rfl rfl ?_
      refine O_cmp rfl rfl rfl rfl rfl rfl rfl ?_
      refine R_nil ?_
      refine tn ?_
      refine F_false rfl (decide_eq_false (by omega)) ?_
      refine F_skip ?_
      refine tn ?_
      refine F_seq ?_
      refine F_seq ?_
      refine F_region (p := ⟨_, [0, 0, 0], []⟩) rfl [0, 1, 2] rfl ?_
      refine O_move rfl rfl rfl rfl rfl ?_
      refine O_move rfl rfl rfl rfl rfl ?_
      refine O_cmp rfl rfl rfl rfl rfl rfl rfl ?_
      refine R_nil ?_
      refine tn ?_
      refine F_true rfl (decide_eq_true (by omega)) ?_
      refine F_seq ?_
      refine F_region (p := ⟨_, [0, 0, 0, 1, 0], []⟩) rfl [0, 1, 2, 3, 4] rfl ?_
      refine O_move rfl rfl rfl rfl rfl ?_
      refine O_nilCheck rfl rfl rfl rfl rfl ?_
      refine O_fieldAddr rfl rfl rfl rfl rfl Try.runUnderlying138 rfl Try.sizeOf132 ?_
      refine O_loadS hS rfl rfl rfl rfl rfl Try.isAgg132 (by repeat (first | exact .here rfl | apply CellAt.there)) (by trivial) ?_
      refine O_assign rfl rfl rfl rfl rfl ?_
      refine R_nil ?_
      refine tn ?_
      refine F_exit ?_
      refine tx ?_
      refine Go.Sl.bx rfl ?_
      refine tn ⟨rfl, rfl, (pl, l), ⟨rfl, rfl, rfl, rfl, rfl, rfl, trivial⟩, ⟨⟨ys, by rw [hll, hq.1]⟩, (blks [(b, .cells #[E_ib.k k0, E_ib.v v0, .pointer pl, .pointer pr, .int .i64 (1 + max l.h r.h), .int .i64 (1 + l.m + r.m)] 138 (0, 0))] * tree E_ib pr r) * C, ?_, ?_⟩, ?_⟩
      · exact hS.to (by first | ac_rfl | (simp only [blks]; ac_rfl))
      · intro R' w' h'; dsimp only at h'
        have h2 : Sat w0 (blks [(b, .cells #[E_ib.k k0, E_ib.v v0, .pointer pl, .pointer pr, .int .i64 (1 + max l.h r.h), .int .i64 (1 + l.m + r.m)] 138 (0, 0))] * (tree E_ib pl l * (tree E_ib pr r * (C * R')))) w' := h'.to (by ac_rfl)
        exact hC R' w' (tree_node_mk rfl rfl h2)
      · simp only [T.sz]; omega
theorem seenNew {w0 w : World} {R : HProp} (hS : Sat w0 R w) : Calls Try.prog 24 #[] w (ret fun u w' => ∃ sb, u = .pointer (some ⟨sb, 0, none⟩) ∧ Sat w0 (seenP E_sc O_sc E_ib O_ib 94 103 sb [] * R) w') := by
  refine enterF (args := []) Try.func24 rfl Try.ntmps24 rfl rfl ?_
  refine F_seq ?_
  refine F_region (p := ⟨_, [0], []⟩) rfl [0] rfl ?_
  refine O_assign rfl rfl rfl rfl rfl ?_
  refine R_nil ?_
  refine tn ?_
  refine F_seq ?_
  refine F_region (p := ⟨_, [2, 0, 2, 0], []⟩) rfl [0, 1, 2, 3] rfl ?_
  refine O_call rfl rfl rfl rfl Try.call47 rfl (New_sc hS) (fun _ _ hv => trivial) ?_
  rintro _ w ⟨rb, rfl, hS⟩
  replace hS := hS.noblks
  refine O_build rfl rfl rfl rfl rfl (run_buildS [_] Try.zeroValue94 Try.runUnderlying94 (fun _ => 1) ⟨Try.sizeOf89, trivial⟩ rfl) ?_
  refine O_boxS hS rfl rfl rfl rfl rfl (fun _ _ hv => trivial) ?_
  intro b1 w hS
  refine O_assign rfl rfl rfl rfl rfl ?_
  refine R_nil ?_
  refine tn ?_
  refine F_ret ?_
  show endF _ _ _ _ _ _
  refine end0 trivial rfl rfl rfl hS ?_
  intro w hS
  refine ⟨_, rfl, seen_mk (rb := rb) (M := []) rfl ?_⟩
  have h2 : Sat w0 (blks [(b1, .cells #[.pointer (some ⟨rb, 0, none⟩)] 94 (0, 0))] * (rackP E_sc O_sc rb [] * (hemp * R))) w := hS.to (by rw [hemp_star]; rfl)
  exact h2
theorem seenCan {w0 w : World} {R : HProp} {sb : Nat} {L : List (ByteArray × (Int × List (Int × Bool)))} (name : ByteArray) (seq : Int) (hS : Sat w0 (seenP E_sc O_sc E_ib O_ib 94 103 sb L * R) w) :
    Calls Try.prog 49 #[.pointer (some ⟨sb, 0, none⟩), .string name, .int .i64 seq] w (ret fun u w' => u = .int .i64 (canS O_sc O_ib name seq L) ∧ Sat w0 (seenP E_sc O_sc E_ib O_ib 94 103 sb L * R) w') := by
  obtain ⟨rb, M, hM, hS⟩ := seen_open hS
  have hgL : get O_sc name L = (get O_sc name M).map Prod.snd := by rw [← hM, get_mapv]
  have hgB : get O_sc name (mapv Prod.fst M) = (get O_sc name M).map Prod.fst := get_mapv
  have hlL : L.length = M.length := by rw [← hM, len_mapv]
  cases hg : get O_sc name M with
  | none =>
    rw [hg] at hgL hgB
    by_cases h8 : 8 ≤ (M.length : Int)
    ·
      refine enterF (args := [_, _, _]) Try.func49 rfl Try.ntmps49 rfl rfl ?_
      refine F_seq ?_
      refine F_region (p := ⟨_, [0], []⟩) rfl [0] rfl ?_
      refine O_assign rfl rfl rfl rfl rfl ?_
      refine R_nil ?_
      refine tn ?_
      refine F_seq ?_
      refine F_region (p := ⟨_, [0, 0, 0, 1, 0, 2, 0, 0, 0, 0, 0], []⟩) rfl [0, 1, 2, 3, 4, 5, 6, 7, 8, 9, 10] rfl ?_
      refine O_move rfl rfl rfl rfl rfl ?_
      refine O_nilCheck rfl rfl rfl rfl rfl ?_
      refine O_fieldAddr rfl rfl rfl rfl rfl Try.runUnderlying94 rfl Try.sizeOf89 ?_
      refine O_loadS hS rfl rfl rfl rfl rfl Try.isAgg89 (by repeat (first | exact .here rfl | apply CellAt.there)) (by trivial) ?_
      refine O_move rfl rfl rfl rfl rfl ?_
      refine O_call rfl rfl rfl rfl Try.call64 rfl (Get_sc name hS.b2) (fun _ _ hv => trivial) ?_
      rintro _ w ⟨rfl, hS⟩
      replace hS := hS.b2
      rw [hgB]
      refine O_move rfl rfl rfl rfl rfl ?_
      refine O_extract rfl rfl rfl rfl rfl rfl ?_
      refine O_extract rfl rfl rfl rfl rfl rfl ?_
      refine O_assign rfl rfl rfl rfl rfl ?_
      refine O_assign rfl rfl rfl rfl rfl ?_
      refine R_nil ?_
      refine tn ?_
      refine F_seq ?_
      refine F_seq ?_
      refine F_region (p := ⟨_, [0, 0], []⟩) rfl [0, 1] rfl ?_
      refine O_move rfl rfl rfl rfl rfl ?_
      refine O_not rfl rfl rfl rfl rfl ?_
      refine R_nil ?_
      refine tn ?_
      refine F_true rfl rfl ?_
      refine F_seq ?_
      refine F_seq ?_
      refine F_region (p := ⟨_, [0, 0, 0, 1, 2, 0], []⟩) rfl [0, 1, 2, 3, 4, 5] rfl ?_
      refine O_move rfl rfl rfl rfl rfl ?_
      refine O_nilCheck rfl rfl rfl rfl rfl ?_
      refine O_fieldAddr rfl rfl rfl rfl rfl Try.runUnderlying94 rfl Try.sizeOf89 ?_
      refine O_loadS hS rfl rfl rfl rfl rfl Try.isAgg89 (by repeat (first | exact .here rfl | apply CellAt.there)) (by trivial) ?_
      refine O_call rfl rfl rfl rfl Try.call72 rfl (Len_sc hS.b2) (fun _ _ hv => trivial) ?_
      rintro _ w ⟨rfl, hS⟩
      replace hS := hS.b2
      rw [len_mapv]
      refine O_cmp rfl rfl rfl rfl rfl rfl rfl ?_
      refine R_nil ?_
      refine tn ?_
      refine F_true rfl (decide_eq_true (by omega)) ?_
      refine F_seq ?_
      refine F_region (p := ⟨_, [0], []⟩) rfl [0] rfl ?_
      refine O_assign rfl rfl rfl rfl rfl ?_
      refine R_nil ?_
      refine tn ?_
      refine F_ret ?_
      refine tr ?_
      refine tr ?_
      have hv : canS O_sc O_ib name seq L = 16 := by unfold canS; rw [hgL]; simp only [Option.map_none, Option.map_some]; rw [if_pos (by omega)]
      show endF _ _ _ _ _ _
      refine end0 trivial rfl rfl rfl hS ?_
      intro w hS
      exact ⟨by rw [hv]; rfl, seen_mk hM hS⟩
    ·
      refine enterF (args := [_, _, _]) Try.func49 rfl Try.ntmps49 rfl rfl ?_
      refine F_seq ?_
      refine F_region (p := ⟨_, [0], []⟩) rfl [0] rfl ?_
      refine O_assign rfl rfl rfl rfl rfl ?_
      refine R_nil ?_
      refine tn ?_
      refine F_seq ?_
      refine F_region (p := ⟨_, [0, 0, 0, 1, 0, 2, 0, 0, 0, 0, 0], []⟩) rfl [0, 1, 2, 3, 4, 5, 6, 7, 8, 9, 10] rfl ?_
      refine O_move rfl rfl rfl rfl rfl ?_
      refine O_nilCheck rfl rfl rfl rfl rfl ?_
      refine O_fieldAddr rfl rfl rfl rfl rfl Try.runUnderlying94 rfl Try.sizeOf89 ?_
      refine O_loadS hS rfl rfl rfl rfl rfl Try.isAgg89 (by repeat (first | exact .here rfl | apply CellAt.there)) (by trivial) ?_
      refine O_move rfl rfl rfl rfl rfl ?_
      refine O_call rfl rfl rfl rfl Try.call64 rfl (Get_sc name hS.b2) (fun _ _ hv => trivial) ?_
      rintro _ w ⟨rfl, hS⟩
      replace hS := hS.b2
      rw [hgB]
      refine O_move rfl rfl rfl rfl rfl ?_
      refine O_extract rfl rfl rfl rfl rfl rfl ?_
      refine O_extract rfl rfl rfl rfl rfl rfl ?_
      refine O_assign rfl rfl rfl rfl rfl ?_
      refine O_assign rfl rfl rfl rfl rfl ?_
      refine R_nil ?_
      refine tn ?_
      refine F_seq ?_
      refine F_seq ?_
      refine F_region (p := ⟨_, [0, 0], []⟩) rfl [0, 1] rfl ?_
      refine O_move rfl rfl rfl rfl rfl ?_
      refine O_not rfl rfl rfl rfl rfl ?_
      refine R_nil ?_
      refine tn ?_
      refine F_true rfl rfl ?_
      refine F_seq ?_
      refine F_seq ?_
      refine F_region (p := ⟨_, [0, 0, 0, 1, 2, 0], []⟩) rfl [0, 1, 2, 3, 4, 5] rfl ?_
      refine O_move rfl rfl rfl rfl rfl ?_
      refine O_nilCheck rfl rfl rfl rfl rfl ?_
      refine O_fieldAddr rfl rfl rfl rfl rfl Try.runUnderlying94 rfl Try.sizeOf89 ?_
      refine O_loadS hS rfl rfl rfl rfl rfl Try.isAgg89 (by repeat (first | exact .here rfl | apply CellAt.there)) (by trivial) ?_
      refine O_call rfl rfl rfl rfl Try.call72 rfl (Len_sc hS.b2) (fun _ _ hv => trivial) ?_
      rintro _ w ⟨rfl, hS⟩
      replace hS := hS.b2
      rw [len_mapv]
      refine O_cmp rfl rfl rfl rfl rfl rfl rfl ?_
      refine R_nil ?_
      refine tn ?_
      refine F_false rfl (decide_eq_false (by omega)) ?_
      refine F_skip ?_
      refine tn ?_
      refine F_seq ?_
      refine F_region (p := ⟨_, [0], []⟩) rfl [0] rfl ?_
      refine O_assign rfl rfl rfl rfl rfl ?_
      refine R_nil ?_
      refine tn ?_
      refine F_ret ?_
      refine tr ?_
      have hv : canS O_sc O_ib name seq L = 0 := by unfold canS; rw [hgL]; simp only [Option.map_none, Option.map_some]; rw [if_neg (by omega)]
      show endF _ _ _ _ _ _
      refine end0 trivial rfl rfl rfl hS ?_
      intro w hS
      exact ⟨by rw [hv]; rfl, seen_mk hM hS⟩
  | some x =>
    obtain ⟨cb, d⟩ := x
    rw [hg] at hgL hgB
    rw [bigS_get hg] at hS
    obtain ⟨rk, hS⟩ := came_open (hS.to (B := cameP E_ib O_ib 103 cb d * (blks [(sb, .cells #[.pointer (some ⟨rb, 0, none⟩)] 94 (0, 0))] * (rackP E_sc O_sc rb (mapv Prod.fst M) * (bigS (cameP E_ib O_ib 103) (del O_sc name M) * R)))) (by ac_rfl))
    replace hS : Sat w0 (blks [(cb, .cells #[.int .i64 d.1, .pointer (some ⟨rk, 0, none⟩)] 103 (0, 0)), (sb, .cells #[.pointer (some ⟨rb, 0, none⟩)] 94 (0, 0))] * (rackP E_sc O_sc rb (mapv Prod.fst M) * (rackP E_ib O_ib rk d.2 * (bigS (cameP E_ib O_ib 103) (del O_sc name M) * R)))) w := hS.to (by simp only [blks]; ac_rfl)
    have hclose : ∀ w', Sat w0 (blks [(cb, .cells #[.int .i64 d.1, .pointer (some ⟨rk, 0, none⟩)] 103 (0, 0)), (sb, .cells #[.pointer (some ⟨rb, 0, none⟩)] 94 (0, 0))] * (rackP E_ib O_ib rk d.2 * (rackP E_sc O_sc rb (mapv Prod.fst M) * (bigS (cameP E_ib O_ib 103) (del O_sc name M) * R)))) w' → Sat w0 (seenP E_sc O_sc E_ib O_ib 94 103 sb L * R) w' := by
      intro w' h'
      refine seen_mk (rb := rb) hM ?_
      rw [bigS_get hg]
      have h2 := came_mk (h'.to (B := blks [(cb, .cells #[.int .i64 d.1, .pointer (some ⟨rk, 0, none⟩)] 103 (0, 0))] * (rackP E_ib O_ib rk d.2 * (blks [(sb, .cells #[.pointer (some ⟨rb, 0, none⟩)] 94 (0, 0))] * (rackP E_sc O_sc rb (mapv Prod.fst M) * (bigS (cameP E_ib O_ib 103) (del O_sc name M) * R))))) (by simp only [blks]; ac_rfl))
      exact h2.to (by ac_rfl)
    skip
    cases hk : get O_ib seq d.2 with
    | some b =>
      refine enterF (args := [_, _, _]) Try.func49 rfl Try.ntmps49 rfl rfl ?_
      refine F_seq ?_
      refine F_region (p := ⟨_, [0], []⟩) rfl [0] rfl ?_
      refine O_assign rfl rfl rfl rfl rfl ?_
      refine R_nil ?_
      refine tn ?_
      refine F_seq ?_
      refine F_region (p := ⟨_, [0, 0, 0, 1, 0, 2, 0, 0, 0, 0, 0], []⟩) rfl [0, 1, 2, 3, 4, 5, 6, 7, 8, 9, 10] rfl ?_
      refine O_move rfl rfl rfl rfl rfl ?_
      refine O_nilCheck rfl rfl rfl rfl rfl ?_
      refine O_fieldAddr rfl rfl rfl rfl rfl Try.runUnderlying94 rfl Try.sizeOf89 ?_
      refine O_loadS hS rfl rfl rfl rfl rfl Try.isAgg89 (by repeat (first | exact .here rfl | apply CellAt.there)) (by trivial) ?_
      refine O_move rfl rfl rfl rfl rfl ?_
      refine O_call rfl rfl rfl rfl Try.call64 rfl (Get_sc name hS.b2) (fun _ _ hv => trivial) ?_
      rintro _ w ⟨rfl, hS⟩
      replace hS := hS.b2
      rw [hgB]
      refine O_move rfl rfl rfl rfl rfl ?_
      refine O_extract rfl rfl rfl rfl rfl rfl ?_
      refine O_extract rfl rfl rfl rfl rfl rfl ?_
      refine O_assign rfl rfl rfl rfl rfl ?_
      refine O_assign rfl rfl rfl rfl rfl ?_
      refine R_nil ?_
      refine tn ?_
      refine F_seq ?_
      refine F_seq ?_
      refine F_region (p := ⟨_, [0, 0], []⟩) rfl [0, 1] rfl ?_
      refine O_move rfl rfl rfl rfl rfl ?_
      refine O_not rfl rfl rfl rfl rfl ?_
      refine R_nil ?_
      refine tn ?_
      refine F_false rfl rfl ?_
      refine F_skip ?_
      refine tn ?_
      refine F_seq ?_
      refine F_seq ?_
      refine F_region (p := ⟨_, [0, 0, 0, 1, 0, 2, 0, 0, 0, 0, 0], []⟩) rfl [0, 1, 2, 3, 4, 5, 6, 7, 8, 9, 10] rfl ?_
      refine O_move rfl rfl rfl rfl rfl ?_
      refine O_nilCheck rfl rfl rfl rfl rfl ?_
      refine O_fieldAddr rfl rfl rfl rfl rfl Try.runUnderlying103 rfl Try.sizeOf101 ?_
      refine O_loadS hS rfl rfl rfl rfl rfl Try.isAgg101 (by repeat (first | exact .here rfl | apply CellAt.there)) (by trivial) ?_
      refine O_move rfl rfl rfl rfl rfl ?_
      replace hS : Sat w0 (blks [(cb, .cells #[.int .i64 d.1, .pointer (some ⟨rk, 0, none⟩)] 103 (0, 0)), (sb, .cells #[.pointer (some ⟨rb, 0, none⟩)] 94 (0, 0))] * (rackP E_ib O_ib rk d.2 * (rackP E_sc O_sc rb (mapv Prod.fst M) * (bigS (cameP E_ib O_ib 103) (del O_sc name M) * R)))) w := hS.to (by ac_rfl)
      refine O_call rfl rfl rfl rfl Try.call73 rfl (Get_ib seq hS.b2) (fun _ _ hv => trivial) ?_
      rintro _ w ⟨rfl, hS⟩
      replace hS := hS.b2
      rw [hk]
      refine O_move rfl rfl rfl rfl rfl ?_
      refine O_extract rfl rfl rfl rfl rfl rfl ?_
      refine O_extract rfl rfl rfl rfl rfl rfl ?_
      refine O_assign rfl rfl rfl rfl rfl ?_
      refine O_assign rfl rfl rfl rfl rfl ?_
      refine R_nil ?_
      refine tn ?_
      refine F_seq ?_
      refine F_region (p := ⟨_, [0, 0, 0, 0, 0, 0, 1, 0, 0], []⟩) rfl [0, 1, 2, 3, 4, 5, 6, 7, 8] rfl ?_
      refine O_move rfl rfl rfl rfl rfl ?_
      refine O_move rfl rfl rfl rfl rfl ?_
      refine R_caseT (t := 38) rfl rfl ?_
      refine R_skip rfl rfl rfl rfl ?_
      refine R_skip rfl rfl rfl rfl ?_
      refine R_skip rfl rfl rfl rfl ?_
      refine R_skip rfl rfl rfl rfl ?_
      refine R_skip rfl rfl rfl rfl ?_
      refine R_skip rfl rfl rfl rfl ?_
      refine O_pickT rfl rfl rfl rfl rfl rfl ?_
      refine R_nil ?_
      refine tn ?_
      refine F_true rfl rfl ?_
      refine F_seq ?_
      refine F_region (p := ⟨_, [0], []⟩) rfl [0] rfl ?_
      refine O_assign rfl rfl rfl rfl rfl ?_
      refine R_nil ?_
      refine tn ?_
      refine F_ret ?_
      refine tr ?_
      have hv : canS O_sc O_ib name seq L = 13 := by unfold canS; rw [hgL]; simp only [Option.map_some]; rw [if_pos (.inl (by rw [hk]; rfl))]
      show endF _ _ _ _ _ _
      refine end0 trivial rfl rfl rfl hS ?_
      intro w hS
      exact ⟨by rw [hv]; rfl, hclose _ hS⟩
    | none =>
      by_cases hle : seq ≤ d.1
      ·
        refine enterF (args := [_, _, _]) Try.func49 rfl Try.ntmps49 rfl rfl ?_
        refine F_seq ?_
        refine F_region (p := ⟨_, [0], []⟩) rfl [0] rfl ?_
        refine O_assign rfl rfl rfl rfl rfl ?_
        refine R_nil ?_
        refine tn ?_
        refine F_seq ?_
        refine F_region (p := ⟨_, [0, 0, 0, 1, 0, 2, 0, 0, 0, 0, 0], []⟩) rfl [0, 1, 2, 3, 4, 5, 6, 7, 8, 9, 10] rfl ?_
        refine O_move rfl rfl rfl rfl rfl ?_
        refine O_nilCheck rfl rfl rfl rfl rfl ?_
        refine O_fieldAddr rfl rfl rfl rfl rfl Try.runUnderlying94 rfl Try.sizeOf89 ?_
        refine O_loadS hS rfl rfl rfl rfl rfl Try.isAgg89 (by repeat (first | exact .here rfl | apply CellAt.there)) (by trivial) ?_
        refine O_move rfl rfl rfl rfl rfl ?_
        refine O_call rfl rfl rfl rfl Try.call64 rfl (Get_sc name hS.b2) (fun _ _ hv => trivial) ?_
        rintro _ w ⟨rfl, hS⟩
        replace hS := hS.b2
        rw [hgB]
        refine O_move rfl rfl rfl rfl rfl ?_
        refine O_extract rfl rfl rfl rfl rfl rfl ?_
        refine O_extract rfl rfl rfl rfl rfl rfl ?_
        refine O_assign rfl rfl rfl rfl rfl ?_
        refine O_assign rfl rfl rfl rfl rfl ?_
        refine R_nil ?_
        refine tn ?_
        refine F_seq ?_
        refine F_seq ?_
        refine F_region (p := ⟨_, [0, 0], []⟩) rfl [0, 1] rfl ?_
        refine O_move rfl rfl rfl rfl rfl ?_
        refine O_not rfl rfl rfl rfl rfl ?_
        refine R_nil ?_
        refine tn ?_
        refine F_false rfl rfl ?_
        refine F_skip ?_
        refine tn ?_
        refine F_seq ?_
        refine F_seq ?_
        refine F_region (p := ⟨_, [0, 0, 0, 1, 0, 2, 0, 0, 0, 0, 0], []⟩) rfl [0, 1, 2, 3, 4, 5, 6, 7, 8, 9, 10] rfl ?_
        refine O_move rfl rfl rfl rfl rfl ?_
        refine O_nilCheck rfl rfl rfl rfl rfl ?_
        refine O_fieldAddr rfl rfl rfl rfl rfl Try.runUnderlying103 rfl Try.sizeOf101 ?_
        refine O_loadS hS rfl rfl rfl rfl rfl Try.isAgg101 (by repeat (first | exact .here rfl | apply CellAt.there)) (by trivial) ?_
        refine O_move rfl rfl rfl rfl rfl ?_
        replace hS : Sat w0 (blks [(cb, .cells #[.int .i64 d.1, .pointer (some ⟨rk, 0, none⟩)] 103 (0, 0)), (sb, .cells #[.pointer (some ⟨rb, 0, none⟩)] 94 (0, 0))] * (rackP E_ib O_ib rk d.2 * (rackP E_sc O_sc rb (mapv Prod.fst M) * (bigS (cameP E_ib O_ib 103) (del O_sc name M) * R)))) w := hS.to (by ac_rfl)
        refine O_call rfl rfl rfl rfl Try.call73 rfl (Get_ib seq hS.b2) (fun _ _ hv => trivial) ?_
        rintro _ w ⟨rfl, hS⟩
        replace hS := hS.b2
        rw [hk]
        refine O_move rfl rfl rfl rfl rfl ?_
        refine O_extract rfl rfl rfl rfl rfl rfl ?_
        refine O_extract rfl rfl rfl rfl rfl rfl ?_
        refine O_assign rfl rfl rfl rfl rfl ?_
        refine O_assign rfl rfl rfl rfl rfl ?_
        refine R_nil ?_
        refine tn ?_
        refine F_seq ?_
        refine F_region (p := ⟨_, [0, 0, 0, 0, 0, 0, 1, 0, 0], []⟩) rfl [0, 1, 2, 3, 4, 5, 6, 7, 8] rfl ?_
        refine O_move rfl rfl rfl rfl rfl ?_
        refine O_move rfl rfl rfl rfl rfl ?_
        refine R_caseF (t := 38) rfl rfl ?_
        refine O_move rfl rfl rfl rfl rfl ?_
        refine O_move rfl rfl rfl rfl rfl ?_
        refine O_nilCheck rfl rfl rfl rfl rfl ?_
        refine O_fieldAddr rfl rfl rfl rfl rfl Try.runUnderlying103 rfl Try.sizeOf3 ?_
        refine O_loadS hS rfl rfl rfl rfl rfl Try.isAgg3 (by repeat (first | exact .here rfl | apply CellAt.there)) (by trivial) ?_
        refine O_cmp rfl rfl rfl rfl rfl rfl rfl ?_
        refine O_pickF rfl rfl rfl rfl rfl rfl ?_
        refine R_nil ?_
        refine tn ?_
        refine F_true rfl (decide_eq_true (by omega)) ?_
        refine F_seq ?_
        refine F_region (p := ⟨_, [0], []⟩) rfl [0] rfl ?_
        refine O_assign rfl rfl rfl rfl rfl ?_
        refine R_nil ?_
        refine tn ?_
        refine F_ret ?_
        refine tr ?_
        have hv : canS O_sc O_ib name seq L = 13 := by unfold canS; rw [hgL]; simp only [Option.map_some]; rw [if_pos (.inr hle)]
        show endF _ _ _ _ _ _
        refine end0 trivial rfl rfl rfl hS ?_
        intro w hS
        exact ⟨by rw [hv]; rfl, hclose _ hS⟩
      ·
        refine enterF (args := [_, _, _]) Try.func49 rfl Try.ntmps49 rfl rfl ?_
        refine F_seq ?_
        refine F_region (p := ⟨_, [0], []⟩) rfl [0] rfl ?_
        refine O_assign rfl rfl rfl rfl rfl ?_
        refine R_nil ?_
        refine tn ?_
        refine F_seq ?_
        refine F_region (p := ⟨_, [0, 0, 0, 1, 0, 2, 0, 0, 0, 0, 0], []⟩) rfl [0, 1, 2, 3, 4, 5, 6, 7, 8, 9, 10] rfl ?_
        refine O_move rfl rfl rfl rfl rfl ?_
        refine O_nilCheck rfl rfl rfl rfl rfl ?_
        refine O_fieldAddr rfl rfl rfl rfl rfl Try.runUnderlying94 rfl Try.sizeOf89 ?_
        refine O_loadS hS rfl rfl rfl rfl rfl Try.isAgg89 (by repeat (first | exact .here rfl | apply CellAt.there)) (by trivial) ?_
        refine O_move rfl rfl rfl rfl rfl ?_
        refine O_call rfl rfl rfl rfl Try.call64 rfl (Get_sc name hS.b2) (fun _ _ hv => trivial) ?_
        rintro _ w ⟨rfl, hS⟩
        replace hS := hS.b2
        rw [hgB]
        refine O_move rfl rfl rfl rfl rfl ?_
        refine O_extract rfl rfl rfl rfl rfl rfl ?_
        refine O_extract rfl rfl rfl rfl rfl rfl ?_
        refine O_assign rfl rfl rfl rfl rfl ?_
        refine O_assign rfl rfl rfl rfl rfl ?_
        refine R_nil ?_
        refine tn ?_
        refine F_seq ?_
        refine F_seq ?_
        refine F_region (p := ⟨_, [0, 0], []⟩) rfl [0, 1] rfl ?_
        refine O_move rfl rfl rfl rfl rfl ?_
        refine O_not rfl rfl rfl rfl rfl ?_
        refine R_nil ?_
        refine tn ?_
        refine F_false rfl rfl ?_
        refine F_skip ?_
        refine tn ?_
        refine F_seq ?_
        refine F_seq ?_
        refine F_region (p := ⟨_, [0, 0, 0, 1, 0, 2, 0, 0, 0, 0, 0], []⟩) rfl [0, 1, 2, 3, 4, 5, 6, 7, 8, 9, 10] rfl ?_
        refine O_move rfl rfl rfl rfl rfl ?_
        refine O_nilCheck rfl rfl rfl rfl rfl ?_
        refine O_fieldAddr rfl rfl rfl rfl rfl Try.runUnderlying103 rfl Try.sizeOf101 ?_
        refine O_loadS hS rfl rfl rfl rfl rfl Try.isAgg101 (by repeat (first | exact .here rfl | apply CellAt.there)) (by trivial) ?_
        refine O_move rfl rfl rfl rfl rfl ?_
        replace hS : Sat w0 (blks [(cb, .cells #[.int .i64 d.1, .pointer (some ⟨rk, 0, none⟩)] 103 (0, 0)), (sb, .cells #[.pointer (some ⟨rb, 0, none⟩)] 94 (0, 0))] * (rackP E_ib O_ib rk d.2 * (rackP E_sc O_sc rb (mapv Prod.fst M) * (bigS (cameP E_ib O_ib 103) (del O_sc name M) * R)))) w := hS.to (by ac_rfl)
        refine O_call rfl rfl rfl rfl Try.call73 rfl (Get_ib seq hS.b2) (fun _ _ hv => trivial) ?_
        rintro _ w ⟨rfl, hS⟩
        replace hS := hS.b2
        rw [hk]
        refine O_move rfl rfl rfl rfl rfl ?_
        refine O_extract rfl rfl rfl rfl rfl rfl ?_
        refine O_extract rfl rfl rfl rfl rfl rfl ?_
        refine O_assign rfl rfl rfl rfl rfl ?_
        refine O_assign rfl rfl rfl rfl rfl ?_
        refine R_nil ?_
        refine tn ?_
        refine F_seq ?_
        refine F_region (p := ⟨_, [0, 0, 0, 0, 0, 0, 1, 0, 0], []⟩) rfl [0, 1, 2, 3, 4, 5, 6, 7, 8] rfl ?_
        refine O_move rfl rfl rfl rfl rfl ?_
        refine O_move rfl rfl rfl rfl rfl ?_
        refine R_caseF (t := 38) rfl rfl ?_
        refine O_move rfl rfl rfl rfl rfl ?_
        refine O_move rfl rfl rfl rfl rfl ?_
        refine O_nilCheck rfl rfl rfl rfl rfl ?_
        refine O_fieldAddr rfl rfl rfl rfl rfl Try.runUnderlying103 rfl Try.sizeOf3 ?_
        refine O_loadS hS rfl rfl rfl rfl rfl Try.isAgg3 (by repeat (first | exact .here rfl | apply CellAt.there)) (by trivial) ?_
        refine O_cmp rfl rfl rfl rfl rfl rfl rfl ?_
        refine O_pickF rfl rfl rfl rfl rfl rfl ?_
        refine R_nil ?_
        refine tn ?_
        refine F_false rfl (decide_eq_false (by omega)) ?_
        refine F_skip ?_
        refine tn ?_
        refine F_seq ?_
        refine F_region (p := ⟨_, [0], []⟩) rfl [0] rfl ?_
        refine O_assign rfl rfl rfl rfl rfl ?_
        refine R_nil ?_
        refine tn ?_
        refine F_ret ?_
        have hv : canS O_sc O_ib name seq L = 0 := by unfold canS; rw [hgL]; simp only [Option.map_some]; rw [if_neg (by rw [hk]; simp; omega)]
        show endF _ _ _ _ _ _
        refine end0 trivial rfl rfl rfl hS ?_
        intro w hS
        exact ⟨by rw [hv]; rfl, hclose _ hS⟩
theorem seenOf {w0 w : World} {R : HProp} {sb : Nat} {L : List (ByteArray × (Int × List (Int × Bool)))} (hb : L.length ≤ 100000) (name : ByteArray) (hS : Sat w0 (seenP E_sc O_sc E_ib O_ib 94 103 sb L * R) w) :
    Calls Try.prog 54 #[.pointer (some ⟨sb, 0, none⟩), .string name] w (ret fun u w' => ∃ rb cb M d, u = .pointer (some ⟨cb, 0, none⟩) ∧ d = (get O_sc name L).getD (0, []) ∧ mapv Prod.snd M = ins O_sc name d L ∧ get O_sc name M = some (cb, d) ∧ Sat w0 (blks [(sb, .cells #[.pointer (some ⟨rb, 0, none⟩)] 94 (0, 0))] * (rackP E_sc O_sc rb (mapv Prod.fst M) * (bigS (cameP E_ib O_ib 103) M * R))) w') := by
  obtain ⟨rb, M, hM, hS⟩ := seen_open hS
  have hgL : get O_sc name L = (get O_sc name M).map Prod.snd := by rw [← hM, get_mapv]
  have hgB : get O_sc name (mapv Prod.fst M) = (get O_sc name M).map Prod.fst := get_mapv
  have hlL : L.length = M.length := by rw [← hM, len_mapv]
  cases hg : get O_sc name M with
  | none =>
    rw [hg] at hgL hgB
    refine enterF (args := [_, _]) Try.func54 rfl Try.ntmps54 rfl rfl ?_
    refine F_seq ?_
    refine F_region (p := ⟨_, [0], []⟩) rfl [0] rfl ?_
    refine O_assign rfl rfl rfl rfl rfl ?_
    refine R_nil ?_
    refine tn ?_
    refine F_seq ?_
    refine F_region (p := ⟨_, [0, 0, 0, 1, 0, 2, 0, 0, 0, 0, 0], []⟩) rfl [0, 1, 2, 3, 4, 5, 6, 7, 8, 9, 10] rfl ?_
    refine O_move rfl rfl rfl rfl rfl ?_
    refine O_nilCheck rfl rfl rfl rfl rfl ?_
    refine O_fieldAddr rfl rfl rfl rfl rfl Try.runUnderlying94 rfl Try.sizeOf89 ?_
    refine O_loadS hS rfl rfl rfl rfl rfl Try.isAgg89 (by repeat (first | exact .here rfl | apply CellAt.there)) (by trivial) ?_
    refine O_move rfl rfl rfl rfl rfl ?_
    refine O_call rfl rfl rfl rfl Try.call64 rfl (Get_sc name hS.b2) (fun _ _ hv => trivial) ?_
    rintro _ w ⟨rfl, hS⟩
    replace hS := hS.b2
    rw [hgB]
    refine O_move rfl rfl rfl rfl rfl ?_
    refine O_extract rfl rfl rfl rfl rfl rfl ?_
    refine O_extract rfl rfl rfl rfl rfl rfl ?_
    refine O_assign rfl rfl rfl rfl rfl ?_
    refine O_assign rfl rfl rfl rfl rfl ?_
    refine R_nil ?_
    refine tn ?_
    refine F_seq ?_
    refine F_seq ?_
    refine F_region (p := ⟨_, [0, 0], []⟩) rfl [0, 1] rfl ?_
    refine O_move rfl rfl rfl rfl rfl ?_
    refine O_not rfl rfl rfl rfl rfl ?_
    refine R_nil ?_
    refine tn ?_
    refine F_true rfl rfl ?_
    refine F_seq ?_
    refine F_region (p := ⟨_, [2, 0, 2, 0], []⟩) rfl [0, 1, 2, 3] rfl ?_
    refine O_call rfl rfl rfl rfl Try.call74 rfl (New_ib hS) (fun _ _ hv => trivial) ?_
    rintro _ w ⟨rk, rfl, hS⟩
    replace hS : Sat w0 (blks [(sb, .cells #[.pointer (some ⟨rb, 0, none⟩)] 94 (0, 0))] * (rackP E_ib O_ib rk [] * (rackP E_sc O_sc rb (mapv Prod.fst M) * (bigS (cameP E_ib O_ib 103) M * R)))) w := hS.to (by ac_rfl)
    refine O_build rfl rfl rfl rfl rfl (run_buildS [_, _] Try.zeroValue103 Try.runUnderlying103 (fun _ => 1) ⟨Try.sizeOf3, Try.sizeOf101, trivial⟩ rfl) ?_
    refine O_boxS hS rfl rfl rfl rfl rfl (fun _ _ hv => trivial) ?_
    intro b1 w hS
    refine O_assign rfl rfl rfl rfl rfl ?_
    refine R_nil ?_
    refine tn ?_
    refine F_region (p := ⟨_, [0, 0, 0, 1, 0, 0, 2], []⟩) rfl [0, 1, 2, 3, 4, 5, 6] rfl ?_
    refine O_move rfl rfl rfl rfl rfl ?_
    refine O_nilCheck rfl rfl rfl rfl rfl ?_
    refine O_fieldAddr rfl rfl rfl rfl rfl Try.runUnderlying94 rfl Try.sizeOf89 ?_
    refine O_loadS hS rfl rfl rfl rfl rfl Try.isAgg89 (by repeat (first | exact .here rfl | apply CellAt.there)) (by trivial) ?_
    refine O_move rfl rfl rfl rfl rfl ?_
    refine O_move rfl rfl rfl rfl rfl ?_
    replace hS : Sat w0 (rackP E_sc O_sc rb (mapv Prod.fst M) * (blks [(b1, .cells #[.int .i64 0, .pointer (some ⟨rk, 0, none⟩)] 103 (0, 0)), (sb, .cells #[.pointer (some ⟨rb, 0, none⟩)] 94 (0, 0))] * (rackP E_ib O_ib rk [] * (bigS (cameP E_ib O_ib 103) M * R)))) w := hS.to (by simp only [blks]; ac_rfl)
    refine O_call rfl rfl rfl rfl Try.call75 rfl (Put_sc name b1 (by rw [len_mapv]; omega) hS) (fun _ _ hv => trivial) ?_
    rintro _ w ⟨_, hS⟩
    refine R_nil ?_
    refine tn ?_
    refine F_seq ?_
    refine F_region (p := ⟨_, [0, 0], []⟩) rfl [0, 1] rfl ?_
    refine O_move rfl rfl rfl rfl rfl ?_
    refine O_assign rfl rfl rfl rfl rfl ?_
    refine R_nil ?_
    refine tn ?_
    refine F_ret ?_
    have hcame := came_mk (hS.to (B := blks [(b1, .cells #[.int .i64 0, .pointer (some ⟨rk, 0, none⟩)] 103 (0, 0))] * (rackP E_ib O_ib rk [] * (blks [(sb, .cells #[.pointer (some ⟨rb, 0, none⟩)] 94 (0, 0))] * (rackP E_sc O_sc rb (ins O_sc name b1 (mapv Prod.fst M)) * (bigS (cameP E_ib O_ib 103) M * R))))) (by simp only [blks]; ac_rfl))
    have hfin : Sat w0 (blks [(sb, .cells #[.pointer (some ⟨rb, 0, none⟩)] 94 (0, 0))] * (rackP E_sc O_sc rb (mapv Prod.fst (ins O_sc name (b1, ((0 : Int), ([] : List (Int × Bool)))) M)) * (bigS (cameP E_ib O_ib 103) (ins O_sc name (b1, ((0 : Int), ([] : List (Int × Bool)))) M) * R))) w := hcame.to (by rw [ins_mapv, bigS_ins, del_none hg]; ac_rfl)
    clear hcame
    replace hS := hfin
    show endF _ _ _ _ _ _
    refine end0 trivial rfl rfl rfl hS ?_
    intro w hS
    exact ⟨rb, b1, _, (0, []), rfl, by rw [hgL]; rfl, by rw [ins_mapv, hM], get_ins, hS⟩
  | some x =>
    obtain ⟨cb, d⟩ := x
    rw [hg] at hgL hgB
    refine enterF (args := [_, _]) Try.func54 rfl Try.ntmps54 rfl rfl ?_
    refine F_seq ?_
    refine F_region (p := ⟨_, [0], []⟩) rfl [0] rfl ?_
    refine O_assign rfl rfl rfl rfl rfl ?_
    refine R_nil ?_
    refine tn ?_
    refine F_seq ?_
    refine F_region (p := ⟨_, [0, 0, 0, 1, 0, 2, 0, 0, 0, 0, 0], []⟩) rfl [0, 1, 2, 3, 4, 5, 6, 7, 8, 9, 10] rfl ?_
    refine O_move rfl rfl rfl rfl rfl ?_
    refine O_nilCheck rfl rfl rfl rfl rfl ?_
    refine O_fieldAddr rfl rfl rfl rfl rfl Try.runUnderlying94 rfl Try.sizeOf89 ?_
    refine O_loadS hS rfl rfl rfl rfl rfl Try.isAgg89 (by repeat (first | exact .here rfl | apply CellAt.there)) (by trivial) ?_
    refine O_move rfl rfl rfl rfl rfl ?_
    refine O_call rfl rfl rfl rfl Try.call64 rfl (Get_sc name hS.b2) (fun _ _ hv => trivial) ?_
    rintro _ w ⟨rfl, hS⟩
    replace hS := hS.b2
    rw [hgB]
    refine O_move rfl rfl rfl rfl rfl ?_
    refine O_extract rfl rfl rfl rfl rfl rfl ?_
    refine O_extract rfl rfl rfl rfl rfl rfl ?_
    refine O_assign rfl rfl rfl rfl rfl ?_
    refine O_assign rfl rfl rfl rfl rfl ?_
    refine R_nil ?_
    refine tn ?_
    refine F_seq ?_
    refine F_seq ?_
    refine F_region (p := ⟨_, [0, 0], []⟩) rfl [0, 1] rfl ?_
    refine O_move rfl rfl rfl rfl rfl ?_
    refine O_not rfl rfl rfl rfl rfl ?_
    refine R_nil ?_
    refine tn ?_
    refine F_false rfl rfl ?_
    refine F_skip ?_
    refine tn ?_
    refine F_seq ?_
    refine F_region (p := ⟨_, [0, 0], []⟩) rfl [0, 1] rfl ?_
    refine O_move rfl rfl rfl rfl rfl ?_
    refine O_assign rfl rfl rfl rfl rfl ?_
    refine R_nil ?_
    refine tn ?_
    refine F_ret ?_
    show endF _ _ _ _ _ _
    refine end0 trivial rfl rfl rfl hS ?_
    intro w hS
    exact ⟨rb, cb, M, d, rfl, by rw [hgL]; rfl, by rw [ins_self (by rw [hgL]; rfl)]; exact hM, hg, hS⟩
theorem seenNote {w0 w : World} {R : HProp} {sb : Nat} {L : List (ByteArray × (Int × List (Int × Bool)))} (hb : L.length ≤ 1000) (hb2 : ∀ x ∈ L, x.2.2.length ≤ 1000) (name : ByteArray) (seq : Int) (hS : Sat w0 (seenP E_sc O_sc E_ib O_ib 94 103 sb L * R) w) :
    Calls Try.prog 28 #[.pointer (some ⟨sb, 0, none⟩), .string name, .int .i64 seq] w (ret fun u w' => u = .int .i64 (canS O_sc O_ib name seq L) ∧ Sat w0 (seenP E_sc O_sc E_ib O_ib 94 103 sb (if canS O_sc O_ib name seq L = 0 then noteS O_sc O_ib name seq L else L) * R) w') := by
  by_cases hz : canS O_sc O_ib name seq L = 0
  ·
    refine enterF (args := [_, _, _]) Try.func28 rfl Try.ntmps28 rfl rfl ?_
    refine F_seq ?_
    refine F_region (p := ⟨_, [0], []⟩) rfl [0] rfl ?_
    refine O_assign rfl rfl rfl rfl rfl ?_
    refine R_nil ?_
    refine tn ?_
    refine F_seq ?_
    refine F_seq ?_
    refine F_region (p := ⟨_, [0, 0, 0, 2, 0], []⟩) rfl [0, 1, 2, 3, 4] rfl ?_
    refine O_move rfl rfl rfl rfl rfl ?_
    refine O_move rfl rfl rfl rfl rfl ?_
    refine O_move rfl rfl rfl rfl rfl ?_
    refine O_call rfl rfl rfl rfl Try.call49 rfl (seenCan name seq hS) (fun _ _ hv => trivial) ?_
    rintro _ w ⟨rfl, hS⟩
    refine O_assign rfl rfl rfl rfl rfl ?_
    refine R_nil ?_
    refine tn ?_
    refine F_seq ?_
    refine F_region (p := ⟨_, [0, 0], []⟩) rfl [0, 1] rfl ?_
    refine O_move rfl rfl rfl rfl rfl ?_
    refine O_cmp rfl rfl rfl rfl rfl rfl rfl ?_
    refine R_nil ?_
    refine tn ?_
    refine F_false rfl (congrArg Bool.not (decide_eq_true hz)) ?_
    refine F_skip ?_
    refine tn ?_
    refine F_seq ?_
    refine F_region (p := ⟨_, [0, 0, 2, 0], []⟩) rfl [0, 1, 2, 3] rfl ?_
    refine O_move rfl rfl rfl rfl rfl ?_
    refine O_move rfl rfl rfl rfl rfl ?_
    refine O_call rfl rfl rfl rfl Try.call54 rfl (seenOf (by omega) name hS) (fun _ _ hv => trivial) ?_
    rintro _ w ⟨rb, cb, M, d, rfl, hd, hM, hg, hS⟩
    have hdl : d.2.length ≤ 1000 := by
      rw [hd]
      cases hgl : Go.Sl.get O_sc name L with
      | none => simp
      | some d0 => obtain ⟨y, hy, hyd⟩ := get_mem hgl; have := hb2 y hy; rw [hyd] at this; simpa using this
    have hil : (ins O_ib seq true d.2).length ≤ d.2.length + 1 := ins_len_le
    have hclose : ∀ d' w', Sat w0 (cameP E_ib O_ib 103 cb d' * (blks [(sb, .cells #[.pointer (some ⟨rb, 0, none⟩)] 94 (0, 0))] * (rackP E_sc O_sc rb (mapv Prod.fst M) * (bigS (cameP E_ib O_ib 103) (del O_sc name M) * R)))) w' → d' = noteD O_ib seq d → Sat w0 (seenP E_sc O_sc E_ib O_ib 94 103 sb (noteS O_sc O_ib name seq L) * R) w' := by
      intro d' w' h' hd'
      refine seen_mk (rb := rb) (M := ins O_sc name (cb, d') M) ?_ ?_
      · rw [ins_mapv, hM, ins_ins, hd', hd]; rfl
      · rw [ins_mapv, ins_self (by rw [get_mapv, hg]; rfl), bigS_ins]
        exact h'.to (by ac_rfl)
    rw [bigS_get hg] at hS
    obtain ⟨rk, hS⟩ := came_open (hS.to (B := cameP E_ib O_ib 103 cb d * (blks [(sb, .cells #[.pointer (some ⟨rb, 0, none⟩)] 94 (0, 0))] * (rackP E_sc O_sc rb (mapv Prod.fst M) * (bigS (cameP E_ib O_ib 103) (del O_sc name M) * R)))) (by ac_rfl))
    replace hS : Sat w0 (blks [(cb, .cells #[.int .i64 d.1, .pointer (some ⟨rk, 0, none⟩)] 103 (0, 0)), (sb, .cells #[.pointer (some ⟨rb, 0, none⟩)] 94 (0, 0))] * (rackP E_ib O_ib rk d.2 * (rackP E_sc O_sc rb (mapv Prod.fst M) * (bigS (cameP E_ib O_ib 103) (del O_sc name M) * R)))) w := hS.to (by simp only [blks]; ac_rfl)
    refine O_assign rfl rfl rfl rfl rfl ?_
    refine R_nil ?_
    refine tn ?_
    refine F_seq ?_
    refine F_region (p := ⟨_, [0, 0, 0, 1, 0, 2], []⟩) rfl [0, 1, 2, 3, 4, 5] rfl ?_
    refine O_move rfl rfl rfl rfl rfl ?_
    refine O_nilCheck rfl rfl rfl rfl rfl ?_
    refine O_fieldAddr rfl rfl rfl rfl rfl Try.runUnderlying103 rfl Try.sizeOf101 ?_
    refine O_loadS hS rfl rfl rfl rfl rfl Try.isAgg101 (by repeat (first | exact .here rfl | apply CellAt.there)) (by trivial) ?_
    refine O_move rfl rfl rfl rfl rfl ?_
    refine O_call rfl rfl rfl rfl Try.call55 rfl (Put_ib seq true (by omega) hS.b2) (fun _ _ hv => trivial) ?_
    rintro _ w ⟨rfl, hS⟩
    replace hS := hS.b2
    refine R_nil ?_
    refine tn ?_
    refine F_seq ?_
    refine F_seq ?_
    refine F_region (p := ⟨_, [0, 0, 0, 1, 2, 0], []⟩) rfl [0, 1, 2, 3, 4, 5] rfl ?_
    refine O_move rfl rfl rfl rfl rfl ?_
    refine O_nilCheck rfl rfl rfl rfl rfl ?_
    refine O_fieldAddr rfl rfl rfl rfl rfl Try.runUnderlying103 rfl Try.sizeOf101 ?_
    refine O_loadS hS rfl rfl rfl rfl rfl Try.isAgg101 (by repeat (first | exact .here rfl | apply CellAt.there)) (by trivial) ?_
    refine O_call rfl rfl rfl rfl Try.call56 rfl (Len_ib hS.b2) (fun _ _ hv => trivial) ?_
    rintro _ w ⟨rfl, hS⟩
    replace hS := hS.b2
    by_cases h32 : 32 < ((ins O_ib seq true d.2).length : Int)
    · obtain ⟨x0, xs, hin⟩ : ∃ x0 xs, ins O_ib seq true d.2 = x0 :: xs := by
        cases hin : ins O_ib seq true d.2 with
        | nil => rw [hin] at h32; simp at h32
        | cons x0 xs => exact ⟨x0, xs, rfl⟩
      have hnd : (x0.1, xs) = noteD O_ib seq d := by unfold noteD trimD; simp only; rw [if_pos h32, hin]
      rw [hin] at hS hil
      refine O_cmp rfl rfl rfl rfl rfl rfl rfl ?_
      refine R_nil ?_
      refine tn ?_
      refine F_true rfl (decide_eq_true (by omega)) ?_
      refine F_seq ?_
      refine F_region (p := ⟨_, [0, 0, 0, 0, 1, 2, 0, 0, 0, 0, 0, 0, 2], []⟩) rfl [0, 1, 2, 3, 4, 5, 6, 7, 8, 9, 10, 11, 12] rfl ?_
      refine O_move rfl rfl rfl rfl rfl ?_
      refine O_move rfl rfl rfl rfl rfl ?_
      refine O_nilCheck rfl rfl rfl rfl rfl ?_
      refine O_fieldAddr rfl rfl rfl rfl rfl Try.runUnderlying103 rfl Try.sizeOf101 ?_
      refine O_loadS hS rfl rfl rfl rfl rfl Try.isAgg101 (by repeat (first | exact .here rfl | apply CellAt.there)) (by trivial) ?_
      refine O_call rfl rfl rfl rfl Try.call57 rfl (At0_ib hS.b2) (fun _ _ hv => trivial) ?_
      rintro _ w ⟨rfl, hS⟩
      replace hS := hS.b2
      refine O_move rfl rfl rfl rfl rfl ?_
      refine O_extract rfl rfl rfl rfl rfl rfl ?_
      refine O_extract rfl rfl rfl rfl rfl rfl ?_
      refine O_extract rfl rfl rfl rfl rfl rfl ?_
      refine O_nilCheck rfl rfl rfl rfl rfl ?_
      refine O_fieldAddr rfl rfl rfl rfl rfl Try.runUnderlying103 rfl Try.sizeOf3 ?_
      refine O_storeS hS rfl rfl rfl rfl rfl rfl rfl Try.sizeOf3 (by repeat (first | exact .here rfl rfl | apply SetAt.there)) (fun w' hv => trivial) ?_
      intro w hS
      refine R_nil ?_
      refine tn ?_
      refine F_drawnS hS (by kernel_rfl) (p := ⟨_, [0, 0, 0, 1, 0, 0, 0, 1, 2], []⟩) rfl (.ofList [0, 1, 2, 3, 4, 5, 6, 7, 8]) (by kernel_rfl) ?_
      intro w hS
      refine O_move rfl rfl rfl rfl rfl ?_
      refine O_nilCheck rfl rfl rfl rfl rfl ?_
      refine O_fieldAddr rfl rfl rfl rfl rfl Try.runUnderlying103 rfl Try.sizeOf101 ?_
      refine O_loadS hS rfl rfl rfl rfl rfl Try.isAgg101 (by repeat (first | exact .here rfl | apply CellAt.there)) (by trivial) ?_
      refine O_move rfl rfl rfl rfl rfl ?_
      refine O_nilCheck rfl rfl rfl rfl rfl ?_
      refine O_fieldAddr rfl rfl rfl rfl rfl Try.runUnderlying103 rfl Try.sizeOf3 ?_
      refine O_loadS hS rfl rfl rfl rfl rfl Try.isAgg3 (by repeat (first | exact .here rfl | apply CellAt.there)) (by trivial) ?_
      replace hS : Sat w0 (blks [(cb, .cells #[.int .i64 x0.1, .pointer (some ⟨rk, 0, none⟩)] 103 (0, 0)), (sb, .cells #[.pointer (some ⟨rb, 0, none⟩)] 94 (0, 0))] * (rackP E_ib O_ib rk (x0 :: xs) * (rackP E_sc O_sc rb (mapv Prod.fst M) * (bigS (cameP E_ib O_ib 103) (del O_sc name M) * R)))) w := hS
      refine O_call rfl rfl rfl rfl Try.call58 rfl (Drop_ib x0.1 (by omega) hS.b2) (fun _ _ hv => trivial) ?_
      rintro _ w ⟨_, hS⟩
      replace hS := hS.b2
      rw [del_head] at hS
      refine R_nil ?_
      refine tn ?_
      refine F_seq ?_
      refine F_region (p := ⟨_, [0], []⟩) rfl [0] rfl ?_
      refine O_assign rfl rfl rfl rfl rfl ?_
      refine R_nil ?_
      refine tn ?_
      refine F_ret ?_
      have hc2 := hclose _ w (came_mk (hS.to (B := blks [(cb, .cells #[.int .i64 x0.1, .pointer (some ⟨rk, 0, none⟩)] 103 (0, 0))] * (rackP E_ib O_ib rk xs * (blks [(sb, .cells #[.pointer (some ⟨rb, 0, none⟩)] 94 (0, 0))] * (rackP E_sc O_sc rb (mapv Prod.fst M) * (bigS (cameP E_ib O_ib 103) (del O_sc name M) * R))))) (by simp only [blks]; ac_rfl))) hnd
      clear hS
      have hS := hc2
      show endF _ _ _ _ _ _
      refine end0 trivial rfl rfl rfl hS ?_
      intro w hS
      exact ⟨by rw [hz]; rfl, by rw [if_pos hz]; exact hS⟩
    · have hnd : (d.1, ins O_ib seq true d.2) = noteD O_ib seq d := by unfold noteD trimD; simp only; rw [if_neg h32]
      refine O_cmp rfl rfl rfl rfl rfl rfl rfl ?_
      refine R_nil ?_
      refine tn ?_
      refine F_false rfl (decide_eq_false (by omega)) ?_
      refine F_skip ?_
      refine tn ?_
      refine F_seq ?_
      refine F_region (p := ⟨_, [0], []⟩) rfl [0] rfl ?_
      refine O_assign rfl rfl rfl rfl rfl ?_
      refine R_nil ?_
      refine tn ?_
      refine F_ret ?_
      have hc2 := hclose _ w (came_mk (hS.to (B := blks [(cb, .cells #[.int .i64 d.1, .pointer (some ⟨rk, 0, none⟩)] 103 (0, 0))] * (rackP E_ib O_ib rk (ins O_ib seq true d.2) * (blks [(sb, .cells #[.pointer (some ⟨rb, 0, none⟩)] 94 (0, 0))] * (rackP E_sc O_sc rb (mapv Prod.fst M) * (bigS (cameP E_ib O_ib 103) (del O_sc name M) * R))))) (by simp only [blks]; ac_rfl))) hnd
      clear hS
      have hS := hc2
      show endF _ _ _ _ _ _
      refine end0 trivial rfl rfl rfl hS ?_
      intro w hS
      exact ⟨by rw [hz]; rfl, by rw [if_pos hz]; exact hS⟩
  ·
    refine enterF (args := [_, _, _]) Try.func28 rfl Try.ntmps28 rfl rfl ?_
    refine F_seq ?_
    refine F_region (p := ⟨_, [0], []⟩) rfl [0] rfl ?_
    refine O_assign rfl rfl rfl rfl rfl ?_
    refine R_nil ?_
    refine tn ?_
    refine F_seq ?_
    refine F_seq ?_
    refine F_region (p := ⟨_, [0, 0, 0, 2, 0], []⟩) rfl [0, 1, 2, 3, 4] rfl ?_
    refine O_move rfl rfl rfl rfl rfl ?_
    refine O_move rfl rfl rfl rfl rfl ?_
    refine O_move rfl rfl rfl rfl rfl ?_
    refine O_call rfl rfl rfl rfl Try.call49 rfl (seenCan name seq hS) (fun _ _ hv => trivial) ?_
    rintro _ w ⟨rfl, hS⟩
    refine O_assign rfl rfl rfl rfl rfl ?_
    refine R_nil ?_
    refine tn ?_
    refine F_seq ?_
    refine F_region (p := ⟨_, [0, 0], []⟩) rfl [0, 1] rfl ?_
    refine O_move rfl rfl rfl rfl rfl ?_
    refine O_cmp rfl rfl rfl rfl rfl rfl rfl ?_
    refine R_nil ?_
    refine tn ?_
    refine F_true rfl (congrArg Bool.not (decide_eq_false hz)) ?_
    refine F_seq ?_
    refine F_region (p := ⟨_, [0, 0], []⟩) rfl [0, 1] rfl ?_
    refine O_move rfl rfl rfl rfl rfl ?_
    refine O_assign rfl rfl rfl rfl rfl ?_
    refine R_nil ?_
    refine tn ?_
    refine F_ret ?_
    refine tr ?_
    show endF _ _ _ _ _ _
    refine end0 trivial rfl rfl rfl hS ?_
    intro w hS
    exact ⟨rfl, by rw [if_neg hz]; exact hS⟩
theorem seenAwake {w0 w : World} {R : HProp} (hS : Sat w0 R w) : Calls Try.prog 25 #[] w (ret fun u w' => u = .bool true ∧ Sat w0 R w') := by
  have e1 : canS O_sc O_ib ⟨#[119, 101, 98]⟩ 3 [] = 0 := by decide
  have e2 : canS O_sc O_ib ⟨#[119, 101, 98]⟩ 1 (noteS O_sc O_ib ⟨#[119, 101, 98]⟩ 3 []) = 0 := by decide
  have e3 : canS O_sc O_ib ⟨#[119, 101, 98]⟩ 2 (noteS O_sc O_ib ⟨#[119, 101, 98]⟩ 1 (noteS O_sc O_ib ⟨#[119, 101, 98]⟩ 3 [])) = 0 := by decide
  have e4 : canS O_sc O_ib ⟨#[119, 101, 98]⟩ 1 (noteS O_sc O_ib ⟨#[119, 101, 98]⟩ 1 (noteS O_sc O_ib ⟨#[119, 101, 98]⟩ 3 [])) = 13 := by decide
  refine enterF (args := []) Try.func25 rfl Try.ntmps25 rfl rfl ?_
  refine F_seq ?_
  refine F_region (p := ⟨_, [0], []⟩) rfl [0] rfl ?_
  refine O_assign rfl rfl rfl rfl rfl ?_
  refine R_nil ?_
  refine tn ?_
  refine F_seq ?_
  refine F_region (p := ⟨_, [2, 0], []⟩) rfl [0, 1] rfl ?_
  refine O_call rfl rfl rfl rfl Try.call24 rfl (seenNew hS) (fun _ _ hv => trivial) ?_
  rintro _ w ⟨sb, rfl, hS⟩
  refine O_assign rfl rfl rfl rfl rfl ?_
  refine R_nil ?_
  refine tn ?_
  refine F_seq ?_
  refine F_region (p := ⟨_, [0, 0, 0, 0, 2, 0, 0, 0, 0, 2, 0, 0, 0, 0, 2, 0, 0, 0, 0, 2, 0, 0, 0], []⟩) rfl [0, 1, 2, 3, 4, 5, 6, 7, 8, 9, 10, 11, 12, 13, 14, 15, 16, 17, 18, 19, 20, 21, 22] rfl ?_
  refine O_move rfl rfl rfl rfl rfl ?_
  refine O_neNil rfl rfl rfl rfl rfl rfl Try.runUnderlying48 ?_
  refine O_move rfl rfl rfl rfl rfl ?_
  refine R_caseT (t := 5) rfl rfl ?_
  refine O_move rfl rfl rfl rfl rfl ?_
  refine O_call rfl rfl rfl rfl Try.call28 rfl (seenNote (by decide) (by decide) ⟨#[119, 101, 98]⟩ 3 hS) (fun _ _ hv => trivial) ?_
  rintro _ w ⟨rfl, hS⟩
  rw [if_pos e1] at hS
  rw [e1]
  refine O_cmp rfl rfl rfl rfl rfl rfl rfl ?_
  refine O_pickT rfl rfl rfl rfl rfl rfl ?_
  refine O_move rfl rfl rfl rfl rfl ?_
  refine R_caseT (t := 10) rfl rfl ?_
  refine O_move rfl rfl rfl rfl rfl ?_
  refine O_call rfl rfl rfl rfl Try.call28 rfl (seenNote (by decide) (by decide) ⟨#[119, 101, 98]⟩ 1 hS) (fun _ _ hv => trivial) ?_
  rintro _ w ⟨rfl, hS⟩
  rw [if_pos e2] at hS
  rw [e2]
  refine O_cmp rfl rfl rfl rfl rfl rfl rfl ?_
  refine O_pickT rfl rfl rfl rfl rfl rfl ?_
  refine O_move rfl rfl rfl rfl rfl ?_
  refine R_caseT (t := 15) rfl rfl ?_
  refine O_move rfl rfl rfl rfl rfl ?_
  refine O_call rfl rfl rfl rfl Try.call49 rfl (seenCan ⟨#[119, 101, 98]⟩ 2 hS) (fun _ _ hv => trivial) ?_
  rintro _ w ⟨rfl, hS⟩
  rw [e3]
  refine O_cmp rfl rfl rfl rfl rfl rfl rfl ?_
  refine O_pickT rfl rfl rfl rfl rfl rfl ?_
  refine O_move rfl rfl rfl rfl rfl ?_
  refine R_caseT (t := 20) rfl rfl ?_
  refine O_move rfl rfl rfl rfl rfl ?_
  refine O_call rfl rfl rfl rfl Try.call49 rfl (seenCan ⟨#[119, 101, 98]⟩ 1 hS) (fun _ _ hv => trivial) ?_
  rintro _ w ⟨rfl, hS⟩
  rw [e4]
  refine O_cmp rfl rfl rfl rfl rfl rfl rfl ?_
  refine O_pickT rfl rfl rfl rfl rfl rfl ?_
  refine O_assign rfl rfl rfl rfl rfl ?_
  refine R_nil ?_
  refine tn ?_
  refine F_ret ?_
  show endF _ _ _ _ _ _
  refine end0 trivial rfl rfl rfl hS ?_
  intro w hS
  exact ⟨rfl, Sat.drop hS⟩
theorem seenAll {w0 w : World} {R : HProp} {a : Value} {name : ByteArray} (ha : ∃ sb, a = .pointer (some ⟨sb, 0, none⟩)) (hS : Sat w0 R w) : Calls Try.prog 35 #[a, .string name] w (ret fun u w' => ∃ b1 b2, u = .func (.func 63) #[] #[.pointer (some ⟨b1, 0, none⟩), .pointer (some ⟨b2, 0, none⟩)] ∧ Sat w0 (blks [(b2, .cells #[.string name] 9 (0, 0)), (b1, .cells #[a] 48 (0, 0))] * R) w') := by
  obtain ⟨sb, rfl⟩ := ha
  replace hS := hS.noblks
  refine enterF (args := [_, _]) Try.func35 rfl Try.ntmps35 rfl rfl ?_
  refine F_seq ?_
  refine F_region (p := ⟨_, [2, 2, 0], []⟩) rfl [0, 1, 2] rfl ?_
  refine O_boxS hS rfl rfl rfl rfl rfl (fun _ _ hv => trivial) ?_
  intro b1 w hS
  refine O_boxS hS rfl rfl rfl rfl rfl (fun _ _ hv => trivial) ?_
  intro b2 w hS
  refine O_assign rfl rfl rfl rfl rfl ?_
  refine R_nil ?_
  refine tn ?_
  refine F_seq ?_
  refine F_region (p := ⟨_, [0, 0], []⟩) rfl [0, 1] rfl ?_
  refine O_makeFunc rfl rfl rfl rfl rfl rfl ?_
  refine O_assign rfl rfl rfl rfl rfl ?_
  refine R_nil ?_
  refine tn ?_
  refine F_ret ?_
  show endF _ _ _ _ _ _
  refine end0 trivial rfl rfl rfl hS ?_
  intro w hS
  exact ⟨_, _, rfl, hS⟩
theorem seen_all_iter {sb b1 b2 : Nat} {name : ByteArray} {L : List (ByteArray × (Int × List (Int × Bool)))} : Iter Try.prog (.func (.func 63) #[] #[.pointer (some ⟨b1, 0, none⟩), .pointer (some ⟨b2, 0, none⟩)]) (blks [(b2, .cells #[.string name] 9 (0, 0)), (b1, .cells #[.pointer (some ⟨sb, 0, none⟩)] 48 (0, 0))] * seenP E_sc O_sc E_ib O_ib 94 103 sb L) (fun x => [E_ii.k x].toArray) (((Go.Sl.get O_sc name L).getD (0, [])).2.map Prod.fst) := by
  intro w0 y J Jx hyf hy R w hS
  obtain ⟨yn, ya, yc, rfl⟩ := hyf
  refine FV.of_list (args := [.func yn ya yc]) (cap := [.pointer (some ⟨b1, 0, none⟩), .pointer (some ⟨b2, 0, none⟩)]) Try.call63 ?_
  obtain ⟨rb, M, hM, hS⟩ := seen_open (hS.to (B := seenP E_sc O_sc E_ib O_ib 94 103 sb L * (blks [(b2, .cells #[.string name] 9 (0, 0)), (b1, .cells #[.pointer (some ⟨sb, 0, none⟩)] 48 (0, 0))] * (J [] * R))) (by ac_rfl))
  have hgL : Go.Sl.get O_sc name L = (Go.Sl.get O_sc name M).map Prod.snd := by rw [← hM, get_mapv]
  have hgB : Go.Sl.get O_sc name (mapv Prod.fst M) = (Go.Sl.get O_sc name M).map Prod.fst := get_mapv
  replace hS : Sat w0 (blks [(b2, .cells #[.string name] 9 (0, 0)), (b1, .cells #[.pointer (some ⟨sb, 0, none⟩)] 48 (0, 0)), (sb, .cells #[.pointer (some ⟨rb, 0, none⟩)] 94 (0, 0))] * (rackP E_sc O_sc rb (mapv Prod.fst M) * (bigS (cameP E_ib O_ib 103) M * (J [] * R)))) w := hS.to (by simp only [blks]; ac_rfl)
  cases hg : Go.Sl.get O_sc name M with
  | none =>
    rw [hg] at hgL hgB
    rw [hgL] at hy ⊢
    simp only [Option.map_none, Option.getD_none, List.map_nil] at hy ⊢
    refine enterF (args := [_, _, _]) Try.func63 rfl Try.ntmps63 rfl rfl ?_
    refine F_seq ?_
    refine F_region (p := ⟨_, [2], []⟩) rfl [0] rfl ?_
    refine O_boxS hS rfl rfl rfl rfl rfl (fun _ _ hv => trivial) ?_
    intro b3 w hS
    refine R_nil ?_
    refine tn ?_
    refine F_seq ?_
    refine F_drawnS hS (by kernel_rfl) (p := ⟨_, [1, 0, 0, 1, 1, 2, 0, 0, 0, 0, 0], []⟩) rfl (.ofList [0, 1, 2, 3, 4, 5, 6, 7, 8, 9, 10]) (by kernel_rfl) ?_
    intro w hS
    refine O_loadS hS rfl rfl rfl rfl rfl Try.isAgg48 (by repeat (first | exact .here rfl | apply CellAt.there)) (by trivial) ?_
    refine O_nilCheck rfl rfl rfl rfl rfl ?_
    refine O_fieldAddr rfl rfl rfl rfl rfl Try.runUnderlying94 rfl Try.sizeOf89 ?_
    refine O_loadS hS rfl rfl rfl rfl rfl Try.isAgg89 (by repeat (first | exact .here rfl | apply CellAt.there)) (by trivial) ?_
    refine O_loadS hS rfl rfl rfl rfl rfl Try.isAgg9 (by repeat (first | exact .here rfl | apply CellAt.there)) (by trivial) ?_
    refine O_call rfl rfl rfl rfl Try.call64 rfl (Get_sc name hS.b2) (fun _ _ hv => trivial) ?_
    rintro _ w ⟨rfl, hS⟩
    replace hS := hS.b2
    rw [hgB]
    refine O_move rfl rfl rfl rfl rfl ?_
    refine O_extract rfl rfl rfl rfl rfl rfl ?_
    refine O_extract rfl rfl rfl rfl rfl rfl ?_
    refine O_assign rfl rfl rfl rfl rfl ?_
    refine O_assign rfl rfl rfl rfl rfl ?_
    refine R_nil ?_
    refine tn ?_
    refine F_seq ?_
    refine F_seq ?_
    refine F_region (p := ⟨_, [0, 0], []⟩) rfl [0, 1] rfl ?_
    refine O_move rfl rfl rfl rfl rfl ?_
    refine O_not rfl rfl rfl rfl rfl ?_
    refine R_nil ?_
    refine tn ?_
    refine F_true rfl rfl ?_
    refine F_ret ?_
    refine tr ?_
    show endF _ _ _ _ _ _
    refine end0 trivial rfl rfl rfl hS ?_
    intro w hS
    have h2 : Sat w0 (seenP E_sc O_sc E_ib O_ib 94 103 sb L * (blks [(b3, .cells #[.func yn ya yc] 72 (0, 0)), (b2, .cells #[.string name] 9 (0, 0)), (b1, .cells #[.pointer (some ⟨sb, 0, none⟩)] 48 (0, 0))] * (J [] * R))) w := seen_mk (rb := rb) hM (hS.to (by simp only [blks]; ac_rfl))
    exact .inl ((Sat.drop (A := blks [(b3, .cells #[.func yn ya yc] 72 (0, 0))]) (h2.to (by simp only [blks]; ac_rfl)) : Sat w0 (blks [(b2, .cells #[.string name] 9 (0, 0)), (b1, .cells #[.pointer (some ⟨sb, 0, none⟩)] 48 (0, 0))] * (seenP E_sc O_sc E_ib O_ib 94 103 sb L * (J [] * R))) w).to (by ac_rfl))
  | some x =>
    obtain ⟨cb, d⟩ := x
    rw [hg] at hgL hgB
    rw [hgL] at hy ⊢
    simp only [Option.map_some, Option.getD_some] at hy ⊢
    rw [bigS_get hg] at hS
    obtain ⟨rk, hS⟩ := came_open (hS.to (B := cameP E_ib O_ib 103 cb d * (blks [(b2, .cells #[.string name] 9 (0, 0)), (b1, .cells #[.pointer (some ⟨sb, 0, none⟩)] 48 (0, 0)), (sb, .cells #[.pointer (some ⟨rb, 0, none⟩)] 94 (0, 0))] * (rackP E_sc O_sc rb (mapv Prod.fst M) * (bigS (cameP E_ib O_ib 103) (del O_sc name M) * (J [] * R))))) (by ac_rfl))
    replace hS : Sat w0 (blks [(cb, .cells #[.int .i64 d.1, .pointer (some ⟨rk, 0, none⟩)] 103 (0, 0)), (b2, .cells #[.string name] 9 (0, 0)), (b1, .cells #[.pointer (some ⟨sb, 0, none⟩)] 48 (0, 0)), (sb, .cells #[.pointer (some ⟨rb, 0, none⟩)] 94 (0, 0))] * (rackP E_sc O_sc rb (mapv Prod.fst M) * (rackP E_ib O_ib rk d.2 * (bigS (cameP E_ib O_ib 103) (del O_sc name M) * (J [] * R))))) w := hS.to (by simp only [blks]; ac_rfl)
    have hclose : ∀ R w', Sat w0 (blks [(cb, .cells #[.int .i64 d.1, .pointer (some ⟨rk, 0, none⟩)] 103 (0, 0)), (sb, .cells #[.pointer (some ⟨rb, 0, none⟩)] 94 (0, 0))] * (rackP E_ib O_ib rk d.2 * (rackP E_sc O_sc rb (mapv Prod.fst M) * (bigS (cameP E_ib O_ib 103) (del O_sc name M) * R)))) w' → Sat w0 (seenP E_sc O_sc E_ib O_ib 94 103 sb L * R) w' := by
      intro R w' h'
      refine seen_mk (rb := rb) hM ?_
      rw [bigS_get hg]
      have h2 := came_mk (h'.to (B := blks [(cb, .cells #[.int .i64 d.1, .pointer (some ⟨rk, 0, none⟩)] 103 (0, 0))] * (rackP E_ib O_ib rk d.2 * (blks [(sb, .cells #[.pointer (some ⟨rb, 0, none⟩)] 94 (0, 0))] * (rackP E_sc O_sc rb (mapv Prod.fst M) * (bigS (cameP E_ib O_ib 103) (del O_sc name M) * R))))) (by simp only [blks]; ac_rfl))
      exact h2.to (by ac_rfl)
    refine enterF (args := [_, _, _]) Try.func63 rfl Try.ntmps63 rfl rfl ?_
    refine F_seq ?_
    refine F_region (p := ⟨_, [2], []⟩) rfl [0] rfl ?_
    refine O_boxS hS rfl rfl rfl rfl rfl (fun _ _ hv => trivial) ?_
    intro b3 w hS
    refine R_nil ?_
    refine tn ?_
    refine F_seq ?_
    refine F_drawnS hS (by kernel_rfl) (p := ⟨_, [1, 0, 0, 1, 1, 2, 0, 0, 0, 0, 0], []⟩) rfl (.ofList [0, 1, 2, 3, 4, 5, 6, 7, 8, 9, 10]) (by kernel_rfl) ?_
    intro w hS
    refine O_loadS hS rfl rfl rfl rfl rfl Try.isAgg48 (by repeat (first | exact .here rfl | apply CellAt.there)) (by trivial) ?_
    refine O_nilCheck rfl rfl rfl rfl rfl ?_
    refine O_fieldAddr rfl rfl rfl rfl rfl Try.runUnderlying94 rfl Try.sizeOf89 ?_
    refine O_loadS hS rfl rfl rfl rfl rfl Try.isAgg89 (by repeat (first | exact .here rfl | apply CellAt.there)) (by trivial) ?_
    refine O_loadS hS rfl rfl rfl rfl rfl Try.isAgg9 (by repeat (first | exact .here rfl | apply CellAt.there)) (by trivial) ?_
    refine O_call rfl rfl rfl rfl Try.call64 rfl (Get_sc name hS.b2) (fun _ _ hv => trivial) ?_
    rintro _ w ⟨rfl, hS⟩
    replace hS := hS.b2
    rw [hgB]
    refine O_move rfl rfl rfl rfl rfl ?_
    refine O_extract rfl rfl rfl rfl rfl rfl ?_
    refine O_extract rfl rfl rfl rfl rfl rfl ?_
    refine O_assign rfl rfl rfl rfl rfl ?_
    refine O_assign rfl rfl rfl rfl rfl ?_
    refine R_nil ?_
    refine tn ?_
    refine F_seq ?_
    refine F_seq ?_
    refine F_region (p := ⟨_, [0, 0], []⟩) rfl [0, 1] rfl ?_
    refine O_move rfl rfl rfl rfl rfl ?_
    refine O_not rfl rfl rfl rfl rfl ?_
    refine R_nil ?_
    refine tn ?_
    refine F_false rfl rfl ?_
    refine F_skip ?_
    refine tn ?_
    refine F_seq ?_
    refine F_region (p := ⟨_, [0, 0, 0, 1, 2], []⟩) rfl [0, 1, 2, 3, 4] rfl ?_
    refine O_move rfl rfl rfl rfl rfl ?_
    refine O_nilCheck rfl rfl rfl rfl rfl ?_
    refine O_fieldAddr rfl rfl rfl rfl rfl Try.runUnderlying103 rfl Try.sizeOf101 ?_
    refine O_loadS hS rfl rfl rfl rfl rfl Try.isAgg101 (by repeat (first | exact .here rfl | apply CellAt.there)) (by trivial) ?_
    refine O_call rfl rfl rfl rfl Try.call65 rfl (All_ib ⟨_, rfl⟩ hS) (fun _ _ hv => trivial) ?_
    rintro _ w ⟨bx, rfl, hS⟩
    replace hS : Sat w0 (pt bx (.cells #[.pointer (some ⟨rk, 0, none⟩)] 101) * (blks [(b3, .cells #[.func yn ya yc] 72 (0, 0)), (cb, .cells #[.int .i64 d.1, .pointer (some ⟨rk, 0, none⟩)] 103 (0, 0)), (b2, .cells #[.string name] 9 (0, 0)), (b1, .cells #[.pointer (some ⟨sb, 0, none⟩)] 48 (0, 0)), (sb, .cells #[.pointer (some ⟨rb, 0, none⟩)] 94 (0, 0))] * (rackP E_sc O_sc rb (mapv Prod.fst M) * (rackP E_ib O_ib rk d.2 * (bigS (cameP E_ib O_ib 103) (del O_sc name M) * (J [] * R)))))) w := hS
    refine R_nil ?_
    refine tn ?_
    refine F_block ?_
    refine F_range (α := Int × Bool) (It := (pt bx (.cells #[.pointer (some ⟨rk, 0, none⟩)] 101) * rackP E_ib O_ib rk d.2)) (gf := 86) (first := #[]) (lb := #[.pointer (some ⟨bx, 0, none⟩)]) rfl Try.call86 (fun x => [E_ib.k x.1, E_ib.v x.2]) (all_ib_iter (rb := rk) (bx := bx) (xs := d.2)) [23, 24] rfl (fun _ => rfl) rfl (fun pre : List (Int × Bool) => blks [(b3, .cells #[.func yn ya yc] 72 (0, 0))] * J (pre.map Prod.fst)) (fun c (pre : List (Int × Bool)) => pur (c = Code.ret) * (blks [(b3, .cells #[.func yn ya yc] 72 (0, 0))] * Jx (pre.map Prod.fst))) (R0 := (blks [(cb, .cells #[.int .i64 d.1, .pointer (some ⟨rk, 0, none⟩)] 103 (0, 0)), (b2, .cells #[.string name] 9 (0, 0)), (b1, .cells #[.pointer (some ⟨sb, 0, none⟩)] 48 (0, 0)), (sb, .cells #[.pointer (some ⟨rb, 0, none⟩)] 94 (0, 0))] * (rackP E_sc O_sc rb (mapv Prod.fst M) * (bigS (cameP E_ib O_ib 103) (del O_sc name M) * R)))) (w0 := w0) ?_ ?_ ?_ ?_
    · exact hS.to (by simp only [blks, List.map_nil]; ac_rfl)
    · clear hS
      intro l pre x post R w hx hS
      obtain ⟨k1, b⟩ := x
      have hmp : (pre ++ [(k1, b)]).map Prod.fst = pre.map Prod.fst ++ [k1] := by simp
      refine F_region (p := ⟨_, [0], []⟩) rfl [0] rfl ?_
      refine O_assign rfl rfl rfl rfl rfl ?_
      refine R_nil ?_
      refine tn ⟨_, hS, ?_⟩
      clear hS
      intro R w hS
      replace hS : Sat w0 (blks [(b3, .cells #[.func yn ya yc] 72 (0, 0))] * (J (pre.map Prod.fst) * R)) w := hS.to (by ac_rfl)
      refine F_block ?_
      refine F_seq ?_
      refine F_region (p := ⟨_, [1, 0, 2, 0], []⟩) rfl [0, 1, 2, 3] rfl ?_
      refine O_loadS hS rfl rfl rfl rfl rfl Try.isAgg72 (by repeat (first | exact .here rfl | apply CellAt.there)) (by trivial) ?_
      refine O_move rfl rfl rfl rfl rfl ?_
      have hQ : Sat w0 (J (pre.map Prod.fst) * (blks [(b3, .cells #[.func yn ya yc] 72 (0, 0))] * R)) w := hS.b2
      refine O_callv rfl rfl rfl rfl rfl rfl (hy _ k1 (post.map Prod.fst) _ _ (by rw [hx]; simp) hQ) (fun _ _ hv => trivial) ?_
      rintro _ w (⟨rfl, hS⟩ | ⟨rfl, hS⟩)
      · replace hS := hS.b2
        refine O_not rfl rfl rfl rfl rfl ?_
        refine R_nil ?_
        refine tn ?_
        refine F_false rfl rfl ?_
        refine F_skip ?_
        refine bn ?_
        show Sat w0 ((blks [(b3, .cells #[.func yn ya yc] 72 (0, 0))] * J ((pre ++ [(k1, b)]).map Prod.fst)) * R) w
        rw [hmp]
        exact hS.to (by ac_rfl)
      · replace hS := hS.b2
        refine O_not rfl rfl rfl rfl rfl ?_
        refine R_nil ?_
        refine tn ?_
        refine F_true rfl rfl ?_
        refine F_ret ?_
        refine br ?_
        show Sat w0 ((pur (Code.ret = Code.ret) * (blks [(b3, .cells #[.func yn ya yc] 72 (0, 0))] * Jx ((pre ++ [(k1, b)]).map Prod.fst))) * R) w
        rw [hmp]
        exact (Sat.mkpure (p := Code.ret = Code.ret) rfl hS).to (by ac_rfl)
    · clear hS
      intro D w hS
      refine bn ?_
      show endF _ _ _ _ _ _
      refine end_sl (w0 := w0) (A := blks [(cb, .cells #[.int .i64 d.1, .pointer (some ⟨rk, 0, none⟩)] 103 (0, 0)), (sb, .cells #[.pointer (some ⟨rb, 0, none⟩)] 94 (0, 0))] * (rackP E_ib O_ib rk d.2 * (rackP E_sc O_sc rb (mapv Prod.fst M) * (bigS (cameP E_ib O_ib 103) (del O_sc name M) * (blks [(b2, .cells #[.string name] 9 (0, 0)), (b1, .cells #[.pointer (some ⟨sb, 0, none⟩)] 48 (0, 0))] * (J (d.2.map Prod.fst) * R)))))) trivial rfl rfl ?_ ?_
      · exact marks1 (D := D) (Sat.drop (A := blks [(b3, .cells #[.func yn ya yc] 72 (0, 0))] * pt bx (.cells #[.pointer (some ⟨rk, 0, none⟩)] 101)) (hS.to (by simp only [blks]; ac_rfl)))
      · intro w hS; exact .inl ((hclose _ _ hS).to (by ac_rfl))
    · clear hS
      intro D c pre w hp hS
      obtain ⟨hc, hS2⟩ := Sat.pure (p := c = Code.ret) (R := blks [(b3, .cells #[.func yn ya yc] 72 (0, 0))] * (Jx (pre.map Prod.fst) * (pt D (.deferred (some [])) * ((pt bx (.cells #[.pointer (some ⟨rk, 0, none⟩)] 101) * rackP E_ib O_ib rk d.2) * (blks [(cb, .cells #[.int .i64 d.1, .pointer (some ⟨rk, 0, none⟩)] 103 (0, 0)), (b2, .cells #[.string name] 9 (0, 0)), (b1, .cells #[.pointer (some ⟨sb, 0, none⟩)] 48 (0, 0)), (sb, .cells #[.pointer (some ⟨rb, 0, none⟩)] 94 (0, 0))] * (rackP E_sc O_sc rb (mapv Prod.fst M) * (bigS (cameP E_ib O_ib 103) (del O_sc name M) * R))))))) (hS.to (by ac_rfl))
      clear hS
      subst hc
      have hS := hS2
      refine F_ret ?_
      refine br ?_
      show endF _ _ _ _ _ _
      refine end_sl (w0 := w0) (A := blks [(cb, .cells #[.int .i64 d.1, .pointer (some ⟨rk, 0, none⟩)] 103 (0, 0)), (sb, .cells #[.pointer (some ⟨rb, 0, none⟩)] 94 (0, 0))] * (rackP E_ib O_ib rk d.2 * (rackP E_sc O_sc rb (mapv Prod.fst M) * (bigS (cameP E_ib O_ib 103) (del O_sc name M) * (blks [(b2, .cells #[.string name] 9 (0, 0)), (b1, .cells #[.pointer (some ⟨sb, 0, none⟩)] 48 (0, 0))] * (Jx (pre.map Prod.fst) * R)))))) trivial rfl rfl ?_ ?_
      · exact marks1 (D := D) (Sat.drop (A := blks [(b3, .cells #[.func yn ya yc] 72 (0, 0))] * pt bx (.cells #[.pointer (some ⟨rk, 0, none⟩)] 101)) (hS.to (by simp only [blks]; ac_rfl)))
      · intro w hS; obtain ⟨q, hq⟩ := hp; exact .inr ⟨pre.map Prod.fst, ⟨q.map Prod.fst, by rw [← hq]; simp⟩, (hclose _ _ hS).to (by ac_rfl)⟩
end Go.Proofs.Ytpnigaoibhogfaa
