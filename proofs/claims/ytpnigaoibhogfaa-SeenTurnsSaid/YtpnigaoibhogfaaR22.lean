/- YtpnigaoibhogfaaR22: a part of the proof: walks over the translated code, and plain facts on lists beside. -/
import Derived.Test.YtpnigaoibhogfaaR20
import Derived.Test.YtpnigaoibhogfaaSlTurns
set_option linter.all false
namespace Go.Proofs.Ytpnigaoibhogfaa
open Go Go.RowKit Go.Sl
set_option linter.unusedVariables false
theorem info_act : (Try.prog.info? 53).map (fun i => (i.zero, i.size, i.bytes)) = some (some (.agg #[.string ⟨#[]⟩, .int .i64 0]), 2, 24) := by kernel_rfl
theorem seenTurns_walk {w0 w : World} {R A : HProp} {a1 : Option Addr} {c1 : Nat} {acts : List (ByteArray × Int)} {q : Int} (hq : 0 ≤ q ∧ q ≤ 255) (hA : Rds A a1 (acts.flatMap actE)) (hn : ∀ a ∈ acts, a.1.size ≤ 9223372036854775807) (hS : Sat w0 (A * R) w) :
    Calls Try.prog 6 #[.slice a1 acts.length c1, .int .u8 q] w (ret fun u w' => u = .bool true ∧ Sat w0 (A * R) w') := by
  replace hS := hS.noblks
  refine enterF (args := [_, _]) Try.func6 rfl Try.ntmps6 rfl rfl ?_
  refine F_seq ?_
  refine F_region (p := ⟨_, [0], []⟩) rfl [0] rfl ?_
  refine O_assign rfl rfl rfl rfl rfl ?_
  refine R_nil ?_
  refine tn ?_
  refine F_seq ?_
  refine F_region (p := ⟨_, [2, 2, 0, 0], []⟩) rfl [0, 1, 2, 3] rfl ?_
  refine O_call rfl rfl rfl rfl Try.call24 rfl (seenNew (hS)) (fun _ _ hv => trivial) ?_
  rintro _ w ⟨sa, rfl, hS⟩
  replace hS := hS.u2
  refine O_call rfl rfl rfl rfl Try.call24 rfl (seenNew (hS)) (fun _ _ hv => trivial) ?_
  rintro _ w ⟨sb, rfl, hS⟩
  replace hS := hS.u2
  refine O_assign rfl rfl rfl rfl rfl ?_
  refine O_assign rfl rfl rfl rfl rfl ?_
  refine R_nil ?_
  refine tn ?_
  refine F_seq ?_
  refine F_seq ?_
  refine F_region (p := ⟨_, [2, 0, 0, 0, 0, 0, 0, 0, 0, 0, 0, 0, 0, 0, 0], []⟩) rfl [0, 1, 2, 3, 4, 5, 6, 7, 8, 9, 10, 11, 12, 13, 14] rfl ?_
  refine O_call rfl rfl rfl rfl Try.call25 rfl (seenAwake (hS)) (fun _ _ hv => trivial) ?_
  rintro _ w ⟨rfl, hS⟩
  refine O_not rfl rfl rfl rfl rfl ?_
  refine O_move rfl rfl rfl rfl rfl ?_
  refine O_move rfl rfl rfl rfl rfl ?_
  refine O_eqNil rfl rfl rfl rfl rfl rfl Try.runUnderlying48 ?_
  refine O_pickF rfl rfl rfl rfl rfl rfl ?_
  refine O_move rfl rfl rfl rfl rfl ?_
  refine R_caseF (t := 20) rfl rfl ?_
  refine O_move rfl rfl rfl rfl rfl ?_
  refine O_eqNil rfl rfl rfl rfl rfl rfl Try.runUnderlying48 ?_
  refine O_pickF rfl rfl rfl rfl rfl rfl ?_
  refine O_move rfl rfl rfl rfl rfl ?_
  refine R_caseF (t := 24) rfl rfl ?_
  refine O_move rfl rfl rfl rfl rfl ?_
  refine O_lenSl rfl rfl rfl rfl rfl Try.runUnderlying47 ?_
  refine O_cmp rfl rfl rfl rfl rfl rfl rfl ?_
  refine O_pickF rfl rfl rfl rfl rfl rfl ?_
  refine R_nil ?_
  refine tn ?_
  refine F_cond rfl (fun h28 => ?_) (fun h28 => ?_)
  · try simp only [decide_eq_true_eq, decide_eq_false_iff_not, Bool.not_eq_true', Bool.not_eq_false', Bool.not_true, Bool.not_false, Option.isNone_iff_eq_none, Bool.false_eq_true, Bool.true_eq_false] at h28
    refine F_seq ?_
    refine F_region (p := ⟨_, [2, 0], []⟩) rfl [0, 1] rfl ?_
    refine O_call rfl rfl rfl rfl Try.call25 rfl (seenAwake (hS)) (fun _ _ hv => trivial) ?_
    rintro _ w ⟨rfl, hS⟩
    refine O_assign rfl rfl rfl rfl rfl ?_
    refine R_nil ?_
    refine tn ?_
    refine F_ret ?_
    refine tr ?_
    show endF _ _ _ _ _ _
    refine end0 trivial rfl rfl rfl hS ?_
    intro w hS
    replace hS := (hS).drop
    replace hS := (hS).drop
    replace hS := (hS).drop
    exact ⟨rfl, hS⟩
  · try simp only [decide_eq_true_eq, decide_eq_false_iff_not, Bool.not_eq_true', Bool.not_eq_false', Bool.not_true, Bool.not_false, Option.isNone_iff_eq_none, Bool.false_eq_true, Bool.true_eq_false] at h28
    refine F_skip ?_
    refine tn ?_
    refine F_seq ?_
    refine F_region (p := ⟨_, [0], []⟩) rfl [0] rfl ?_
    refine O_assign rfl rfl rfl rfl rfl ?_
    refine R_nil ?_
    refine tn ?_
    refine F_seq ?_
    refine F_seq ?_
    refine F_region (p := ⟨_, [0, 0, 0], []⟩) rfl [0, 1, 2] rfl ?_
    refine O_move rfl rfl rfl rfl rfl ?_
    refine O_lenSl rfl rfl rfl rfl rfl Try.runUnderlying47 ?_
    refine O_move rfl rfl rfl rfl rfl ?_
    refine R_nil ?_
    refine tn ?_
    refine F_block ?_
    replace hS := hS.u3
    replace hS := turn_mk (own := []) (N := 0) (e := 53) (v := .slice none 0 0) acc_nil (by simp) (by simp) (Nat.le_refl _) ((sl_nil (e := 53) (size := 2) hS).u2)
    replace hS := hS.u2
    refine F_loopL (α := (ByteArray × Int)) (σ := (Value)) (acts) [(1, _), (4, _), (5, _), (6, _), (30, _), (31, _)] (fun (pre : List (ByteArray × Int)) (st : Value) => [(7, st), (32, (.int .i64 (pre.length : Nat)))]) (fun (pre : List (ByteArray × Int)) (st : Value) => turnP E_sc E_ib O_ib 94 103 53 sa pre.length st) (fun (pre : List (ByteArray × Int)) (st : Value) => True) (.slice none 0 0) (Sup.app ⟨rfl, rfl, rfl, rfl, rfl, rfl, trivial⟩ ⟨rfl, rfl, trivial⟩) (hS.u2) trivial ?_ ?_
    · clear hS
      intro st w hI hS
      replace hS := hS
      refine wpF.sup (L := [(1, _), (4, _), (5, _), (6, _), (30, _), (31, _), (7, _), (32, _)]) ?_ ⟨rfl, rfl, rfl, rfl, rfl, rfl, rfl, rfl, trivial⟩
      replace hS := hS.u2
      replace hS := hS.u2
      obtain ⟨own, ad, c, hacc, hpos, hsz, hlen, rfl, hS⟩ := turn_open hS
      have hl32 : own.length ≤ 32 := by omega
      have hw1 := acc_wf _ rfl hacc
      have hrt := run_turned (O := O_ib) (t := q.toNat) (d := ((⟨#[]⟩ : ByteArray), (0 : Int))) hl32
      have hacc2 := acc_turned (t := q.toNat) (d := ((⟨#[]⟩ : ByteArray), (0 : Int))) hacc hl32 hpos
      have hw2 := acc_wf _ rfl hacc2
      have hb1 := hw1.1
      have hb2 := hw2.1
      replace hS := hS.u3
      refine F_seq ?_
      refine F_region (p := ⟨_, [0], []⟩) rfl [0] rfl ?_
      refine O_cmp rfl rfl rfl rfl rfl rfl rfl ?_
      refine R_nil ?_
      refine tn ?_
      refine F_seq ?_
      refine F_false rfl (decide_eq_false (by omega)) ?_
      refine F_exit ?_
      refine tx ?_
      refine tx ?_
      refine Go.Sl.bx rfl ?_
      refine tn ?_
      refine F_seq ?_
      refine F_seq ?_
      refine F_region (p := ⟨_, [0, 0, 0], []⟩) rfl [0, 1, 2] rfl ?_
      refine O_move rfl rfl rfl rfl rfl ?_
      refine O_lenSl rfl rfl rfl rfl rfl Try.runUnderlying47 ?_
      refine O_move rfl rfl rfl rfl rfl ?_
      refine R_nil ?_
      refine tn ?_
      refine F_block ?_
      refine F_loopL (α := (ByteArray × Int)) (σ := (Unit)) (turned q.toNat own ((⟨#[]⟩ : ByteArray), (0 : Int))) [(1, _), (5, _), (6, _), (7, _), (30, _), (31, _), (32, _), (64, _)] (fun (pre : List (ByteArray × Int)) (st : Unit) => [(65, (.int .i64 (pre.length : Nat)))]) (fun (pre : List (ByteArray × Int)) (st : Unit) => seenP E_sc O_sc E_ib O_ib 94 103 sb (runS O_ib pre)) (fun (pre : List (ByteArray × Int)) (st : Unit) => True) () (Sup.app ⟨rfl, rfl, rfl, rfl, rfl, rfl, rfl, rfl, trivial⟩ ⟨rfl, trivial⟩) (hS.u4) trivial ?_ ?_
      · clear hS
        intro st w hI hS
        replace hS := hS
        refine wpF.sup (L := [(1, _), (5, _), (6, _), (7, _), (30, _), (31, _), (32, _), (64, _), (65, _)]) ?_ ⟨rfl, rfl, rfl, rfl, rfl, rfl, rfl, rfl, rfl, trivial⟩
        replace hS := hS.u2
        refine F_seq ?_
        refine F_region (p := ⟨_, [0], []⟩) rfl [0] rfl ?_
        refine O_cmp rfl rfl rfl rfl rfl rfl rfl ?_
        refine R_nil ?_
        refine tn ?_
        refine F_seq ?_
        refine F_false rfl (by rw [turned_len]; simp) ?_
        refine F_exit ?_
        refine tx ?_
        refine tx ?_
        refine Go.Sl.bx rfl ?_
        refine tn ?_
        refine F_seq ?_
        refine F_region (p := ⟨_, [0, 2, 2, 0, 2, 2, 2, 0], []⟩) rfl [0, 1, 2, 3, 4, 5, 6, 7] rfl ?_
        refine O_move rfl rfl rfl rfl rfl ?_
        refine O_call rfl rfl rfl rfl Try.call31 rfl (seenState (by omega) (fun y hy => Nat.le_trans (hw1.2 y hy).1 (by omega)) (hS.u3)) (fun _ _ hv => trivial) ?_
        rintro _ w ⟨ads1, cs1, Qs1, rfl, hQs1, hS⟩
        replace hS := hS.u4
        have hQsl1 := congrArg List.length hQs1
        simp only [List.length_map] at hQsl1
        replace hS := hS.u3.u3.g2
        have hA651 := srcs_rd hS
        replace hS := hS.u2
        refine O_call rfl rfl rfl rfl Try.call30 rfl (lawRef hA651 (by omega) (hS.u2)) (fun _ _ hv => trivial) ?_
        rintro _ w ⟨adf1, cf1, rfl, hS⟩
        replace hS := hS.u3
        replace hS := hS.u3.n2
        replace hS := hS.u3
        refine O_move rfl rfl rfl rfl rfl ?_
        refine O_call rfl rfl rfl rfl Try.call31 rfl (seenState (by omega) (fun y hy => Nat.le_trans (hw2.2 y hy).1 (by omega)) (hS.u6)) (fun _ _ hv => trivial) ?_
        rintro _ w ⟨ads2, cs2, Qs2, rfl, hQs2, hS⟩
        replace hS := hS.u4
        have hQsl2 := congrArg List.length hQs2
        simp only [List.length_map] at hQsl2
        replace hS := hS.u3.u3.g2
        have hA652 := srcs_rd hS
        replace hS := hS.u2
        refine O_call rfl rfl rfl rfl Try.call30 rfl (lawRef hA652 (by omega) (hS.u2)) (fun _ _ hv => trivial) ?_
        rintro _ w ⟨adf2, cf2, rfl, hS⟩
        replace hS := hS.u3
        replace hS := hS.u3.n2
        replace hS := hS.u3
        replace hS := (hS.u6).drop
        replace hS := hS.u6.u7.g2
        have hA41 := srcs_rd hS
        replace hS := (hS.u3).drop
        replace hS := hS.u3.u4.g2
        have hA42 := srcs_rd hS
        replace hS := hS.u2.g2
        replace hS := hS.u2
        have hQQ : Qs1.map Src.tell = Qs2.map Src.tell := by rw [hQs1, hQs2, hrt]
        have hq3 : ∀ y ∈ Qs1, y.seqs.length ≤ 1000 := fun y hy => by
          have h1 : y.tell ∈ (runS O_ib own).map tellL := hQs1 ▸ List.mem_map.2 ⟨y, hy, rfl⟩
          obtain ⟨z, hz, e⟩ := List.mem_map.1 h1
          have h2 := (hw1.2 z hz).1
          have h3 : z.2.2.map Prod.fst = y.seqs := congrArg (fun t => t.2.2) e
          rw [← h3, List.length_map]; omega
        refine O_call rfl rfl rfl rfl Try.call29 rfl (rSame hA41.lft hA42.rgt hQQ (by omega) (fun y hy => Nat.le_trans (hq3 y hy) (by omega)) (hS.u2)) (fun _ _ hv => trivial) ?_
        rintro _ w ⟨rfl, hS⟩
        replace hS := hS.u2
        refine O_assign rfl rfl rfl rfl rfl ?_
        refine R_nil ?_
        refine tn ?_
        refine F_ret ?_
        show endF _ _ _ _ _ _
        refine end0 trivial rfl rfl rfl hS ?_
        intro w hS
        replace hS := (hS).drop
        replace hS := (hS).drop
        replace hS := (hS).drop
        replace hS := (hS).drop
        replace hS := (hS).drop
        exact ⟨rfl, hS⟩
      · clear hS
        intro pre x post st w hx hI hS
        replace hS := hS
        refine wpF.sup (L := [(1, _), (5, _), (6, _), (7, _), (30, _), (31, _), (32, _), (64, _), (65, _)]) ?_ ⟨rfl, rfl, rfl, rfl, rfl, rfl, rfl, rfl, rfl, trivial⟩
        replace hS := hS.u2
        obtain ⟨hil, hat⟩ := turned_at (a := x) (i := pre.length) (by rw [hx]; simp)
        obtain ⟨s, hs⟩ : ∃ s, s = (pre.length + q.toNat) % own.length := ⟨_, rfl⟩
        have hslt : s < own.length := by rw [hs]; exact Nat.mod_lt _ (by omega)
        have htm : ((pre.length : Int) + q).tmod (own.length : Int) = (s : Int) := by rw [hs, show (pre.length : Int) + q = ((pre.length + q.toNat : Nat) : Int) by omega]; rfl
        have hti : turnI own.length q.toNat pre.length = own.length - 1 - s := by unfold turnI; rw [← hs]
        have hxo := mem_at hat
        have hnx := hsz x hxo
        have hwf2 := acc_wf _ rfl (acc_pre (hx ▸ hacc2))
        have hw8 := hwf2.1
        have hc0 := hacc2 pre x post hx
        refine F_seq ?_
        refine F_region (p := ⟨_, [0], []⟩) rfl [0] rfl ?_
        refine O_cmp rfl rfl rfl rfl rfl rfl rfl ?_
        refine R_nil ?_
        refine tn ?_
        refine F_seq ?_
        refine F_true rfl (by simp only [decide_eq_true_eq]; omega) ?_
        refine F_skip ?_
        refine tn ?_
        refine F_seq ?_
        refine F_block ?_
        refine F_seq ?_
        refine F_region (p := ⟨_, [0, 0], []⟩) rfl [0, 1] rfl ?_
        refine O_move rfl rfl rfl rfl rfl ?_
        refine O_assign rfl rfl rfl rfl rfl ?_
        refine R_nil ?_
        refine tn ?_
        refine F_seq ?_
        refine F_region (p := ⟨_, [0, 0, 0, 0, 0, 0, 0, 0, 0, 0, 0, 0, 0, 1, 2, 2], []⟩) rfl [0, 1, 2, 3, 4, 5, 6, 7, 8, 9, 10, 11, 12, 13, 14, 15] rfl ?_
        refine O_move rfl rfl rfl rfl rfl ?_
        refine O_move rfl rfl rfl rfl rfl ?_
        refine O_lenSl rfl rfl rfl rfl rfl Try.runUnderlying47 ?_
        refine O_subN rfl rfl rfl rfl rfl rfl (by omega) ?_
        refine O_move rfl rfl rfl rfl rfl ?_
        refine O_move rfl rfl rfl rfl rfl ?_
        refine O_convI rfl rfl rfl rfl Try.runUnderlying5 Try.runUnderlying3 rfl (by omega) ?_
        refine O_addN rfl rfl rfl rfl rfl rfl (by omega) ?_
        refine O_move rfl rfl rfl rfl rfl ?_
        refine O_lenSl rfl rfl rfl rfl rfl Try.runUnderlying47 ?_
        refine O_rem rfl rfl rfl rfl rfl rfl (by omega) ?_
        rw [htm]
        refine O_subN rfl rfl rfl rfl rfl rfl (by omega) ?_
        obtain ⟨ebq1, eoq1, hadq1⟩ := Rds.adF (m := (turnI own.length q.toNat pre.length)) (x := x) (enc := actE) (size := 2) (fun _ => rfl) (by decide) ((sl_rds (e := 53) (size := 2) (n := own.length) (cap := c) (xs := own.flatMap actE))) (hS.u4) hat
        refine O_indexSlE (m := (turnI own.length q.toNat pre.length)) rfl rfl rfl rfl Try.runUnderlying47 Try.sizeOf53 rfl hadq1 rfl (by rw [hti]; omega) (by rw [hti]; omega) ?_
        refine O_loadAgg ((actE x)) rfl rfl rfl rfl rfl Try.isAgg53 Try.sizeOf53 rfl (Rds.row (m := (turnI own.length q.toNat pre.length)) (x := x) (enc := actE) (size := 2) (fun _ => rfl) (by decide) ((sl_rds (e := 53) (size := 2) (n := own.length) (cap := c) (xs := own.flatMap actE))) (hS.u4) hadq1 hat) (by trivial) ?_
        refine O_allocS hS rfl rfl rfl rfl Try.zeroValue53 (fun _ _ hv => trivial) ?_
        intro b1 w hS
        refine O_storeAgg (cs := [_, _]) hS rfl rfl rfl rfl rfl rfl Try.sizeOf53 rfl (Nat.le_of_ble_eq_true rfl) (by simp [one]) (fun _ hv => trivial) ?_
        intro w hS
        dsimp only [setsL, List.set_cons_zero, List.set_cons_succ, Value.cells] at hS
        refine R_nil ?_
        refine tn ?_
        refine F_seq ?_
        refine F_region (p := ⟨_, [0, 0, 1, 0, 1, 2, 0], []⟩) rfl [0, 1, 2, 3, 4, 5, 6] rfl ?_
        refine O_move rfl rfl rfl rfl rfl ?_
        refine O_fieldAddr rfl rfl rfl rfl rfl Try.runUnderlying53 rfl Try.sizeOf9 ?_
        refine O_loadS hS rfl rfl rfl rfl rfl Try.isAgg9 (by repeat (first | exact .here rfl | apply CellAt.there)) (by trivial) ?_
        refine O_fieldAddr rfl rfl rfl rfl rfl Try.runUnderlying53 rfl Try.sizeOf3 ?_
        refine O_loadS hS rfl rfl rfl rfl rfl Try.isAgg3 (by repeat (first | exact .here rfl | apply CellAt.there)) (by trivial) ?_
        refine O_call rfl rfl rfl rfl Try.call28 rfl (seenNote (by omega) (fun y hy => Nat.le_trans (hwf2.2 y hy).1 (by omega)) x.1 x.2 (hS.u2)) (fun _ _ hv => trivial) ?_
        rintro _ w ⟨rfl, hS⟩
        rw [if_pos hc0, ← runS_snoc] at hS
        replace hS := hS.u2
        refine O_cmp rfl rfl rfl rfl rfl rfl rfl ?_
        refine R_nil ?_
        refine tn ?_
        refine F_false rfl (by rw [hc0]; simp) ?_
        refine F_skip ?_
        refine bn ?_
        refine tn ?_
        refine F_region (p := ⟨_, [0, 0], []⟩) rfl [0, 1] rfl ?_
        refine O_addN rfl rfl rfl rfl rfl rfl (by omega) ?_
        refine O_move rfl rfl rfl rfl rfl ?_
        refine R_nil ?_
        replace hS := hS.sp1.drop
        replace hS := hS.u5.u5.u5.u4.u5
        refine tn ⟨rfl, rfl, (), Sup.app ⟨rfl, rfl, rfl, rfl, rfl, rfl, rfl, rfl, trivial⟩ ⟨congrArg (fun z : Nat => some (Value.int .i64 z)) (show pre.length + 1 = (pre ++ [x]).length by simp), trivial⟩, trivial, hS⟩
    · clear hS
      intro pre x post st w hx hI hS
      replace hS := hS
      refine wpF.sup (L := [(1, _), (4, _), (5, _), (6, _), (30, _), (31, _), (7, _), (32, _)]) ?_ ⟨rfl, rfl, rfl, rfl, rfl, rfl, rfl, rfl, trivial⟩
      replace hS := hS.u2
      have hlx : pre.length + (post.length + 1) = acts.length := by rw [hx]; simp
      have hnx := hn x (by rw [hx]; simp)
      replace hS := hS.u2
      obtain ⟨own, ad, c, hacc, hpos, hsz, hlen, rfl, hS⟩ := turn_open hS
      have hwf := acc_wf _ rfl hacc
      have hw8 := hwf.1
      replace hS := hS.u3
      refine F_seq ?_
      refine F_region (p := ⟨_, [0], []⟩) rfl [0] rfl ?_
      refine O_cmp rfl rfl rfl rfl rfl rfl rfl ?_
      refine R_nil ?_
      refine tn ?_
      refine F_seq ?_
      refine F_true rfl (decide_eq_true (by omega)) ?_
      refine F_skip ?_
      refine tn ?_
      refine F_seq ?_
      refine F_block ?_
      refine F_seq ?_
      refine F_region (p := ⟨_, [0, 1, 2, 2], []⟩) rfl [0, 1, 2, 3] rfl ?_
      obtain ⟨ebq1, eoq1, hadq1⟩ := Rds.adF (m := pre.length) (x := x) (enc := actE) (size := 2) (fun _ => rfl) (by decide) (hA) (hS.u5) (by rw [hx]; simp)
      refine O_indexSlE (m := pre.length) rfl rfl rfl rfl Try.runUnderlying47 Try.sizeOf53 rfl hadq1 rfl rfl (by omega) ?_
      refine O_loadAgg ((actE x)) rfl rfl rfl rfl rfl Try.isAgg53 Try.sizeOf53 rfl (Rds.row (m := pre.length) (x := x) (enc := actE) (size := 2) (fun _ => rfl) (by decide) (hA) (hS.u5) hadq1 (by rw [hx]; simp)) (by trivial) ?_
      refine O_allocS hS rfl rfl rfl rfl Try.zeroValue53 (fun _ _ hv => trivial) ?_
      intro b1 w hS
      refine O_storeAgg (cs := [_, _]) hS rfl rfl rfl rfl rfl rfl Try.sizeOf53 rfl (Nat.le_of_ble_eq_true rfl) (by simp [one]) (fun _ hv => trivial) ?_
      intro w hS
      dsimp only [setsL, List.set_cons_zero, List.set_cons_succ, Value.cells] at hS
      refine R_nil ?_
      refine tn ?_
      refine F_seq ?_
      refine F_region (p := ⟨_, [0, 1, 2, 0, 0, 1, 0, 0, 0, 0, 1, 0, 0, 0, 0, 0, 1, 0, 1, 2, 0, 0], []⟩) rfl [0, 1, 2, 3, 4, 5, 6, 7, 8, 9, 10, 11, 12, 13, 14, 15, 16, 17, 18, 19, 20, 21] rfl ?_
      refine O_fieldAddr rfl rfl rfl rfl rfl Try.runUnderlying53 rfl Try.sizeOf9 ?_
      refine O_loadS hS rfl rfl rfl rfl rfl Try.isAgg9 (by repeat (first | exact .here rfl | apply CellAt.there)) (by trivial) ?_
      refine O_call rfl rfl rfl rfl Try.call27 rfl (rWord x.1 hnx (hS)) (fun _ _ hv => trivial) ?_
      rintro _ w ⟨b, rfl, hb, hS⟩
      refine O_move rfl rfl rfl rfl rfl ?_
      refine R_case (t := 39) rfl (fun ht39 => ?_) (fun ht39 => ?_)
      · try simp only [decide_eq_true_eq, decide_eq_false_iff_not, Bool.not_eq_true', Bool.not_eq_false', Bool.not_true, Bool.not_false, Option.isNone_iff_eq_none, Bool.false_eq_true, Bool.true_eq_false] at ht39
        refine O_fieldAddr rfl rfl rfl rfl rfl Try.runUnderlying53 rfl Try.sizeOf3 ?_
        refine O_loadS hS rfl rfl rfl rfl rfl Try.isAgg3 (by repeat (first | exact .here rfl | apply CellAt.there)) (by trivial) ?_
        refine O_cmp rfl rfl rfl rfl rfl rfl rfl ?_
        refine O_pickT rfl rfl rfl rfl rfl rfl ?_
        refine O_move rfl rfl rfl rfl rfl ?_
        refine R_case (t := 44) rfl (fun ht44 => ?_) (fun ht44 => ?_)
        · try simp only [decide_eq_true_eq, decide_eq_false_iff_not, Bool.not_eq_true', Bool.not_eq_false', Bool.not_true, Bool.not_false, Option.isNone_iff_eq_none, Bool.false_eq_true, Bool.true_eq_false] at ht44
          refine O_fieldAddr rfl rfl rfl rfl rfl Try.runUnderlying53 rfl Try.sizeOf3 ?_
          refine O_loadS hS rfl rfl rfl rfl rfl Try.isAgg3 (by repeat (first | exact .here rfl | apply CellAt.there)) (by trivial) ?_
          refine O_cmp rfl rfl rfl rfl rfl rfl rfl ?_
          refine O_pickT rfl rfl rfl rfl rfl rfl ?_
          refine O_move rfl rfl rfl rfl rfl ?_
          refine R_case (t := 49) rfl (fun ht49 => ?_) (fun ht49 => ?_)
          · try simp only [decide_eq_true_eq, decide_eq_false_iff_not, Bool.not_eq_true', Bool.not_eq_false', Bool.not_true, Bool.not_false, Option.isNone_iff_eq_none, Bool.false_eq_true, Bool.true_eq_false] at ht49
            refine O_move rfl rfl rfl rfl rfl ?_
            refine O_fieldAddr rfl rfl rfl rfl rfl Try.runUnderlying53 rfl Try.sizeOf9 ?_
            refine O_loadS hS rfl rfl rfl rfl rfl Try.isAgg9 (by repeat (first | exact .here rfl | apply CellAt.there)) (by trivial) ?_
            refine O_fieldAddr rfl rfl rfl rfl rfl Try.runUnderlying53 rfl Try.sizeOf3 ?_
            refine O_loadS hS rfl rfl rfl rfl rfl Try.isAgg3 (by repeat (first | exact .here rfl | apply CellAt.there)) (by trivial) ?_
            refine O_call rfl rfl rfl rfl Try.call28 rfl (seenNote (by omega) (fun y hy => Nat.le_trans (hwf.2 y hy).1 (by omega)) x.1 x.2 (hS.u2)) (fun _ _ hv => trivial) ?_
            rintro _ w ⟨rfl, hS⟩
            replace hS := hS.u2
            refine O_cmp rfl rfl rfl rfl rfl rfl rfl ?_
            refine O_pickT rfl rfl rfl rfl rfl rfl ?_
            refine R_nil ?_
            refine tn ?_
            refine F_cond rfl (fun h57 => ?_) (fun h57 => ?_)
            · try simp only [decide_eq_true_eq, decide_eq_false_iff_not, Bool.not_eq_true', Bool.not_eq_false', Bool.not_true, Bool.not_false, Option.isNone_iff_eq_none, Bool.false_eq_true, Bool.true_eq_false] at h57
              replace hS := hS.u2
              rw [if_pos h57, ← runS_snoc] at hS
              replace hS := hS.u2
              refine F_region (p := ⟨_, [0, 1, 2, 2, 0], []⟩) rfl [0, 1, 2, 3, 4] rfl ?_
              refine O_move rfl rfl rfl rfl rfl ?_
              refine O_loadAgg [_, _] rfl rfl rfl rfl rfl Try.isAgg53 Try.sizeOf53 rfl (CellsAt.rd ⟨(by repeat (first | exact .here rfl | apply CellAt.there)), (by repeat (first | exact .here rfl | apply CellAt.there)), trivial⟩ (hS)) (by trivial) ?_
              refine O_sliceLit hS rfl rfl rfl rfl Try.runUnderlying47 Try.sizeOf53 Try.zeroValue53 rfl (by decide) rfl rfl rfl (cs := [_, _]) rfl rfl (fun _ _ hv => trivial) ?_
              intro z1 w hS
              replace hS := hS.u2
              have hrdv1 := sl_rd (hS.u2)
              replace hS := hS.u4
              refine O_append (m := 1) (news := (actE x)) hS rfl rfl rfl rfl Try.underlying47 info_act rfl (by decide) rfl rfl rfl (by intro e; cases e) hrdv1 (by simp [actE, Value.oneCell']) (by simp only [maxLen]; omega) (by omega) (fun _ _ hv => trivial) ?_
              intro v1 w hnilv1 hS
              obtain ⟨adv1, capv1, rfl, hlev1, hcapv1, _⟩ := sl_form hS
              replace hS := hS.u2
              refine O_assign rfl rfl rfl rfl rfl ?_
              refine R_nil ?_
              refine bn ?_
              refine tn ?_
              refine F_region (p := ⟨_, [0, 0], []⟩) rfl [0, 1] rfl ?_
              refine O_addN rfl rfl rfl rfl rfl rfl (by omega) ?_
              refine O_move rfl rfl rfl rfl rfl ?_
              refine R_nil ?_
              replace hS := hS.u2.u4
              have hT : Sat w0 (seenP E_sc O_sc E_ib O_ib 94 103 sa (runS O_ib (own ++ [x])) * (sl 53 2 (.slice adv1 (own.length + 1) capv1) (own ++ [x]).length ((own ++ [x]).flatMap actE) * _)) w := (Sat.slc (hS.u2) (by simp) (by simp [List.flatMap_append])).u2
              replace hS := turn_mk (N := (pre ++ [x]).length) (acc_snoc hacc h57) (by intro a ha; rcases List.mem_append.1 ha with h | h; (exact hpos a h); (rw [List.mem_singleton.1 h]; omega)) (by intro a ha; rcases List.mem_append.1 ha with h | h; (exact hsz a h); (rw [List.mem_singleton.1 h]; exact hnx)) (by simp; omega) hT
              replace hS := hS.u2
              replace hS := hS.sp1.drop
              replace hS := (hS.u3).drop
              replace hS := hS.u4.u4.u3.u4
              refine tn ⟨rfl, rfl, (.slice adv1 (own.length + 1) capv1), Sup.app ⟨rfl, rfl, rfl, rfl, rfl, rfl, trivial⟩ ⟨rfl, congrArg (fun z : Nat => some (Value.int .i64 z)) (show pre.length + 1 = (pre ++ [x]).length by simp), trivial⟩, trivial, hS⟩
            · try simp only [decide_eq_true_eq, decide_eq_false_iff_not, Bool.not_eq_true', Bool.not_eq_false', Bool.not_true, Bool.not_false, Option.isNone_iff_eq_none, Bool.false_eq_true, Bool.true_eq_false] at h57
              replace hS := hS.u2
              rw [if_neg h57] at hS
              replace hS := hS.u2
              refine F_skip ?_
              refine bn ?_
              refine tn ?_
              refine F_region (p := ⟨_, [0, 0], []⟩) rfl [0, 1] rfl ?_
              refine O_addN rfl rfl rfl rfl rfl rfl (by omega) ?_
              refine O_move rfl rfl rfl rfl rfl ?_
              refine R_nil ?_
              replace hS := hS.u3.u3
              replace hS := turn_mk (N := (pre ++ [x]).length) hacc hpos hsz (by simp; omega) hS
              replace hS := hS.u2
              replace hS := hS.sp1.drop
              replace hS := hS.u4.u4.u3.u4
              refine tn ⟨rfl, rfl, (.slice ad own.length c), Sup.app ⟨rfl, rfl, rfl, rfl, rfl, rfl, trivial⟩ ⟨rfl, congrArg (fun z : Nat => some (Value.int .i64 z)) (show pre.length + 1 = (pre ++ [x]).length by simp), trivial⟩, trivial, hS⟩
          · try simp only [decide_eq_true_eq, decide_eq_false_iff_not, Bool.not_eq_true', Bool.not_eq_false', Bool.not_true, Bool.not_false, Option.isNone_iff_eq_none, Bool.false_eq_true, Bool.true_eq_false] at ht49
            refine R_skip rfl rfl rfl rfl ?_
            refine R_skip rfl rfl rfl rfl ?_
            refine R_skip rfl rfl rfl rfl ?_
            refine R_skip rfl rfl rfl rfl ?_
            refine R_skip rfl rfl rfl rfl ?_
            refine R_skip rfl rfl rfl rfl ?_
            refine R_skip rfl rfl rfl rfl ?_
            refine O_pickF rfl rfl rfl rfl rfl rfl ?_
            refine R_nil ?_
            refine tn ?_
            refine F_false rfl rfl ?_
            refine F_skip ?_
            refine bn ?_
            refine tn ?_
            refine F_region (p := ⟨_, [0, 0], []⟩) rfl [0, 1] rfl ?_
            refine O_addN rfl rfl rfl rfl rfl rfl (by omega) ?_
            refine O_move rfl rfl rfl rfl rfl ?_
            refine R_nil ?_
            replace hS := hS.u3.u3
            replace hS := turn_mk (N := (pre ++ [x]).length) hacc hpos hsz (by simp; omega) hS
            replace hS := hS.u2
            replace hS := hS.sp1.drop
            replace hS := hS.u4.u4.u3.u4
            refine tn ⟨rfl, rfl, (.slice ad own.length c), Sup.app ⟨rfl, rfl, rfl, rfl, rfl, rfl, trivial⟩ ⟨rfl, congrArg (fun z : Nat => some (Value.int .i64 z)) (show pre.length + 1 = (pre ++ [x]).length by simp), trivial⟩, trivial, hS⟩
        · try simp only [decide_eq_true_eq, decide_eq_false_iff_not, Bool.not_eq_true', Bool.not_eq_false', Bool.not_true, Bool.not_false, Option.isNone_iff_eq_none, Bool.false_eq_true, Bool.true_eq_false] at ht44
          refine R_skip rfl rfl rfl rfl ?_
          refine R_skip rfl rfl rfl rfl ?_
          refine R_skip rfl rfl rfl rfl ?_
          refine O_pickF rfl rfl rfl rfl rfl rfl ?_
          refine O_move rfl rfl rfl rfl rfl ?_
          refine R_skip rfl rfl rfl rfl ?_
          refine R_skip rfl rfl rfl rfl ?_
          refine R_skip rfl rfl rfl rfl ?_
          refine R_skip rfl rfl rfl rfl ?_
          refine R_skip rfl rfl rfl rfl ?_
          refine R_skip rfl rfl rfl rfl ?_
          refine R_skip rfl rfl rfl rfl ?_
          refine O_pickF rfl rfl rfl rfl rfl rfl ?_
          refine R_nil ?_
          refine tn ?_
          refine F_false rfl rfl ?_
          refine F_skip ?_
          refine bn ?_
          refine tn ?_
          refine F_region (p := ⟨_, [0, 0], []⟩) rfl [0, 1] rfl ?_
          refine O_addN rfl rfl rfl rfl rfl rfl (by omega) ?_
          refine O_move rfl rfl rfl rfl rfl ?_
          refine R_nil ?_
          replace hS := hS.u3.u3
          replace hS := turn_mk (N := (pre ++ [x]).length) hacc hpos hsz (by simp; omega) hS
          replace hS := hS.u2
          replace hS := hS.sp1.drop
          replace hS := hS.u4.u4.u3.u4
          refine tn ⟨rfl, rfl, (.slice ad own.length c), Sup.app ⟨rfl, rfl, rfl, rfl, rfl, rfl, trivial⟩ ⟨rfl, congrArg (fun z : Nat => some (Value.int .i64 z)) (show pre.length + 1 = (pre ++ [x]).length by simp), trivial⟩, trivial, hS⟩
      · try simp only [decide_eq_true_eq, decide_eq_false_iff_not, Bool.not_eq_true', Bool.not_eq_false', Bool.not_true, Bool.not_false, Option.isNone_iff_eq_none, Bool.false_eq_true, Bool.true_eq_false] at ht39
        refine R_skip rfl rfl rfl rfl ?_
        refine R_skip rfl rfl rfl rfl ?_
        refine R_skip rfl rfl rfl rfl ?_
        refine O_pickF rfl rfl rfl rfl rfl rfl ?_
        refine O_move rfl rfl rfl rfl rfl ?_
        refine R_skip rfl rfl rfl rfl ?_
        refine R_skip rfl rfl rfl rfl ?_
        refine R_skip rfl rfl rfl rfl ?_
        refine O_pickF rfl rfl rfl rfl rfl rfl ?_
        refine O_move rfl rfl rfl rfl rfl ?_
        refine R_skip rfl rfl rfl rfl ?_
        refine R_skip rfl rfl rfl rfl ?_
        refine R_skip rfl rfl rfl rfl ?_
        refine R_skip rfl rfl rfl rfl ?_
        refine R_skip rfl rfl rfl rfl ?_
        refine R_skip rfl rfl rfl rfl ?_
        refine R_skip rfl rfl rfl rfl ?_
        refine O_pickF rfl rfl rfl rfl rfl rfl ?_
        refine R_nil ?_
        refine tn ?_
        refine F_false rfl rfl ?_
        refine F_skip ?_
        refine bn ?_
        refine tn ?_
        refine F_region (p := ⟨_, [0, 0], []⟩) rfl [0, 1] rfl ?_
        refine O_addN rfl rfl rfl rfl rfl rfl (by omega) ?_
        refine O_move rfl rfl rfl rfl rfl ?_
        refine R_nil ?_
        replace hS := hS.u3.u3
        replace hS := turn_mk (N := (pre ++ [x]).length) hacc hpos hsz (by simp; omega) hS
        replace hS := hS.u2
        replace hS := hS.sp1.drop
        replace hS := hS.u4.u4.u3.u4
        refine tn ⟨rfl, rfl, (.slice ad own.length c), Sup.app ⟨rfl, rfl, rfl, rfl, rfl, rfl, trivial⟩ ⟨rfl, congrArg (fun z : Nat => some (Value.int .i64 z)) (show pre.length + 1 = (pre ++ [x]).length by simp), trivial⟩, trivial, hS⟩
end Go.Proofs.Ytpnigaoibhogfaa
