/- YtpnigaoibhogfaaR20: a part of the proof: walks over the translated code, and plain facts on lists beside. -/
import Derived.Test.YtpnigaoibhogfaaR19
import Derived.Test.YtpnigaoibhogfaaSlSeen2
set_option linter.all false
namespace Go.Proofs.Ytpnigaoibhogfaa
open Go Go.RowKit Go.Sl
set_option linter.unusedVariables false
theorem seenPlay {w0 w : World} {R A : HProp} {sb : Nat} {v : Value} {ada : Option Addr} {ca : Nat} {acts : List (ByteArray × Int)} (hA : Rds A ada (acts.flatMap actE)) (hl : acts.length ≤ 1000000) (hn : ∀ a ∈ acts, a.1.size ≤ 9223372036854775807) (hS : Sat w0 (A * (playP A E_sc E_ib O_ib 94 103 69 sb v * R)) w) :
    Calls Try.prog 26 #[.pointer (some ⟨sb, 0, none⟩), v, .slice ada acts.length ca] w (ret fun u w' => u = .bool true ∧ Sat w0 (A * R) w') := by
  replace hS := hS.noblks
  refine enterF (args := [_, _, _]) Try.func26 rfl Try.ntmps26 rfl rfl ?_
  refine F_seq ?_
  refine F_region (p := ⟨_, [0], []⟩) rfl [0] rfl ?_
  refine O_assign rfl rfl rfl rfl rfl ?_
  refine R_nil ?_
  refine tn ?_
  refine F_seq ?_
  refine F_seq ?_
  refine F_region (p := ⟨_, [0, 0, 0], []⟩) rfl [0, 1, 2] rfl ?_
  refine O_move rfl rfl rfl rfl rfl ?_
  refine O_lenSl rfl rfl rfl rfl rfl Try.runUnderlying47 ?_
  refine O_move rfl rfl rfl rfl rfl ?_
  refine R_nil ?_
  refine tn ?_
  refine F_block ?_
  refine F_loopL (α := (ByteArray × Int)) (σ := (Value)) (acts) [(0, _), (12, _), (13, _)] (fun (pre : List (ByteArray × Int)) (st : Value) => [(1, st), (14, (.int .i64 (pre.length : Nat)))]) (fun (pre : List (ByteArray × Int)) (st : Value) => playP A E_sc E_ib O_ib 94 103 69 sb st) (fun (pre : List (ByteArray × Int)) (st : Value) => True) v (Sup.app ⟨rfl, rfl, rfl, trivial⟩ ⟨rfl, rfl, trivial⟩) (hS.u3) trivial ?_ ?_
  · clear hS
    intro st w hI hS
    replace hS := hS
    refine wpF.sup (L := [(0, _), (12, _), (13, _), (1, _), (14, _)]) ?_ ⟨rfl, rfl, rfl, rfl, rfl, trivial⟩
    replace hS := hS.u2
    refine F_seq ?_
    refine F_region (p := ⟨_, [0], []⟩) rfl [0] rfl ?_
    refine O_cmp rfl rfl rfl rfl rfl rfl rfl ?_
    refine R_nil ?_
    refine tn ?_
    refine F_seq ?_
    refine F_false rfl (decide_eq_false (by omega)) ?_
    refine F_exit ?_
    refine tx ?_
    refine tx ?_
    refine Go.Sl.bx rfl ?_
    refine tn ?_
    refine F_seq ?_
    refine F_region (p := ⟨_, [0], []⟩) rfl [0] rfl ?_
    refine O_assign rfl rfl rfl rfl rfl ?_
    refine R_nil ?_
    refine tn ?_
    refine F_ret ?_
    show endF _ _ _ _ _ _
    refine end0 trivial rfl rfl rfl hS ?_
    intro w hS
    replace hS := (hS).drop
    replace hS := (hS).drop
    exact ⟨rfl, hS⟩
  · clear hS
    intro pre x post st w hx hI hS
    replace hS := hS
    refine wpF.sup (L := [(0, _), (12, _), (13, _), (1, _), (14, _)]) ?_ ⟨rfl, rfl, rfl, rfl, rfl, trivial⟩
    replace hS := hS.u2
    have hlx : pre.length + (post.length + 1) = acts.length := by rw [hx]; simp
    have hnx := hn x (by rw [hx]; simp)
    replace hS := hS.u2
    obtain ⟨L, Q, ad, c, hwf, hQ, rfl, hS⟩ := play_open hS
    have hQl : Q.length = L.length := by have := congrArg List.length hQ; simpa using this
    have hL8 := hwf.1
    have hcan := can_eq (name := x.1) (seq := x.2) hwf
    have hq2 : ∀ y ∈ Q, y.seqs.length ≤ 1000 := fun y hy => by
      have h1 : y.tell ∈ L.map tellL := hQ ▸ List.mem_map.2 ⟨y, hy, rfl⟩
      obtain ⟨z, hz, e⟩ := List.mem_map.1 h1
      have h2 := (hwf.2 z hz).1
      have h3 : z.2.2.map Prod.fst = y.seqs := congrArg (fun t => t.2.2) e
      rw [← h3, List.length_map]; omega
    replace hS := hS.u3.u3.u5
    have hAr := srcs_rd hS.g3
    replace hS := hS.u5
    refine F_seq ?_
    refine F_region (p := ⟨_, [0], []⟩) rfl [0] rfl ?_
    refine O_cmp rfl rfl rfl rfl rfl rfl rfl ?_
    refine R_nil ?_
    refine tn ?_
    refine F_seq ?_
    refine F_true rfl (decide_eq_true (by omega)) ?_
    refine F_skip ?_
    refine tn ?_
    refine F_seq ?_
    refine F_block ?_
    refine F_seq ?_
    refine F_region (p := ⟨_, [0, 1, 2, 2], []⟩) rfl [0, 1, 2, 3] rfl ?_
    obtain ⟨ebq1, eoq1, hadq1⟩ := Rds.adF (m := pre.length) (x := x) (enc := actE) (size := 2) (fun _ => rfl) (by decide) (hA) (hS.u2) (by rw [hx]; simp)
    refine O_indexSlE (m := pre.length) rfl rfl rfl rfl Try.runUnderlying47 Try.sizeOf53 rfl hadq1 rfl rfl (by omega) ?_
    refine O_loadAgg ((actE x)) rfl rfl rfl rfl rfl Try.isAgg53 Try.sizeOf53 rfl (Rds.row (m := pre.length) (x := x) (enc := actE) (size := 2) (fun _ => rfl) (by decide) (hA) (hS.u2) hadq1 (by rw [hx]; simp)) (by trivial) ?_
    refine O_allocS hS rfl rfl rfl rfl Try.zeroValue53 (fun _ _ hv => trivial) ?_
    intro b1 w hS
    refine O_storeAgg (cs := [_, _]) hS rfl rfl rfl rfl rfl rfl Try.sizeOf53 rfl (Nat.le_of_ble_eq_true rfl) (by simp [one]) (fun _ hv => trivial) ?_
    intro w hS
    dsimp only [setsL, List.set_cons_zero, List.set_cons_succ, Value.cells] at hS
    refine R_nil ?_
    refine tn ?_
    refine F_seq ?_
    refine F_seq ?_
    refine F_region (p := ⟨_, [0, 1, 2, 0, 0, 0, 1, 0, 0, 0, 0, 1, 0, 0], []⟩) rfl [0, 1, 2, 3, 4, 5, 6, 7, 8, 9, 10, 11, 12, 13] rfl ?_
    refine O_fieldAddr rfl rfl rfl rfl rfl Try.runUnderlying53 rfl Try.sizeOf9 ?_
    refine O_loadS hS rfl rfl rfl rfl rfl Try.isAgg9 (by repeat (first | exact .here rfl | apply CellAt.there)) (by trivial) ?_
    refine O_call rfl rfl rfl rfl Try.call27 rfl (rWord x.1 hnx (hS)) (fun _ _ hv => trivial) ?_
    rintro _ w ⟨b, rfl, hb, hS⟩
    refine O_not rfl rfl rfl rfl rfl ?_
    refine O_move rfl rfl rfl rfl rfl ?_
    refine R_case (t := 22) rfl (fun ht22 => ?_) (fun ht22 => ?_)
    · try simp only [decide_eq_true_eq, decide_eq_false_iff_not, Bool.not_eq_true', Bool.not_eq_false', Bool.not_true, Bool.not_false, Option.isNone_iff_eq_none, Bool.false_eq_true, Bool.true_eq_false] at ht22
      refine R_skip rfl rfl rfl rfl ?_
      refine R_skip rfl rfl rfl rfl ?_
      refine R_skip rfl rfl rfl rfl ?_
      refine O_pickT rfl rfl rfl rfl rfl rfl ?_
      refine O_move rfl rfl rfl rfl rfl ?_
      refine R_skip rfl rfl rfl rfl ?_
      refine R_skip rfl rfl rfl rfl ?_
      refine R_skip rfl rfl rfl rfl ?_
      refine O_pickT rfl rfl rfl rfl rfl rfl ?_
      refine R_nil ?_
      refine tn ?_
      refine F_true rfl rfl ?_
      refine F_exit ?_
      refine tx ?_
      refine Go.Sl.bx rfl ?_
      refine tn ?_
      refine F_region (p := ⟨_, [0, 0], []⟩) rfl [0, 1] rfl ?_
      refine O_addN rfl rfl rfl rfl rfl rfl (by first | omega | (dsimp only; omega)) ?_
      refine O_move rfl rfl rfl rfl rfl ?_
      refine R_nil ?_
      replace hS := hS.u4.u4.u5
      replace hS := play_mk hwf hQ hS
      replace hS := hS.u2
      replace hS := hS.sp1.drop
      replace hS := hS.u3.u2.u3
      refine tn ⟨rfl, rfl, (.slice ad Q.length c), Sup.app ⟨rfl, rfl, rfl, trivial⟩ ⟨rfl, congrArg (fun z : Nat => some (Value.int .i64 z)) (show pre.length + 1 = (pre ++ [x]).length by simp), trivial⟩, trivial, hS⟩
    · try simp only [decide_eq_true_eq, decide_eq_false_iff_not, Bool.not_eq_true', Bool.not_eq_false', Bool.not_true, Bool.not_false, Option.isNone_iff_eq_none, Bool.false_eq_true, Bool.true_eq_false] at ht22
      refine O_fieldAddr rfl rfl rfl rfl rfl Try.runUnderlying53 rfl Try.sizeOf3 ?_
      refine O_loadS hS rfl rfl rfl rfl rfl Try.isAgg3 (by repeat (first | exact .here rfl | apply CellAt.there)) (by trivial) ?_
      refine O_cmp rfl rfl rfl rfl rfl rfl rfl ?_
      refine O_pickF rfl rfl rfl rfl rfl rfl ?_
      refine O_move rfl rfl rfl rfl rfl ?_
      refine R_case (t := 27) rfl (fun ht27 => ?_) (fun ht27 => ?_)
      · try simp only [decide_eq_true_eq, decide_eq_false_iff_not, Bool.not_eq_true', Bool.not_eq_false', Bool.not_true, Bool.not_false, Option.isNone_iff_eq_none, Bool.false_eq_true, Bool.true_eq_false] at ht27
        refine R_skip rfl rfl rfl rfl ?_
        refine R_skip rfl rfl rfl rfl ?_
        refine R_skip rfl rfl rfl rfl ?_
        refine O_pickT rfl rfl rfl rfl rfl rfl ?_
        refine R_nil ?_
        refine tn ?_
        refine F_true rfl rfl ?_
        refine F_exit ?_
        refine tx ?_
        refine Go.Sl.bx rfl ?_
        refine tn ?_
        refine F_region (p := ⟨_, [0, 0], []⟩) rfl [0, 1] rfl ?_
        refine O_addN rfl rfl rfl rfl rfl rfl (by first | omega | (dsimp only; omega)) ?_
        refine O_move rfl rfl rfl rfl rfl ?_
        refine R_nil ?_
        replace hS := hS.u4.u4.u5
        replace hS := play_mk hwf hQ hS
        replace hS := hS.u2
        replace hS := hS.sp1.drop
        replace hS := hS.u3.u2.u3
        refine tn ⟨rfl, rfl, (.slice ad Q.length c), Sup.app ⟨rfl, rfl, rfl, trivial⟩ ⟨rfl, congrArg (fun z : Nat => some (Value.int .i64 z)) (show pre.length + 1 = (pre ++ [x]).length by simp), trivial⟩, trivial, hS⟩
      · try simp only [decide_eq_true_eq, decide_eq_false_iff_not, Bool.not_eq_true', Bool.not_eq_false', Bool.not_true, Bool.not_false, Option.isNone_iff_eq_none, Bool.false_eq_true, Bool.true_eq_false] at ht27
        refine O_fieldAddr rfl rfl rfl rfl rfl Try.runUnderlying53 rfl Try.sizeOf3 ?_
        refine O_loadS hS rfl rfl rfl rfl rfl Try.isAgg3 (by repeat (first | exact .here rfl | apply CellAt.there)) (by trivial) ?_
        refine O_cmp rfl rfl rfl rfl rfl rfl rfl ?_
        refine O_pickF rfl rfl rfl rfl rfl rfl ?_
        refine R_nil ?_
        refine tn ?_
        refine F_cond rfl (fun ht31 => ?_) (fun ht31 => ?_)
        · try simp only [decide_eq_true_eq, decide_eq_false_iff_not, Bool.not_eq_true', Bool.not_eq_false', Bool.not_true, Bool.not_false, Option.isNone_iff_eq_none, Bool.false_eq_true, Bool.true_eq_false] at ht31
          refine F_exit ?_
          refine tx ?_
          refine Go.Sl.bx rfl ?_
          refine tn ?_
          refine F_region (p := ⟨_, [0, 0], []⟩) rfl [0, 1] rfl ?_
          refine O_addN rfl rfl rfl rfl rfl rfl (by first | omega | (dsimp only; omega)) ?_
          refine O_move rfl rfl rfl rfl rfl ?_
          refine R_nil ?_
          replace hS := hS.u4.u4.u5
          replace hS := play_mk hwf hQ hS
          replace hS := hS.u2
          replace hS := hS.sp1.drop
          replace hS := hS.u3.u2.u3
          refine tn ⟨rfl, rfl, (.slice ad Q.length c), Sup.app ⟨rfl, rfl, rfl, trivial⟩ ⟨rfl, congrArg (fun z : Nat => some (Value.int .i64 z)) (show pre.length + 1 = (pre ++ [x]).length by simp), trivial⟩, trivial, hS⟩
        · try simp only [decide_eq_true_eq, decide_eq_false_iff_not, Bool.not_eq_true', Bool.not_eq_false', Bool.not_true, Bool.not_false, Option.isNone_iff_eq_none, Bool.false_eq_true, Bool.true_eq_false] at ht31
          refine F_skip ?_
          refine tn ?_
          refine F_seq ?_
          refine F_region (p := ⟨_, [0, 0, 1, 0, 1, 2, 0], []⟩) rfl [0, 1, 2, 3, 4, 5, 6] rfl ?_
          refine O_move rfl rfl rfl rfl rfl ?_
          refine O_fieldAddr rfl rfl rfl rfl rfl Try.runUnderlying53 rfl Try.sizeOf9 ?_
          refine O_loadS hS rfl rfl rfl rfl rfl Try.isAgg9 (by repeat (first | exact .here rfl | apply CellAt.there)) (by trivial) ?_
          refine O_fieldAddr rfl rfl rfl rfl rfl Try.runUnderlying53 rfl Try.sizeOf3 ?_
          refine O_loadS hS rfl rfl rfl rfl rfl Try.isAgg3 (by repeat (first | exact .here rfl | apply CellAt.there)) (by trivial) ?_
          replace hS := hS.u4.u4.u4.g3
          replace hS := hS.u2
          refine O_call rfl rfl rfl rfl Try.call50 rfl (rCan hAr (by omega) (fun y hy => Nat.le_trans (hq2 y hy) (by omega)) x.1 hnx x.2 (hS.u2)) (fun _ _ hv => trivial) ?_
          rintro _ w ⟨rfl, hS⟩
          replace hS := hS.u2
          replace hS := hS.u2.n3
          replace hS := hS.u4
          refine O_assign rfl rfl rfl rfl rfl ?_
          refine R_nil ?_
          refine tn ?_
          refine F_seq ?_
          refine F_region (p := ⟨_, [0, 0, 1, 0, 1, 2, 0, 0, 0, 0, 0], []⟩) rfl [0, 1, 2, 3, 4, 5, 6, 7, 8, 9, 10] rfl ?_
          refine O_move rfl rfl rfl rfl rfl ?_
          refine O_fieldAddr rfl rfl rfl rfl rfl Try.runUnderlying53 rfl Try.sizeOf9 ?_
          refine O_loadS hS rfl rfl rfl rfl rfl Try.isAgg9 (by repeat (first | exact .here rfl | apply CellAt.there)) (by trivial) ?_
          refine O_fieldAddr rfl rfl rfl rfl rfl Try.runUnderlying53 rfl Try.sizeOf3 ?_
          refine O_loadS hS rfl rfl rfl rfl rfl Try.isAgg3 (by repeat (first | exact .here rfl | apply CellAt.there)) (by trivial) ?_
          refine O_call rfl rfl rfl rfl Try.call51 rfl (rNote (by omega) hq2 x.1 hnx x.2 (hS.u4.u4.u4)) (fun _ _ hv => trivial) ?_
          rintro _ w ⟨v', Q', rfl, hQ', hS⟩
          have hQ2 : Q'.map Src.tell = (nextS O_ib x.1 x.2 L).map tellL := by rw [hQ', hQ]; exact next_eq hwf
          replace hS := hS.u4
          refine O_move rfl rfl rfl rfl rfl ?_
          refine O_extract rfl rfl rfl rfl rfl rfl ?_
          refine O_extract rfl rfl rfl rfl rfl rfl ?_
          refine O_assign rfl rfl rfl rfl rfl ?_
          refine O_assign rfl rfl rfl rfl rfl ?_
          refine R_nil ?_
          refine tn ?_
          refine F_seq ?_
          refine F_seq ?_
          refine F_region (p := ⟨_, [0, 0, 1, 0, 1, 2, 0, 0, 0, 0, 0, 1, 0, 1, 2, 0, 0, 0], []⟩) rfl [0, 1, 2, 3, 4, 5, 6, 7, 8, 9, 10, 11, 12, 13, 14, 15, 16, 17] rfl ?_
          refine O_move rfl rfl rfl rfl rfl ?_
          refine O_fieldAddr rfl rfl rfl rfl rfl Try.runUnderlying53 rfl Try.sizeOf9 ?_
          refine O_loadS hS rfl rfl rfl rfl rfl Try.isAgg9 (by repeat (first | exact .here rfl | apply CellAt.there)) (by trivial) ?_
          refine O_fieldAddr rfl rfl rfl rfl rfl Try.runUnderlying53 rfl Try.sizeOf3 ?_
          refine O_loadS hS rfl rfl rfl rfl rfl Try.isAgg3 (by repeat (first | exact .here rfl | apply CellAt.there)) (by trivial) ?_
          refine O_call rfl rfl rfl rfl Try.call49 rfl (seenCan x.1 x.2 (hS.u5)) (fun _ _ hv => trivial) ?_
          rintro _ w ⟨rfl, hS⟩
          replace hS := hS.u2
          refine O_move rfl rfl rfl rfl rfl ?_
          refine O_cmp rfl rfl rfl rfl rfl rfl rfl ?_
          refine O_move rfl rfl rfl rfl rfl ?_
          refine R_caseF (t := 55) rfl (by rw [hQ, hcan]; simp) ?_
          refine O_move rfl rfl rfl rfl rfl ?_
          refine O_fieldAddr rfl rfl rfl rfl rfl Try.runUnderlying53 rfl Try.sizeOf9 ?_
          refine O_loadS hS rfl rfl rfl rfl rfl Try.isAgg9 (by repeat (first | exact .here rfl | apply CellAt.there)) (by trivial) ?_
          refine O_fieldAddr rfl rfl rfl rfl rfl Try.runUnderlying53 rfl Try.sizeOf3 ?_
          refine O_loadS hS rfl rfl rfl rfl rfl Try.isAgg3 (by repeat (first | exact .here rfl | apply CellAt.there)) (by trivial) ?_
          refine O_call rfl rfl rfl rfl Try.call28 rfl (seenNote (by omega) (fun y hy => Nat.le_trans (hwf.2 y hy).1 (by omega)) x.1 x.2 (hS.u2)) (fun _ _ hv => trivial) ?_
          rintro _ w ⟨rfl, hS⟩
          have hS2 : Sat w0 (seenP E_sc O_sc E_ib O_ib 94 103 sb (nextS O_ib x.1 x.2 L) * _) w := hS
          clear hS
          have hS := hS2
          clear hS2
          have hw2 := next_wf (name := x.1) (seq := x.2) hwf
          have hL2 := hw2.1
          replace hS := hS.u2
          refine O_move rfl rfl rfl rfl rfl ?_
          refine O_cmp rfl rfl rfl rfl rfl rfl rfl ?_
          refine O_pickF rfl rfl rfl rfl rfl rfl ?_
          refine R_nil ?_
          refine tn ?_
          refine F_false rfl (by rw [hQ, hcan]; simp) ?_
          refine F_skip ?_
          refine tn ?_
          refine F_seq ?_
          refine F_region (p := ⟨_, [0, 0], []⟩) rfl [0, 1] rfl ?_
          refine O_move rfl rfl rfl rfl rfl ?_
          refine O_assign rfl rfl rfl rfl rfl ?_
          refine R_nil ?_
          refine tn ?_
          refine F_seq ?_
          refine F_region (p := ⟨_, [0, 2, 2, 0, 2, 0], []⟩) rfl [0, 1, 2, 3, 4, 5] rfl ?_
          refine O_move rfl rfl rfl rfl rfl ?_
          refine O_call rfl rfl rfl rfl Try.call31 rfl (seenState (P0 := A) (by omega) (fun y hy => Nat.le_trans (hw2.2 y hy).1 (by omega)) (hS.u2)) (fun _ _ hv => trivial) ?_
          rintro _ w ⟨ads, cs, Qs, rfl, hQs, hS⟩
          replace hS := hS.u4
          have hQsl : Qs.length = (nextS O_ib x.1 x.2 L).length := by have := congrArg List.length hQs; simpa using this
          replace hS := hS.u3.u3.u5.g3
          have hA65 := srcs_rd hS
          replace hS := hS.u2
          refine O_call rfl rfl rfl rfl Try.call30 rfl (lawRef hA65 (by omega) (hS.u2)) (fun _ _ hv => trivial) ?_
          rintro _ w ⟨adf, cf, rfl, hS⟩
          replace hS := hS.u3
          replace hS := hS.u3.n3
          replace hS := hS.u4
          refine O_move rfl rfl rfl rfl rfl ?_
          have hq3 : ∀ y ∈ Qs, y.seqs.length ≤ 1000 := fun y hy => by
            have h1 : y.tell ∈ (nextS O_ib x.1 x.2 L).map tellL := hQs ▸ List.mem_map.2 ⟨y, hy, rfl⟩
            obtain ⟨z, hz, e⟩ := List.mem_map.1 h1
            have h2 := (hw2.2 z hz).1
            have h3 : z.2.2.map Prod.fst = y.seqs := congrArg (fun t => t.2.2) e
            rw [← h3, List.length_map]; omega
          replace hS := (hS.u3).drop
          replace hS := hS.u6
          obtain ⟨ad2, c2, rfl, _, _, _⟩ := sl_form hS
          replace hS := hS.u7.u2.u4
          have hA3 := srcs_rd hS.g3
          replace hS := hS.u5.u6.u3
          have hA4 := srcs_rd hS.g3
          replace hS := hS.u5.u5.u5.u5.u5.g5
          replace hS := hS.u2
          refine O_call rfl rfl rfl rfl Try.call29 rfl (rSame (hA4.sub (fun w0 R w hS => ⟨_, hS.n5.g3⟩)) (hA3.sub (fun w0 R w hS => ⟨_, (hS.n5.u5.u5.u3).g3⟩)) (hQs.trans hQ2.symm) (by omega) (fun y hy => Nat.le_trans (hq3 y hy) (by omega)) (hS.u2)) (fun _ _ hv => trivial) ?_
          rintro _ w ⟨rfl, hS⟩
          replace hS := hS.u2
          replace hS := hS.u2.n5
          replace hS := hS.u6
          refine O_not rfl rfl rfl rfl rfl ?_
          refine R_nil ?_
          refine tn ?_
          refine F_false rfl rfl ?_
          refine F_skip ?_
          refine bn ?_
          refine tn ?_
          refine F_region (p := ⟨_, [0, 0], []⟩) rfl [0, 1] rfl ?_
          refine O_addN rfl rfl rfl rfl rfl rfl (by first | omega | (dsimp only; omega)) ?_
          refine O_move rfl rfl rfl rfl rfl ?_
          refine R_nil ?_
          replace hS := hS.u6.u6.u7
          replace hS := play_mk (L := nextS O_ib x.1 x.2 L) (next_wf hwf) hQ2 hS
          replace hS := hS.u2
          replace hS := hS.sp1.drop
          replace hS := (hS.u4).drop
          replace hS := (hS.u4).drop
          replace hS := hS.u3.u2.u3
          refine tn ⟨rfl, rfl, (.slice ad2 Q'.length c2), Sup.app ⟨rfl, rfl, rfl, trivial⟩ ⟨rfl, congrArg (fun z : Nat => some (Value.int .i64 z)) (show pre.length + 1 = (pre ++ [x]).length by simp), trivial⟩, trivial, hS⟩
end Go.Proofs.Ytpnigaoibhogfaa
