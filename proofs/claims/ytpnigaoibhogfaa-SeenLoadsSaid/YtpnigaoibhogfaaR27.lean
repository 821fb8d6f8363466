/- YtpnigaoibhogfaaR27: a part of the proof: walks over the translated code, and plain facts on lists beside. -/
import Derived.Test.YtpnigaoibhogfaaR26
import Derived.Test.YtpnigaoibhogfaaSlOpen
set_option linter.all false
namespace Go.Proofs.Ytpnigaoibhogfaa
open Go Go.RowKit Go.Sl
set_option linter.unusedVariables false
theorem slf {w0 w : World} {R A : HProp} {ad : Option Addr} {c bo bn bw bm : Nat} {lim x : Int} {xs pre post : List Int} (hA : Rds A ad (xs.map fun n => .int .i64 n)) (hb : xs.length ≤ 100000) (hx : xs = pre ++ x :: post) (hS : Sat w0 (blks [(bo, .cells #[.bool true] 4 (0, 0)), (bn, .cells #[.int .i64 (pre.length : Nat)] 3 (0, 0)), (bw, .cells #[.slice ad xs.length c] 28 (0, 0)), (bm, .cells #[.int .i64 lim] 3 (0, 0))] * (A * R)) w) :
    Calls Try.prog 36 #[.int .i64 x, .pointer (some ⟨bo, 0, none⟩), .pointer (some ⟨bn, 0, none⟩), .pointer (some ⟨bw, 0, none⟩), .pointer (some ⟨bm, 0, none⟩)] w (ret fun u w' => u = .bool (decide ((pre.length : Int) + 1 < lim)) ∧ Sat w0 (blks [(bo, .cells #[.bool true] 4 (0, 0)), (bn, .cells #[.int .i64 ((pre.length : Int) + 1)] 3 (0, 0)), (bw, .cells #[.slice ad xs.length c] 28 (0, 0)), (bm, .cells #[.int .i64 lim] 3 (0, 0))] * (A * R)) w') := by
  have hl : pre.length + (post.length + 1) = xs.length := by rw [hx]; simp
  refine enterF (args := [_, _, _, _, _]) Try.func36 rfl Try.ntmps36 rfl rfl ?_
  refine F_seq ?_
  refine F_region (p := ⟨_, [0], []⟩) rfl [0] rfl ?_
  refine O_assign rfl rfl rfl rfl rfl ?_
  refine R_nil ?_
  refine tn ?_
  refine F_seq ?_
  refine F_region (p := ⟨_, [1, 0, 1, 1, 0, 0, 0, 0, 1, 1, 0, 1, 0, 0, 0, 2], []⟩) rfl [0, 1, 2, 3, 4, 5, 6, 7, 8, 9, 10, 11, 12, 13, 14, 15] rfl ?_
  refine O_loadS hS rfl rfl rfl rfl rfl Try.isAgg4 (by repeat (first | exact .here rfl | apply CellAt.there)) (by trivial) ?_
  refine O_move rfl rfl rfl rfl rfl ?_
  refine R_caseT (t := 8) rfl rfl ?_
  refine O_loadS hS rfl rfl rfl rfl rfl Try.isAgg3 (by repeat (first | exact .here rfl | apply CellAt.there)) (by trivial) ?_
  refine O_loadS hS rfl rfl rfl rfl rfl Try.isAgg28 (by repeat (first | exact .here rfl | apply CellAt.there)) (by trivial) ?_
  refine O_lenSl rfl rfl rfl rfl rfl Try.runUnderlying28 ?_
  refine O_cmp rfl rfl rfl rfl rfl rfl rfl ?_
  refine O_pickT rfl rfl rfl rfl rfl rfl ?_
  refine O_move rfl rfl rfl rfl rfl ?_
  refine R_caseT (t := 14) rfl (decide_eq_true (by omega)) ?_
  refine O_loadS hS rfl rfl rfl rfl rfl Try.isAgg28 (by repeat (first | exact .here rfl | apply CellAt.there)) (by trivial) ?_
  refine O_loadS hS rfl rfl rfl rfl rfl Try.isAgg3 (by repeat (first | exact .here rfl | apply CellAt.there)) (by trivial) ?_
  obtain ⟨ebq1, eoq1, hadq1⟩ := Rds.ad (k := pre.length) (u := (.int .i64 x)) (hA) (hS.u2) (by rw [hx]; simp)
  refine O_indexSlE (m := pre.length) rfl rfl rfl rfl Try.runUnderlying28 Try.sizeOf3 rfl hadq1 rfl rfl (by omega) ?_
  refine O_load rfl rfl rfl rfl rfl Try.isAgg3 (Rds.at (k := pre.length * 1) (u := (.int .i64 x)) (hA) (hS.u2) hadq1 (by rw [hx]; simp)) (by trivial) ?_
  refine O_move rfl rfl rfl rfl rfl ?_
  refine O_cmp rfl rfl rfl rfl rfl rfl rfl ?_
  refine R_caseT (t := 20) rfl (decide_eq_true rfl) ?_
  refine O_pickT rfl rfl rfl rfl rfl rfl ?_
  refine O_storeS hS rfl rfl rfl rfl rfl rfl rfl Try.sizeOf4 (by repeat (first | exact .here rfl rfl | apply SetAt.there)) (fun w' hv => trivial) ?_
  intro w hS
  refine R_nil ?_
  refine tn ?_
  refine F_seq ?_
  refine F_region (p := ⟨_, [1, 0, 2], []⟩) rfl [0, 1, 2] rfl ?_
  refine O_loadS hS rfl rfl rfl rfl rfl Try.isAgg3 (by repeat (first | exact .here rfl | apply CellAt.there)) (by trivial) ?_
  refine O_addN rfl rfl rfl rfl rfl rfl (by first | omega | (dsimp only; omega)) ?_
  refine O_storeS hS rfl rfl rfl rfl rfl rfl rfl Try.sizeOf3 (by repeat (first | exact .here rfl rfl | apply SetAt.there)) (fun w' hv => trivial) ?_
  intro w hS
  refine R_nil ?_
  refine tn ?_
  refine F_seq ?_
  refine F_region (p := ⟨_, [1, 0, 1, 1, 0, 0, 0], []⟩) rfl [0, 1, 2, 3, 4, 5, 6] rfl ?_
  refine O_loadS hS rfl rfl rfl rfl rfl Try.isAgg4 (by repeat (first | exact .here rfl | apply CellAt.there)) (by trivial) ?_
  refine O_move rfl rfl rfl rfl rfl ?_
  refine R_caseT (t := 25) rfl rfl ?_
  refine O_loadS hS rfl rfl rfl rfl rfl Try.isAgg3 (by repeat (first | exact .here rfl | apply CellAt.there)) (by trivial) ?_
  refine O_loadS hS rfl rfl rfl rfl rfl Try.isAgg3 (by repeat (first | exact .here rfl | apply CellAt.there)) (by trivial) ?_
  refine O_cmp rfl rfl rfl rfl rfl rfl rfl ?_
  refine O_pickT rfl rfl rfl rfl rfl rfl ?_
  refine O_assign rfl rfl rfl rfl rfl ?_
  refine R_nil ?_
  refine tn ?_
  refine F_ret ?_
  show endF _ _ _ _ _ _
  refine end0 trivial rfl rfl rfl hS ?_
  intro w hS
  replace hS := hS.u2.u2
  exact ⟨rfl, hS⟩
theorem seenLoads_walk {w0 w : World} {R A : HProp} {ad a1 : Option Addr} {c c1 : Nat} {Q : List Src} {acts : List (ByteArray × Int)} {q : Int} (hq : 0 ≤ q ∧ q ≤ 255) (hA : RdSrc A ad Q) (hnQ : ∀ x ∈ Q, x.name.size ≤ 9223372036854775807) (hB : Rds A a1 (acts.flatMap actE)) (hn : ∀ a ∈ acts, a.1.size ≤ 9223372036854775807) (hS : Sat w0 (A * R) w) :
    Calls Try.prog 7 #[.agg #[.slice ad Q.length c], .slice a1 acts.length c1, .int .u8 q] w (ret fun u w' => u = .bool true ∧ Sat w0 (A * R) w') := by
  replace hS := hS.noblks
  refine enterF (args := [_, _, _]) Try.func7 rfl Try.ntmps7 rfl rfl ?_
  refine F_seq ?_
  refine F_region (p := ⟨_, [2, 0], []⟩) rfl [0, 1] rfl ?_
  refine O_boxS hS rfl rfl rfl rfl rfl (fun _ _ hv => trivial) ?_
  intro b1 w hS
  refine O_assign rfl rfl rfl rfl rfl ?_
  refine R_nil ?_
  refine tn ?_
  refine F_seq ?_
  refine F_seq ?_
  refine F_region (p := ⟨_, [2, 0, 0, 0, 0, 0, 0, 0, 0, 1, 0, 0, 0], []⟩) rfl [0, 1, 2, 3, 4, 5, 6, 7, 8, 9, 10, 11, 12] rfl ?_
  refine O_call rfl rfl rfl rfl Try.call25 rfl (seenAwake (hS)) (fun _ _ hv => trivial) ?_
  rintro _ w ⟨rfl, hS⟩
  refine O_not rfl rfl rfl rfl rfl ?_
  refine O_move rfl rfl rfl rfl rfl ?_
  refine O_move rfl rfl rfl rfl rfl ?_
  refine O_lenSl rfl rfl rfl rfl rfl Try.runUnderlying47 ?_
  refine O_cmp rfl rfl rfl rfl rfl rfl rfl ?_
  refine O_pickF rfl rfl rfl rfl rfl rfl ?_
  refine O_move rfl rfl rfl rfl rfl ?_
  refine R_case (t := 25) rfl (fun ht25 => ?_) (fun ht25 => ?_)
  · try simp only [decide_eq_true_eq, decide_eq_false_iff_not, Bool.not_eq_true', Bool.not_eq_false', Bool.not_true, Bool.not_false, Option.isNone_iff_eq_none, Bool.false_eq_true, Bool.true_eq_false] at ht25
    refine R_skip rfl rfl rfl rfl ?_
    refine R_skip rfl rfl rfl rfl ?_
    refine R_skip rfl rfl rfl rfl ?_
    refine R_skip rfl rfl rfl rfl ?_
    refine O_pickT rfl rfl rfl rfl rfl rfl ?_
    refine R_nil ?_
    refine tn ?_
    refine F_true rfl rfl ?_
    refine F_seq ?_
    refine F_region (p := ⟨_, [2, 0], []⟩) rfl [0, 1] rfl ?_
    refine O_call rfl rfl rfl rfl Try.call25 rfl (seenAwake (hS)) (fun _ _ hv => trivial) ?_
    rintro _ w ⟨rfl, hS⟩
    refine O_assign rfl rfl rfl rfl rfl ?_
    refine R_nil ?_
    refine tn ?_
    refine F_ret ?_
    refine tr ?_
    show endF _ _ _ _ _ _
    refine end0 trivial rfl rfl rfl hS ?_
    intro w hS
    replace hS := (hS).drop
    exact ⟨rfl, hS⟩
  · try simp only [decide_eq_true_eq, decide_eq_false_iff_not, Bool.not_eq_true', Bool.not_eq_false', Bool.not_true, Bool.not_false, Option.isNone_iff_eq_none, Bool.false_eq_true, Bool.true_eq_false] at ht25
    refine O_fieldAddr rfl rfl rfl rfl rfl Try.runUnderlying61 rfl Try.sizeOf59 ?_
    refine O_loadS hS rfl rfl rfl rfl rfl Try.isAgg59 (by repeat (first | exact .here rfl | apply CellAt.there)) (by trivial) ?_
    refine O_lenSl rfl rfl rfl rfl rfl Try.runUnderlying59 ?_
    refine O_cmp rfl rfl rfl rfl rfl rfl rfl ?_
    refine O_pickF rfl rfl rfl rfl rfl rfl ?_
    refine R_nil ?_
    refine tn ?_
    refine F_cond rfl (fun h30 => ?_) (fun h30 => ?_)
    · try simp only [decide_eq_true_eq, decide_eq_false_iff_not, Bool.not_eq_true', Bool.not_eq_false', Bool.not_true, Bool.not_false, Option.isNone_iff_eq_none, Bool.false_eq_true, Bool.true_eq_false] at h30
      refine F_seq ?_
      refine F_region (p := ⟨_, [2, 0], []⟩) rfl [0, 1] rfl ?_
      refine O_call rfl rfl rfl rfl Try.call25 rfl (seenAwake (hS)) (fun _ _ hv => trivial) ?_
      rintro _ w ⟨rfl, hS⟩
      refine O_assign rfl rfl rfl rfl rfl ?_
      refine R_nil ?_
      refine tn ?_
      refine F_ret ?_
      refine tr ?_
      show endF _ _ _ _ _ _
      refine end0 trivial rfl rfl rfl hS ?_
      intro w hS
      replace hS := (hS).drop
      exact ⟨rfl, hS⟩
    · try simp only [decide_eq_true_eq, decide_eq_false_iff_not, Bool.not_eq_true', Bool.not_eq_false', Bool.not_true, Bool.not_false, Option.isNone_iff_eq_none, Bool.false_eq_true, Bool.true_eq_false] at h30
      refine F_skip ?_
      refine tn ?_
      refine F_seq ?_
      refine F_seq ?_
      refine F_region (p := ⟨_, [0, 1, 0, 0], []⟩) rfl [0, 1, 2, 3] rfl ?_
      refine O_fieldAddr rfl rfl rfl rfl rfl Try.runUnderlying61 rfl Try.sizeOf59 ?_
      refine O_loadS hS rfl rfl rfl rfl rfl Try.isAgg59 (by repeat (first | exact .here rfl | apply CellAt.there)) (by trivial) ?_
      refine O_lenSl rfl rfl rfl rfl rfl Try.runUnderlying59 ?_
      refine O_move rfl rfl rfl rfl rfl ?_
      refine R_nil ?_
      refine tn ?_
      refine F_block ?_
      refine F_loopL (α := (Src)) (σ := (Unit)) (Q) [(1, _), (2, _), (3, _), (33, _), (34, _)] (fun (pre : List (Src)) (st : Unit) => [(35, (.int .i64 (pre.length : Nat)))]) (fun (pre : List (Src)) (st : Unit) => hemp) (fun (pre : List (Src)) (st : Unit) => ∀ y ∈ pre, y.seqs.length ≤ 60) () (Sup.app ⟨rfl, rfl, rfl, rfl, rfl, trivial⟩ ⟨rfl, trivial⟩) (hS.to (hemp_star _).symm) (by simp) ?_ ?_
      · clear hS
        intro st w hI hS
        replace hS := hS.to (hemp_star _)
        refine wpF.sup (L := [(1, _), (2, _), (3, _), (33, _), (34, _), (35, _)]) ?_ ⟨rfl, rfl, rfl, rfl, rfl, rfl, trivial⟩
        have h60 : ∀ y ∈ Q, y.seqs.length ≤ 60 := hI
        refine F_seq ?_
        refine F_region (p := ⟨_, [0], []⟩) rfl [0] rfl ?_
        refine O_cmp rfl rfl rfl rfl rfl rfl rfl ?_
        refine R_nil ?_
        refine tn ?_
        refine F_seq ?_
        refine F_false rfl (decide_eq_false (by omega)) ?_
        refine F_exit ?_
        refine tx ?_
        refine tx ?_
        refine Go.Sl.bx rfl ?_
        refine tn ?_
        refine F_seq ?_
        refine F_region (p := ⟨_, [1, 2, 0], []⟩) rfl [0, 1, 2] rfl ?_
        refine O_loadAgg [_] rfl rfl rfl rfl rfl Try.isAgg61 Try.sizeOf61 rfl (CellsAt.rd ⟨(by repeat (first | exact .here rfl | apply CellAt.there)), trivial⟩ (hS)) (by trivial) ?_
        refine O_call rfl rfl rfl rfl Try.call30 rfl (lawRef hA (by omega) (hS.u2)) (fun _ _ hv => trivial) ?_
        rintro _ w ⟨adr, cr, rfl, hS⟩
        have hnr := sl_nilK hS
        obtain ⟨_, _, ecr, hler, hcmr, _⟩ := sl_form hS
        cases ecr
        have hG := hA.copy (e := 69) (ad' := adr) (c := cr) (n := Q.length)
        replace hS := hS.u3
        refine O_assign rfl rfl rfl rfl rfl ?_
        refine R_nil ?_
        refine tn ?_
        refine F_seq ?_
        refine F_region (p := ⟨_, [1, 2, 0, 0, 0, 0, 0], []⟩) rfl [0, 1, 2, 3, 4, 5, 6] rfl ?_
        refine O_loadAgg [_] rfl rfl rfl rfl rfl Try.isAgg61 Try.sizeOf61 rfl (CellsAt.rd ⟨(by repeat (first | exact .here rfl | apply CellAt.there)), trivial⟩ (hS)) (by trivial) ?_
        refine O_call rfl rfl rfl rfl Try.call32 rfl (seenLoad hA (by omega) (fun x hx => Nat.le_trans (h60 x hx) (by omega)) hnQ (hS.u3)) (fun _ _ hv => trivial) ?_
        rintro _ w (⟨hok, sb, rfl, hS⟩ | ⟨hok, rfl, hS⟩)
        · replace hS := hS.u3
          refine O_move rfl rfl rfl rfl rfl ?_
          refine O_extract rfl rfl rfl rfl rfl rfl ?_
          refine O_extract rfl rfl rfl rfl rfl rfl ?_
          refine O_assign rfl rfl rfl rfl rfl ?_
          refine O_assign rfl rfl rfl rfl rfl ?_
          refine R_nil ?_
          refine tn ?_
          refine F_seq ?_
          refine F_seq ?_
          refine F_region (p := ⟨_, [0, 2, 0], []⟩) rfl [0, 1, 2] rfl ?_
          refine O_move rfl rfl rfl rfl rfl ?_
          replace hS := hS.u4.u4.g2
          replace hS := hS.u2
          refine O_call rfl rfl rfl rfl Try.call33 rfl (rRight hG (by omega) (fun x hx => Nat.le_trans (h60 x hx) (by omega)) hnQ (hS.u2)) (fun _ _ hv => trivial) ?_
          rintro _ w ⟨tr, rfl, htr, hS⟩
          have htr2 : tr = true := htr.2 hok
          subst htr2
          replace hS := hS.u2
          replace hS := hS.u2.n2
          replace hS := hS.u3
          refine O_not rfl rfl rfl rfl rfl ?_
          refine R_nil ?_
          refine tn ?_
          refine F_false rfl rfl ?_
          refine F_skip ?_
          refine tn ?_
          refine F_seq ?_
          refine F_seq ?_
          refine F_region (p := ⟨_, [0, 0, 0, 0, 0, 0, 0, 0, 2, 2, 0, 2, 0, 0], []⟩) rfl [0, 1, 2, 3, 4, 5, 6, 7, 8, 9, 10, 11, 12, 13] rfl ?_
          refine O_move rfl rfl rfl rfl rfl ?_
          refine O_cmp rfl rfl rfl rfl rfl rfl rfl ?_
          refine O_move rfl rfl rfl rfl rfl ?_
          refine R_caseF (t := 62) rfl rfl ?_
          refine O_move rfl rfl rfl rfl rfl ?_
          refine O_eqNil rfl rfl rfl rfl rfl rfl Try.runUnderlying48 ?_
          refine O_pickF rfl rfl rfl rfl rfl rfl ?_
          refine O_move rfl rfl rfl rfl rfl ?_
          refine R_caseF (t := 66) rfl rfl ?_
          refine O_move rfl rfl rfl rfl rfl ?_
          have hwf := bld_wf hok (O := O_ib) (fun _ _ => rfl)
          have hwl := hwf.1
          refine O_call rfl rfl rfl rfl Try.call31 rfl (seenState (P0 := A) (by omega) (fun y hy => Nat.le_trans (hwf.2 y hy).1 (by omega)) (hS.u4)) (fun _ _ hv => trivial) ?_
          rintro _ w ⟨ads, cs, Qs, rfl, hQs, hS⟩
          rw [bld_tell] at hQs
          replace hS := hS.u4
          have hQsl := congrArg List.length hQs
          simp only [List.length_map] at hQsl
          replace hS := hS.u3.u3.u5.g3
          have hA65 := srcs_rd hS
          replace hS := hS.u2
          refine O_call rfl rfl rfl rfl Try.call30 rfl (lawRef hA65 (by omega) (hS.u2)) (fun _ _ hv => trivial) ?_
          rintro _ w ⟨adf, cf, rfl, hS⟩
          replace hS := hS.u3
          replace hS := hS.u3.n3
          replace hS := (hS.u2).drop
          replace hS := hS.u2.u4.u3
          have hA4 := srcs_rd hS.g3
          replace hS := hS.u4
          refine O_move rfl rfl rfl rfl rfl ?_
          replace hS := hS.u6.u5.u5.u5.g4
          replace hS := hS.u2
          have hq3 : ∀ y ∈ Qs, y.seqs.length ≤ 1000 := fun y hy => by
            have h1 : y.tell ∈ Q.map Src.tell := hQs ▸ List.mem_map.2 ⟨y, hy, rfl⟩
            obtain ⟨z, hz, e⟩ := List.mem_map.1 h1
            have h2 := h60 z hz
            have h3 : z.seqs = y.seqs := congrArg (fun t => t.2.2) e
            rw [← h3]; omega
          have hQsl2 := congrArg List.length hQs
          simp only [List.length_map] at hQsl2
          refine O_call rfl rfl rfl rfl Try.call29 rfl (rSame (hA4.sub (fun w0 R w hS => ⟨_, hS.n4.g3⟩)) (hG.sub (fun w0 R w hS => ⟨_, (hS.n4.u4.u2).g2⟩)) hQs (by omega) (fun y hy => Nat.le_trans (hq3 y hy) (by omega)) (hS.u2)) (fun _ _ hv => trivial) ?_
          rintro _ w ⟨rfl, hS⟩
          replace hS := hS.u2
          replace hS := hS.u2.n4
          replace hS := (hS.u2).drop
          replace hS := (hS.u2).drop
          replace hS := hS.u3
          refine O_not rfl rfl rfl rfl rfl ?_
          refine O_pickF rfl rfl rfl rfl rfl rfl ?_
          refine R_nil ?_
          refine tn ?_
          refine F_false rfl rfl ?_
          refine F_skip ?_
          refine tn ?_
          refine F_seq ?_
          refine F_seq ?_
          refine F_region (p := ⟨_, [2, 0, 2, 0, 2, 2, 0, 0], []⟩) rfl [0, 1, 2, 3, 4, 5, 6, 7] rfl ?_
          refine O_sliceLit hS rfl rfl rfl rfl Try.runUnderlying57 Try.sizeOf69 Try.zeroValue69 rfl (by decide) rfl rfl rfl (cs := []) rfl rfl (fun _ _ hv => trivial) ?_
          intro z1 w hS
          replace hS := hS.u2
          refine O_move rfl rfl rfl rfl rfl ?_
          have hrdv1 := sl_rd (hS.u4)
          replace hS := hS.u2
          refine O_append (m := Q.length) (news := (Q.flatMap srcE)) hS rfl rfl rfl rfl Try.underlying57 info_src rfl (by decide) rfl rfl (by rw [flen (k := 3) (fun _ => rfl)]) (fun e => by have := hnr e; exact ⟨this, by omega⟩) hrdv1 (srcE_one hA (fun _ h => h)) (by simp only [maxLen]; omega) (by omega) (fun _ _ hv => trivial) ?_
          intro v1 w hnilv1 hS
          obtain ⟨adv1, capv1, rfl, hlev1, hcapv1, _⟩ := sl_form hS
          replace hS := hS.u2
          refine O_build rfl rfl rfl rfl rfl (run_buildS [_, _, _] Try.zeroValue69 Try.runUnderlying69 (fun _ => 1) ⟨Try.sizeOf9, Try.sizeOf3, Try.sizeOf28, trivial⟩ rfl) ?_
          refine O_sliceLit hS rfl rfl rfl rfl Try.runUnderlying57 Try.sizeOf69 Try.zeroValue69 rfl (by decide) rfl rfl rfl (cs := [_, _, _]) rfl rfl (fun _ _ hv => trivial) ?_
          intro z2 w hS
          replace hS := hS.u2
          have hrdv2 := sl_rd (hS.u2)
          replace hS := hS.u3
          refine O_append (m := 1) (news := (srcE (Src.mk ⟨#[110, 111, 98, 111, 100, 121, 46, 116, 104, 101, 114, 101]⟩ 0 (.slice none 0 0) []))) hS rfl rfl rfl rfl Try.underlying57 info_src rfl (by decide) rfl rfl rfl (by intro e; cases e) hrdv2 (by simp [srcE, Value.oneCell']) (by simp only [maxLen]; omega) (by omega) (fun _ _ hv => trivial) ?_
          intro v2 w hnilv2 hS
          obtain ⟨adv2, capv2, rfl, hlev2, hcapv2, _⟩ := sl_form hS
          replace hS := hS.u2
          replace hS := hS.u2
          replace hS := Sat.slc (n' := 0 + Q.length + 1) (xs' := (Q ++ [(Src.mk ⟨#[110, 111, 98, 111, 100, 121, 46, 116, 104, 101, 114, 101]⟩ 0 (.slice none 0 0) [])]).flatMap srcE) hS rfl (by simp [List.flatMap_append])
          replace hS := hS.u2
          refine O_lenSl rfl rfl rfl rfl rfl Try.runUnderlying57 ?_
          refine O_move rfl rfl rfl rfl rfl ?_
          refine R_nil ?_
          refine tn ?_
          refine F_block ?_
          refine F_loopL (α := (Src)) (σ := (Unit)) (Q ++ [(Src.mk ⟨#[110, 111, 98, 111, 100, 121, 46, 116, 104, 101, 114, 101]⟩ 0 (.slice none 0 0) [])]) [(1, _), (2, _), (3, _), (9, _), (10, _), (33, _), (34, _), (35, _), (79, _), (80, _)] (fun (pre : List (Src)) (st : Unit) => [(81, (.int .i64 (pre.length : Nat)))]) (fun (pre : List (Src)) (st : Unit) => hemp) (fun (pre : List (Src)) (st : Unit) => True) () (Sup.app ⟨rfl, rfl, rfl, rfl, rfl, rfl, rfl, rfl, rfl, rfl, trivial⟩ ⟨rfl, trivial⟩) (hS.to (hemp_star _).symm) trivial ?_ ?_
          · clear hS
            intro st w hI hS
            replace hS := hS.to (hemp_star _)
            refine wpF.sup (L := [(1, _), (2, _), (3, _), (9, _), (10, _), (33, _), (34, _), (35, _), (79, _), (80, _), (81, _)]) ?_ ⟨rfl, rfl, rfl, rfl, rfl, rfl, rfl, rfl, rfl, rfl, rfl, trivial⟩
            refine F_seq ?_
            refine F_region (p := ⟨_, [0], []⟩) rfl [0] rfl ?_
            refine O_cmp rfl rfl rfl rfl rfl rfl rfl ?_
            refine R_nil ?_
            refine tn ?_
            refine F_seq ?_
            refine F_false rfl (decide_eq_false (by simp)) ?_
            refine F_exit ?_
            refine tx ?_
            refine tx ?_
            refine Go.Sl.bx rfl ?_
            refine tn ?_
            refine F_seq ?_
            refine F_region (p := ⟨_, [0, 0, 0, 2, 0], []⟩) rfl [0, 1, 2, 3, 4] rfl ?_
            refine O_move rfl rfl rfl rfl rfl ?_
            refine O_move rfl rfl rfl rfl rfl ?_
            refine O_move rfl rfl rfl rfl rfl ?_
            replace hS := hS.u5.u6
            replace hS := play_mk (P0 := A) (O := O_ib) (Q := Q) (bld_wf hok (fun _ _ => rfl)) bld_tell.symm ((srcP_pool (ad := ad) hA.2 hS).d3)
            replace hS := hS.u2
            refine O_call rfl rfl rfl rfl Try.call26 rfl (seenPlay hB (by omega) hn (hS.u2.u5)) (fun _ _ hv => trivial) ?_
            rintro _ w ⟨rfl, hS⟩
            replace hS := hS.u2
            refine O_assign rfl rfl rfl rfl rfl ?_
            refine R_nil ?_
            refine tn ?_
            refine F_ret ?_
            show endF _ _ _ _ _ _
            refine end0 trivial rfl rfl rfl hS ?_
            intro w hS
            replace hS := (hS).drop
            replace hS := (hS.u2).drop
            replace hS := (hS.u2).drop
            exact ⟨rfl, hS⟩
          · clear hS
            intro pre x post st w hx hI hS
            replace hS := hS.to (hemp_star _)
            refine wpF.sup (L := [(1, _), (2, _), (3, _), (9, _), (10, _), (33, _), (34, _), (35, _), (79, _), (80, _), (81, _)]) ?_ ⟨rfl, rfl, rfl, rfl, rfl, rfl, rfl, rfl, rfl, rfl, rfl, trivial⟩
            have hlx : pre.length + (post.length + 1) = Q.length + 1 := by have := congrArg List.length hx; simpa using this.symm
            have hxQ : x ∈ Q ++ [(Src.mk ⟨#[110, 111, 98, 111, 100, 121, 46, 116, 104, 101, 114, 101]⟩ 0 (.slice none 0 0) [])] := by rw [hx]; simp
            have hxn : x.name.size ≤ 9223372036854775807 := by
              rcases List.mem_append.1 hxQ with h | h
              · exact hnQ x h
              · rw [List.mem_singleton.1 h]; decide
            obtain ⟨adx, cx, nx, hxv⟩ : ∃ a c n, x.v = .slice a n c := by
              rcases List.mem_append.1 hxQ with h | h
              · obtain ⟨a, c, h1, _⟩ := hA.2 x h; exact ⟨a, c, _, h1⟩
              · rw [List.mem_singleton.1 h]; exact ⟨none, 0, 0, rfl⟩
            refine F_seq ?_
            refine F_region (p := ⟨_, [0], []⟩) rfl [0] rfl ?_
            refine O_cmp rfl rfl rfl rfl rfl rfl rfl ?_
            refine R_nil ?_
            refine tn ?_
            refine F_seq ?_
            refine F_true rfl (decide_eq_true (by omega)) ?_
            refine F_skip ?_
            refine tn ?_
            refine F_seq ?_
            refine F_block ?_
            refine F_seq ?_
            refine F_region (p := ⟨_, [0, 1, 2, 2], []⟩) rfl [0, 1, 2, 3] rfl ?_
            obtain ⟨ebq1, eoq1, hadq1⟩ := Rds.adF (m := pre.length) (x := x) (enc := srcE) (size := 3) (fun _ => rfl) (by decide) ((sl_rds (e := 69) (size := 3) (n := (0 + Q.length + 1)) (cap := capv2) (xs := (Q ++ [(Src.mk ⟨#[110, 111, 98, 111, 100, 121, 46, 116, 104, 101, 114, 101]⟩ 0 (.slice none 0 0) [])]).flatMap srcE))) (hS.u2) (by rw [hx]; simp)
            refine O_indexSlE (m := pre.length) rfl rfl rfl rfl Try.runUnderlying57 Try.sizeOf69 rfl hadq1 rfl rfl (by omega) ?_
            refine O_loadAgg ((srcE x)) rfl rfl rfl rfl rfl Try.isAgg69 Try.sizeOf69 rfl (Rds.row (m := pre.length) (x := x) (enc := srcE) (size := 3) (fun _ => rfl) (by decide) ((sl_rds (e := 69) (size := 3) (n := (0 + Q.length + 1)) (cap := capv2) (xs := (Q ++ [(Src.mk ⟨#[110, 111, 98, 111, 100, 121, 46, 116, 104, 101, 114, 101]⟩ 0 (.slice none 0 0) [])]).flatMap srcE))) (hS.u2) hadq1 (by rw [hx]; simp)) (by trivial) ?_
            refine O_allocS hS rfl rfl rfl rfl Try.zeroValue69 (fun _ _ hv => trivial) ?_
            intro b2 w hS
            refine O_storeAgg (cs := [_, _, _]) hS rfl rfl rfl rfl rfl rfl Try.sizeOf69 rfl (Nat.le_of_ble_eq_true rfl) (by simp [one, srcE, hxv]) (fun _ hv => trivial) ?_
            intro w hS
            dsimp only [setsL, List.set_cons_zero, List.set_cons_succ, Value.cells] at hS
            refine R_nil ?_
            refine tn ?_
            refine F_seq ?_
            refine F_region (p := ⟨_, [0, 0, 1, 2, 2, 2], []⟩) rfl [0, 1, 2, 3, 4, 5] rfl ?_
            refine O_move rfl rfl rfl rfl rfl ?_
            refine O_fieldAddr rfl rfl rfl rfl rfl Try.runUnderlying69 rfl Try.sizeOf9 ?_
            refine O_loadS hS rfl rfl rfl rfl rfl Try.isAgg9 (by repeat (first | exact .here rfl | apply CellAt.there)) (by trivial) ?_
            replace hS := hS.u5.u5.g2
            replace hS := hS.u2
            refine O_call rfl rfl rfl rfl Try.call34 rfl (rAll hG (by omega) x.name hxn (hS.u2)) (fun _ _ hv => trivial) ?_
            rintro _ w ⟨adw, cw, xs, rfl, hxs, hlw, hcw, hAw, hS⟩
            have hxl : xs.length ≤ 100 := by
              rw [hxs]
              cases hg : Go.Sl.get O_S x.name (Q.map Src.tell) with
              | none => simp
              | some d => obtain ⟨z, hz, hzd⟩ := get_mem hg; obtain ⟨z0, hz0, e⟩ := List.mem_map.1 hz; have := h60 z0 hz0; rw [← hzd, ← e]; simp only [Option.getD_some, Src.tell]; omega
            replace hS := hS.u2
            replace hS := hS.u2.n2
            replace hS := hS.u3
            refine O_allocS hS rfl rfl rfl rfl Try.zeroValue28 (fun _ _ hv => trivial) ?_
            intro b3 w hS
            refine O_storeS hS rfl rfl rfl rfl rfl rfl rfl Try.sizeOf28 (by repeat (first | exact .here rfl rfl | apply SetAt.there)) (fun w' hv => trivial) ?_
            intro w hS
            refine R_nil ?_
            refine tn ?_
            refine F_seq ?_
            refine F_region (p := ⟨_, [0, 0, 0, 2, 2, 2, 2, 2, 2], []⟩) rfl [0, 1, 2, 3, 4, 5, 6, 7, 8] rfl ?_
            refine O_move rfl rfl rfl rfl rfl ?_
            refine O_rem rfl rfl rfl rfl rfl rfl (by decide) ?_
            obtain ⟨m, hm⟩ : ∃ m, m = q.tmod 40 := ⟨_, rfl⟩
            have hmb : 0 ≤ m ∧ m < 40 := by rw [hm]; exact ⟨Int.tmod_nonneg _ hq.1, Int.tmod_lt_of_pos _ (by decide)⟩
            rw [← hm]
            refine O_convI rfl rfl rfl rfl Try.runUnderlying5 Try.runUnderlying3 rfl (by omega) ?_
            refine O_allocS hS rfl rfl rfl rfl Try.zeroValue3 (fun _ _ hv => trivial) ?_
            intro b4 w hS
            refine O_allocS hS rfl rfl rfl rfl Try.zeroValue3 (fun _ _ hv => trivial) ?_
            intro b5 w hS
            refine O_allocS hS rfl rfl rfl rfl Try.zeroValue4 (fun _ _ hv => trivial) ?_
            intro b6 w hS
            refine O_storeS hS rfl rfl rfl rfl rfl rfl rfl Try.sizeOf3 (by repeat (first | exact .here rfl rfl | apply SetAt.there)) (fun w' hv => trivial) ?_
            intro w hS
            refine O_storeS hS rfl rfl rfl rfl rfl rfl rfl Try.sizeOf3 (by repeat (first | exact .here rfl rfl | apply SetAt.there)) (fun w' hv => trivial) ?_
            intro w hS
            refine O_storeS hS rfl rfl rfl rfl rfl rfl rfl Try.sizeOf4 (by repeat (first | exact .here rfl rfl | apply SetAt.there)) (fun w' hv => trivial) ?_
            intro w hS
            refine R_nil ?_
            refine tn ?_
            refine F_seq ?_
            refine F_region (p := ⟨_, [0, 0, 1, 2, 0, 2], []⟩) rfl [0, 1, 2, 3, 4, 5] rfl ?_
            refine O_move rfl rfl rfl rfl rfl ?_
            refine O_fieldAddr rfl rfl rfl rfl rfl Try.runUnderlying69 rfl Try.sizeOf9 ?_
            refine O_loadS hS rfl rfl rfl rfl rfl Try.isAgg9 (by repeat (first | exact .here rfl | apply CellAt.there)) (by trivial) ?_
            refine O_call rfl rfl rfl rfl Try.call35 rfl (seenAll ⟨_, rfl⟩ (hS)) (fun _ _ hv => trivial) ?_
            rintro _ w ⟨k1, k2, rfl, hS⟩
            replace hS := hS.u2
            refine O_makeFunc rfl rfl rfl rfl rfl rfl ?_
            replace hS := hS.lk2.lk4.lk4.lk4
            replace hS := hS.sp4
            replace hS := hS.u5.u5.g2
            replace hS := hS.u2.g2
            replace hS := hS.u6.u4.g2
            replace hS := hS.u2
            replace hS := Sat.mkpure (p := (([] : List Int) = [] ∨ ((([] : List Int).length : Nat) : Int) < m)) (.inl rfl) hS
            have hxs2 : ((Go.Sl.get O_sc x.name (bldL (Q.map Src.tell))).getD (0, [])).2.map Prod.fst = xs := by rw [hxs]; exact bld_get
            have hy : ∀ pre x post R w, xs = pre ++ x :: post → Sat w0 ((fun pre : List Int => pur (pre = [] ∨ (pre.length : Int) < m) * (blks [(b6, .cells #[.bool true] 4 (0, 0)), (b4, .cells #[.int .i64 (pre.length : Nat)] 3 (0, 0)), (b3, .cells #[.slice adw xs.length cw] 28 (0, 0)), (b5, .cells #[.int .i64 m] 3 (0, 0))] * (A * sl 69 3 (.slice adr Q.length cr) Q.length (Q.flatMap srcE)))) pre * R) w → FV Try.prog (.func (.func 36) #[] #[.pointer (some ⟨b6, 0, none⟩), .pointer (some ⟨b4, 0, none⟩), .pointer (some ⟨b3, 0, none⟩), .pointer (some ⟨b5, 0, none⟩)]) ((fun x => [E_ii.k x].toArray) x) w (fun r w' => (r = .bool true ∧ Sat w0 ((fun pre : List Int => pur (pre = [] ∨ (pre.length : Int) < m) * (blks [(b6, .cells #[.bool true] 4 (0, 0)), (b4, .cells #[.int .i64 (pre.length : Nat)] 3 (0, 0)), (b3, .cells #[.slice adw xs.length cw] 28 (0, 0)), (b5, .cells #[.int .i64 m] 3 (0, 0))] * (A * sl 69 3 (.slice adr Q.length cr) Q.length (Q.flatMap srcE)))) (pre ++ [x]) * R) w') ∨ (r = .bool false ∧ Sat w0 ((fun pre : List Int => pur (¬ pre = [] ∧ (pre.length : Int) = max m 1) * (blks [(b6, .cells #[.bool true] 4 (0, 0)), (b4, .cells #[.int .i64 (pre.length : Nat)] 3 (0, 0)), (b3, .cells #[.slice adw xs.length cw] 28 (0, 0)), (b5, .cells #[.int .i64 m] 3 (0, 0))] * (A * sl 69 3 (.slice adr Q.length cr) Q.length (Q.flatMap srcE)))) (pre ++ [x]) * R) w')) := by
              intro pre x post R w hx hS
              obtain ⟨hp, hS⟩ := Sat.pure (hS.to (star_assoc _ _ _))
              refine FV.of_list (args := [E_ii.k x]) (cap := [.pointer (some ⟨b6, 0, none⟩), .pointer (some ⟨b4, 0, none⟩), .pointer (some ⟨b3, 0, none⟩), .pointer (some ⟨b5, 0, none⟩)]) Try.call36 (Calls.mono' (slf hAw (by omega) hx hS.n2) ?_)
              rintro e w' ⟨u, rfl, rfl, hS⟩
              have hlen : ((pre ++ [x]).length : Int) = (pre.length : Int) + 1 := by simp
              by_cases hlt : (pre.length : Int) + 1 < m
              · refine ⟨_, rfl, .inl ⟨congrArg Value.bool (decide_eq_true hlt), ?_⟩⟩
                exact (Sat.mkpure (p := (pre ++ [x] = [] ∨ ((pre ++ [x]).length : Int) < m)) (.inr (by omega)) hS.g2).to (by simp only [hlen]; ac_rfl)
              · have hmx : ((pre ++ [x]).length : Int) = max m 1 := by
                  rcases hp with h | h
                  · rw [h] at hlt ⊢; simp at hlt ⊢; omega
                  · omega
                refine ⟨_, rfl, .inr ⟨congrArg Value.bool (decide_eq_false hlt), ?_⟩⟩
                exact (Sat.mkpure (p := (¬ pre ++ [x] = [] ∧ ((pre ++ [x]).length : Int) = max m 1)) ⟨by simp, hmx⟩ hS.g2).to (by simp only [hlen]; ac_rfl)
            replace hS := hS.g2
            refine O_callv rfl rfl rfl rfl rfl rfl (seen_all_iter (sb := sb) (b1 := k1) (b2 := k2) (name := x.name) (L := bldL (Q.map Src.tell)) w0 (.func (.func 36) #[] #[.pointer (some ⟨b6, 0, none⟩), .pointer (some ⟨b4, 0, none⟩), .pointer (some ⟨b3, 0, none⟩), .pointer (some ⟨b5, 0, none⟩)]) (fun pre : List Int => pur (pre = [] ∨ (pre.length : Int) < m) * (blks [(b6, .cells #[.bool true] 4 (0, 0)), (b4, .cells #[.int .i64 (pre.length : Nat)] 3 (0, 0)), (b3, .cells #[.slice adw xs.length cw] 28 (0, 0)), (b5, .cells #[.int .i64 m] 3 (0, 0))] * (A * sl 69 3 (.slice adr Q.length cr) Q.length (Q.flatMap srcE)))) (fun pre : List Int => pur (¬ pre = [] ∧ (pre.length : Int) = max m 1) * (blks [(b6, .cells #[.bool true] 4 (0, 0)), (b4, .cells #[.int .i64 (pre.length : Nat)] 3 (0, 0)), (b3, .cells #[.slice adw xs.length cw] 28 (0, 0)), (b5, .cells #[.int .i64 m] 3 (0, 0))] * (A * sl 69 3 (.slice adr Q.length cr) Q.length (Q.flatMap srcE)))) ⟨_, _, _, rfl⟩ (hxs2 ▸ hy) _ _ (hS.u2)) (fun _ _ hv => trivial) ?_
            rintro _ w (hS | ⟨pre2, hpre, hS⟩)
            · replace hS := hS.u2
              obtain ⟨hp, hS2⟩ := Sat.pure hS.n2
              clear hS
              have hS := hS2
              clear hS2
              replace hS := hS.n2
              replace hS := hS.u4.u2
              replace hS := hS.jn4
              replace hS := hS.u2.n2
              replace hS := hS.u4.n2
              replace hS := (hS).drop
              skip
              have hres : (((((Go.Sl.get O_sc x.name (bldL (Q.map Src.tell))).getD (0, [])).2.map Prod.fst).length : Nat) : Int) = min (xs.length : Int) (max m 1) := by
                rw [hxs2] at hp ⊢
                rcases hp with h | h
                · have := congrArg List.length h; simp only [List.length_nil] at this; omega
                · omega
              replace hS := hS.u4
              refine R_nil ?_
              refine tn ?_
              refine F_seq ?_
              refine F_region (p := ⟨_, [1, 0, 0, 1, 1, 0, 1, 0, 0, 0, 0], []⟩) rfl [0, 1, 2, 3, 4, 5, 6, 7, 8, 9, 10] rfl ?_
              refine O_loadS hS rfl rfl rfl rfl rfl Try.isAgg4 (by repeat (first | exact .here rfl | apply CellAt.there)) (by trivial) ?_
              refine O_not rfl rfl rfl rfl rfl ?_
              refine O_move rfl rfl rfl rfl rfl ?_
              refine R_caseF (t := 100) rfl rfl ?_
              refine O_loadS hS rfl rfl rfl rfl rfl Try.isAgg3 (by repeat (first | exact .here rfl | apply CellAt.there)) (by trivial) ?_
              refine O_loadS hS rfl rfl rfl rfl rfl Try.isAgg28 (by repeat (first | exact .here rfl | apply CellAt.there)) (by trivial) ?_
              refine O_lenSl rfl rfl rfl rfl rfl Try.runUnderlying28 ?_
              refine O_loadS hS rfl rfl rfl rfl rfl Try.isAgg3 (by repeat (first | exact .here rfl | apply CellAt.there)) (by trivial) ?_
              refine O_max2 rfl rfl rfl rfl rfl rfl ?_
              refine O_min2 rfl rfl rfl rfl rfl rfl ?_
              refine O_cmp rfl rfl rfl rfl rfl rfl rfl ?_
              refine O_pickF rfl rfl rfl rfl rfl rfl ?_
              refine R_nil ?_
              refine tn ?_
              refine F_false rfl (by rw [Bool.not_eq_false', decide_eq_true_eq]; exact hres) ?_
              refine F_skip ?_
              refine bn ?_
              refine tn ?_
              refine F_region (p := ⟨_, [0, 0], []⟩) rfl [0, 1] rfl ?_
              refine O_addN rfl rfl rfl rfl rfl rfl (by first | omega | (dsimp only; omega)) ?_
              refine O_move rfl rfl rfl rfl rfl ?_
              refine R_nil ?_
              replace hS := hS.sp1.drop
              replace hS := hS.sp1.drop
              replace hS := hS.sp1.drop
              replace hS := hS.sp1.drop
              replace hS := hS.sp1.drop
              replace hS := hS.u2.u4.u4.u6.u6.u6
              refine tn ⟨rfl, rfl, (), Sup.app ⟨rfl, rfl, rfl, rfl, rfl, rfl, rfl, rfl, rfl, rfl, trivial⟩ ⟨congrArg (fun z : Nat => some (Value.int .i64 z)) (show pre.length + 1 = (pre ++ [x]).length by simp), trivial⟩, trivial, hS.to (hemp_star _).symm⟩
            · replace hS := hS.u2
              obtain ⟨hp, hS2⟩ := Sat.pure hS.n2
              clear hS
              have hS := hS2
              clear hS2
              replace hS := hS.n2
              replace hS := hS.u4.u2
              replace hS := hS.jn4
              replace hS := hS.u2.n2
              replace hS := hS.u4.n2
              replace hS := (hS).drop
              have hle := hpre.length_le
              rw [hxs2] at hle
              have hres : ((pre2.length : Nat) : Int) = min (xs.length : Int) (max m 1) := by omega
              replace hS := hS.u4
              refine R_nil ?_
              refine tn ?_
              refine F_seq ?_
              refine F_region (p := ⟨_, [1, 0, 0, 1, 1, 0, 1, 0, 0, 0, 0], []⟩) rfl [0, 1, 2, 3, 4, 5, 6, 7, 8, 9, 10] rfl ?_
              refine O_loadS hS rfl rfl rfl rfl rfl Try.isAgg4 (by repeat (first | exact .here rfl | apply CellAt.there)) (by trivial) ?_
              refine O_not rfl rfl rfl rfl rfl ?_
              refine O_move rfl rfl rfl rfl rfl ?_
              refine R_caseF (t := 100) rfl rfl ?_
              refine O_loadS hS rfl rfl rfl rfl rfl Try.isAgg3 (by repeat (first | exact .here rfl | apply CellAt.there)) (by trivial) ?_
              refine O_loadS hS rfl rfl rfl rfl rfl Try.isAgg28 (by repeat (first | exact .here rfl | apply CellAt.there)) (by trivial) ?_
              refine O_lenSl rfl rfl rfl rfl rfl Try.runUnderlying28 ?_
              refine O_loadS hS rfl rfl rfl rfl rfl Try.isAgg3 (by repeat (first | exact .here rfl | apply CellAt.there)) (by trivial) ?_
              refine O_max2 rfl rfl rfl rfl rfl rfl ?_
              refine O_min2 rfl rfl rfl rfl rfl rfl ?_
              refine O_cmp rfl rfl rfl rfl rfl rfl rfl ?_
              refine O_pickF rfl rfl rfl rfl rfl rfl ?_
              refine R_nil ?_
              refine tn ?_
              refine F_false rfl (by rw [Bool.not_eq_false', decide_eq_true_eq]; exact hres) ?_
              refine F_skip ?_
              refine bn ?_
              refine tn ?_
              refine F_region (p := ⟨_, [0, 0], []⟩) rfl [0, 1] rfl ?_
              refine O_addN rfl rfl rfl rfl rfl rfl (by first | omega | (dsimp only; omega)) ?_
              refine O_move rfl rfl rfl rfl rfl ?_
              refine R_nil ?_
              replace hS := hS.sp1.drop
              replace hS := hS.sp1.drop
              replace hS := hS.sp1.drop
              replace hS := hS.sp1.drop
              replace hS := hS.sp1.drop
              replace hS := hS.u2.u4.u4.u6.u6.u6
              refine tn ⟨rfl, rfl, (), Sup.app ⟨rfl, rfl, rfl, rfl, rfl, rfl, rfl, rfl, rfl, rfl, trivial⟩ ⟨congrArg (fun z : Nat => some (Value.int .i64 z)) (show pre.length + 1 = (pre ++ [x]).length by simp), trivial⟩, trivial, hS.to (hemp_star _).symm⟩
        · replace hS := hS.u2
          refine O_move rfl rfl rfl rfl rfl ?_
          refine O_extract rfl rfl rfl rfl rfl rfl ?_
          refine O_extract rfl rfl rfl rfl rfl rfl ?_
          refine O_assign rfl rfl rfl rfl rfl ?_
          refine O_assign rfl rfl rfl rfl rfl ?_
          refine R_nil ?_
          refine tn ?_
          refine F_seq ?_
          refine F_seq ?_
          refine F_region (p := ⟨_, [0, 2, 0], []⟩) rfl [0, 1, 2] rfl ?_
          refine O_move rfl rfl rfl rfl rfl ?_
          replace hS := hS.u3.u3.g2
          replace hS := hS.u2
          refine O_call rfl rfl rfl rfl Try.call33 rfl (rRight hG (by omega) (fun x hx => Nat.le_trans (h60 x hx) (by omega)) hnQ (hS.u2)) (fun _ _ hv => trivial) ?_
          rintro _ w ⟨tr, rfl, htr, hS⟩
          have htr2 : tr = false := by cases tr with | false => rfl | true => exact absurd (htr.1 rfl) hok
          subst htr2
          replace hS := hS.u2
          replace hS := hS.u2.n2
          replace hS := hS.u3
          refine O_not rfl rfl rfl rfl rfl ?_
          refine R_nil ?_
          refine tn ?_
          refine F_true rfl rfl ?_
          refine F_seq ?_
          refine F_region (p := ⟨_, [0, 0, 0, 0, 0, 0, 0], []⟩) rfl [0, 1, 2, 3, 4, 5, 6] rfl ?_
          refine O_move rfl rfl rfl rfl rfl ?_
          refine O_cmp rfl rfl rfl rfl rfl rfl rfl ?_
          refine O_move rfl rfl rfl rfl rfl ?_
          refine R_caseT (t := 56) rfl rfl ?_
          refine O_move rfl rfl rfl rfl rfl ?_
          refine O_eqNil rfl rfl rfl rfl rfl rfl Try.runUnderlying48 ?_
          refine O_pickT rfl rfl rfl rfl rfl rfl ?_
          refine O_assign rfl rfl rfl rfl rfl ?_
          refine R_nil ?_
          refine tn ?_
          refine F_ret ?_
          refine tr ?_
          show endF _ _ _ _ _ _
          refine end0 trivial rfl rfl rfl hS ?_
          intro w hS
          replace hS := (hS).drop
          replace hS := (hS.u2).drop
          exact ⟨rfl, hS⟩
      · clear hS
        intro pre x post st w hx hI hS
        replace hS := hS.to (hemp_star _)
        refine wpF.sup (L := [(1, _), (2, _), (3, _), (33, _), (34, _), (35, _)]) ?_ ⟨rfl, rfl, rfl, rfl, rfl, rfl, trivial⟩
        have hlx : pre.length + (post.length + 1) = Q.length := by rw [hx]; simp
        have hxQ : x ∈ Q := by rw [hx]; simp
        obtain ⟨adx, cx, hxv, _, _, _, hxA⟩ := hA.2 x hxQ
        obtain ⟨xn, xf, xv, xs⟩ := x
        simp only at hxv hxA
        subst hxv
        refine F_seq ?_
        refine F_region (p := ⟨_, [0], []⟩) rfl [0] rfl ?_
        refine O_cmp rfl rfl rfl rfl rfl rfl rfl ?_
        refine R_nil ?_
        refine tn ?_
        refine F_seq ?_
        refine F_true rfl (decide_eq_true (by omega)) ?_
        refine F_skip ?_
        refine tn ?_
        refine F_seq ?_
        refine F_block ?_
        refine F_seq ?_
        refine F_region (p := ⟨_, [0, 1, 2, 2], []⟩) rfl [0, 1, 2, 3] rfl ?_
        obtain ⟨ebq1, eoq1, hadq1⟩ := Rds.adF (m := pre.length) (x := (Src.mk xn xf (.slice adx xs.length cx) xs)) (enc := srcE) (size := 3) (fun _ => rfl) (by decide) (hA.1) (hS.u2) (by rw [hx]; simp)
        refine O_indexSlE (m := pre.length) rfl rfl rfl rfl Try.runUnderlying59 Try.sizeOf65 rfl hadq1 rfl rfl (by omega) ?_
        refine O_loadAgg ((srcE (Src.mk xn xf (.slice adx xs.length cx) xs))) rfl rfl rfl rfl rfl Try.isAgg65 Try.sizeOf65 rfl (Rds.row (m := pre.length) (x := (Src.mk xn xf (.slice adx xs.length cx) xs)) (enc := srcE) (size := 3) (fun _ => rfl) (by decide) (hA.1) (hS.u2) hadq1 (by rw [hx]; simp)) (by trivial) ?_
        refine O_allocS hS rfl rfl rfl rfl Try.zeroValue65 (fun _ _ hv => trivial) ?_
        intro b2 w hS
        refine O_storeAgg (cs := [_, _, _]) hS rfl rfl rfl rfl rfl rfl Try.sizeOf65 rfl (Nat.le_of_ble_eq_true rfl) (by simp [one, srcE]) (fun _ hv => trivial) ?_
        intro w hS
        dsimp only [setsL, List.set_cons_zero, List.set_cons_succ, Value.cells] at hS
        refine R_nil ?_
        refine tn ?_
        refine F_seq ?_
        refine F_region (p := ⟨_, [0, 1, 0, 0], []⟩) rfl [0, 1, 2, 3] rfl ?_
        refine O_fieldAddr rfl rfl rfl rfl rfl Try.runUnderlying65 rfl Try.sizeOf28 ?_
        refine O_loadS hS rfl rfl rfl rfl rfl Try.isAgg28 (by repeat (first | exact .here rfl | apply CellAt.there)) (by trivial) ?_
        refine O_lenSl rfl rfl rfl rfl rfl Try.runUnderlying28 ?_
        refine O_cmp rfl rfl rfl rfl rfl rfl rfl ?_
        refine R_nil ?_
        refine tn ?_
        refine F_cond rfl (fun h42 => ?_) (fun h42 => ?_)
        · try simp only [decide_eq_true_eq, decide_eq_false_iff_not, Bool.not_eq_true', Bool.not_eq_false', Bool.not_true, Bool.not_false, Option.isNone_iff_eq_none, Bool.false_eq_true, Bool.true_eq_false] at h42
          refine F_seq ?_
          refine F_region (p := ⟨_, [0], []⟩) rfl [0] rfl ?_
          refine O_assign rfl rfl rfl rfl rfl ?_
          refine R_nil ?_
          refine tn ?_
          refine F_ret ?_
          refine br ?_
          refine tr ?_
          refine tr ?_
          refine br ?_
          refine tr ?_
          show endF _ _ _ _ _ _
          refine end0 trivial rfl rfl rfl hS ?_
          intro w hS
          replace hS := (hS).drop
          exact ⟨rfl, hS⟩
        · try simp only [decide_eq_true_eq, decide_eq_false_iff_not, Bool.not_eq_true', Bool.not_eq_false', Bool.not_true, Bool.not_false, Option.isNone_iff_eq_none, Bool.false_eq_true, Bool.true_eq_false] at h42
          refine F_skip ?_
          refine bn ?_
          refine tn ?_
          refine F_region (p := ⟨_, [0, 0], []⟩) rfl [0, 1] rfl ?_
          refine O_addN rfl rfl rfl rfl rfl rfl (by first | omega | (dsimp only; omega)) ?_
          refine O_move rfl rfl rfl rfl rfl ?_
          refine R_nil ?_
          replace hS := hS.sp1.drop
          replace hS := hS.u2.u2
          refine tn ⟨rfl, rfl, (), Sup.app ⟨rfl, rfl, rfl, rfl, rfl, trivial⟩ ⟨congrArg (fun z : Nat => some (Value.int .i64 z)) (show pre.length + 1 = (pre ++ [_]).length by simp), trivial⟩, (by intro y hy; rcases List.mem_append.1 hy with h | h; (exact hI y h); (rw [List.mem_singleton.1 h]; simp only; omega)), hS.to (hemp_star _).symm⟩
end Go.Proofs.Ytpnigaoibhogfaa
