/- YtpnigaoibhogfaaR18: a part of the proof: walks over the translated code, and plain facts on lists beside. -/
import Derived.Test.YtpnigaoibhogfaaR17
set_option linter.all false
namespace Go.Proofs.Ytpnigaoibhogfaa
open Go Go.RowKit Go.Sl
set_option linter.unusedVariables false
set_option maxHeartbeats 2000000 in
theorem rNote {w0 w : World} {R A : HProp} {v : Value} {Q : List Src} (hl : Q.length ≤ 1000) (hl2 : ∀ x ∈ Q, x.seqs.length ≤ 1000) (name : ByteArray) (hb : name.size ≤ 9223372036854775807) (seq : Int) (hS : Sat w0 (A * (sl 69 3 v Q.length (Q.flatMap srcE) * (srcP A Q * R))) w) :
    Calls Try.prog 51 #[v, .string name, .int .i64 seq] w (ret fun u w' => ∃ v' Q', u = .tuple #[v', .int .i64 (canL name seq O_ii (Q.map Src.tell))] ∧ Q'.map Src.tell = (if canL name seq O_ii (Q.map Src.tell) = 0 then noteL name seq O_ii (Q.map Src.tell) else Q.map Src.tell) ∧ Sat w0 (A * (sl 69 3 v' Q'.length (Q'.flatMap srcE) * (srcP A Q' * R))) w') := by
  obtain ⟨ad, c, rfl, hle, hcm, _⟩ := sl_form hS.u2
  have hni := sl_nilK hS.u2
  have hA := srcs_rd hS.g3
  have hO : Rds (sl 69 3 (.slice ad Q.length c) Q.length (Q.flatMap srcE)) ad (Q.flatMap srcE) := sl_rds
  replace hS := hS.noblks
  refine enterF (args := [_, _, _]) Try.func51 rfl Try.ntmps51 rfl rfl ?_
  refine F_seq ?_
  refine F_region (p := ⟨_, [0, 0], []⟩) rfl [0, 1] rfl ?_
  refine O_assign rfl rfl rfl rfl rfl ?_
  refine O_assign rfl rfl rfl rfl rfl ?_
  refine R_nil ?_
  refine tn ?_
  refine F_seq ?_
  refine F_region (p := ⟨_, [0, 0, 0, 2, 0], []⟩) rfl [0, 1, 2, 3, 4] rfl ?_
  refine O_move rfl rfl rfl rfl rfl ?_
  refine O_move rfl rfl rfl rfl rfl ?_
  refine O_move rfl rfl rfl rfl rfl ?_
  replace hS := hS.u4.u4.u4.g3
  replace hS := hS.u2
  refine O_call rfl rfl rfl rfl Try.call50 rfl (rCan hA (by omega) (fun x hx => Nat.le_trans (hl2 x hx) (by omega)) name hb seq (hS.u2)) (fun _ _ hv => trivial) ?_
  rintro _ w ⟨rfl, hS⟩
  replace hS := hS.u2
  replace hS := hS.u2.n3
  replace hS := hS.u4
  refine O_assign rfl rfl rfl rfl rfl ?_
  refine R_nil ?_
  refine tn ?_
  refine F_seq ?_
  refine F_seq ?_
  refine F_region (p := ⟨_, [0, 0], []⟩) rfl [0, 1] rfl ?_
  refine O_move rfl rfl rfl rfl rfl ?_
  refine O_cmp rfl rfl rfl rfl rfl rfl rfl ?_
  refine R_nil ?_
  refine tn ?_
  refine F_cond rfl (fun hz => ?_) (fun hz => ?_)
  · try simp only [decide_eq_true_eq, decide_eq_false_iff_not, Bool.not_eq_true', Bool.not_eq_false', Bool.not_true, Bool.not_false, Option.isNone_iff_eq_none, Bool.false_eq_true, Bool.true_eq_false] at hz
    refine F_seq ?_
    refine F_region (p := ⟨_, [0, 0, 0, 0], []⟩) rfl [0, 1, 2, 3] rfl ?_
    refine O_move rfl rfl rfl rfl rfl ?_
    refine O_move rfl rfl rfl rfl rfl ?_
    refine O_assign rfl rfl rfl rfl rfl ?_
    refine O_assign rfl rfl rfl rfl rfl ?_
    refine R_nil ?_
    refine tn ?_
    refine F_ret ?_
    refine tr ?_
    show endF _ _ _ _ _ _
    refine end0 trivial rfl rfl rfl hS ?_
    intro w hS
    replace hS := (hS).drop
    replace hS := hS.u3.u3.u3
    exact ⟨_, Q, rfl, by rw [if_neg hz], hS⟩
  · try simp only [decide_eq_true_eq, decide_eq_false_iff_not, Bool.not_eq_true', Bool.not_eq_false', Bool.not_true, Bool.not_false, Option.isNone_iff_eq_none, Bool.false_eq_true, Bool.true_eq_false] at hz
    refine F_skip ?_
    refine tn ?_
    refine F_seq ?_
    refine F_region (p := ⟨_, [0, 0, 2, 0, 0, 0, 0, 0], []⟩) rfl [0, 1, 2, 3, 4, 5, 6, 7] rfl ?_
    refine O_move rfl rfl rfl rfl rfl ?_
    refine O_move rfl rfl rfl rfl rfl ?_
    replace hS := hS.u4.u4.u4.g3
    replace hS := hS.u2
    refine O_call rfl rfl rfl rfl Try.call62 rfl (rFind hA (by omega) name hb (hS.u2)) (fun _ _ hv => trivial) ?_
    rintro _ w (⟨pre, y, q, rfl, hp, hn, rfl, hS⟩ | ⟨pre, q, rfl, hp, hn, rfl, hS⟩)
    · replace hS := hS.n3
      have hAr : Rds (sl 69 3 (.slice ad (pre ++ y :: q).length c) (pre ++ y :: q).length ((pre ++ y :: q).flatMap srcE)) (if c = pre.length then ad else ad.map (·.add (pre.length * 3))) ((y :: q).flatMap srcE) := Rds.part (lo := pre.length) (hi := pre.length + (y :: q).length) (pre := pre) (mid := (y :: q)) (post := []) (enc := srcE) (k := 3) (fun _ => rfl) (by rw [List.append_nil]; exact hO) rfl rfl (by simpa using hle)
      have hAp : Rds (sl 69 3 (.slice ad (pre ++ y :: q).length c) (pre ++ y :: q).length ((pre ++ y :: q).flatMap srcE)) (if c = 0 then ad else ad.map (·.add (0 * 3))) (pre.flatMap srcE) := Rds.part (lo := 0) (hi := pre.length) (pre := []) (mid := pre) (post := (y :: q)) (enc := srcE) (k := 3) (fun _ => rfl) hO rfl (by simp) (by simp at hle; omega)
      have h1p := srcE_one (Q' := pre) hA (by intro x hx; simp [hx])
      have h1q := srcE_one (Q' := q) hA (by intro x hx; simp [hx])
      have hlx : (pre ++ y :: q).length = pre.length + (q.length + 1) := by simp
      have hir := fun xs => insR_len (O := O_ii) (x := seq) (l := xs)
      obtain ⟨ady, cy, hyv, _⟩ := hA.2 y (by simp)
      have hly := hl2 y (by simp)
      have hnt := noteL_there (q := q) (seq := seq) (O := O_ii) hp hn
      have hAr2 : Rds (sl 69 3 (.slice ad (pre ++ y :: q).length c) (pre ++ y :: q).length ((pre ++ y :: q).flatMap srcE)) (if c - pre.length = 1 then (if c = pre.length then ad else ad.map (·.add (pre.length * 3))) else (if c = pre.length then ad else ad.map (·.add (pre.length * 3))).map (·.add (1 * 3))) (q.flatMap srcE) := Rds.part (pre := [y]) (mid := q) (post := []) (lo := 1) (hi := 1 + q.length) (c := c - pre.length) (enc := srcE) (k := 3) (fun _ => rfl) (by simpa using hAr) rfl rfl (by omega)
      replace hS := hS.u3
      replace hS := src_split hS
      replace hS := hS.u6
      refine O_move rfl rfl rfl rfl rfl ?_
      refine O_extract rfl rfl rfl rfl rfl rfl ?_
      refine O_extract rfl rfl rfl rfl rfl rfl ?_
      refine O_assign rfl rfl rfl rfl rfl ?_
      refine O_assign rfl rfl rfl rfl rfl ?_
      refine R_nil ?_
      refine tn ?_
      refine F_seq ?_
      refine F_region (p := ⟨_, [0, 0, 2, 2], []⟩) rfl [0, 1, 2, 3] rfl ?_
      refine O_move rfl rfl rfl rfl rfl ?_
      refine O_build rfl rfl rfl rfl rfl (run_buildS [_, _, _] Try.zeroValue69 Try.runUnderlying69 (fun _ => 1) ⟨Try.sizeOf9, Try.sizeOf3, Try.sizeOf28, trivial⟩ rfl) ?_
      refine O_allocS hS rfl rfl rfl rfl Try.zeroValue69 (fun _ _ hv => trivial) ?_
      intro b1 w hS
      refine O_storeAgg (cs := [_, _, _]) hS rfl rfl rfl rfl rfl rfl Try.sizeOf69 rfl (Nat.le_of_ble_eq_true rfl) (by simp [one]) (fun _ hv => trivial) ?_
      intro w hS
      dsimp only [setsL, List.set_cons_zero, List.set_cons_succ, Value.cells] at hS
      refine R_nil ?_
      refine tn ?_
      refine F_seq ?_
      refine F_region (p := ⟨_, [0, 0, 0, 0], []⟩) rfl [0, 1, 2, 3] rfl ?_
      refine O_move rfl rfl rfl rfl rfl ?_
      refine O_move rfl rfl rfl rfl rfl ?_
      refine O_sliceSl pre.length (pre ++ y :: q).length rfl rfl rfl rfl rfl rfl rfl Try.runUnderlying57 Try.sizeOf69 bnd_int bnd_none ⟨by omega, by omega⟩ ?_
      refine O_assign rfl rfl rfl rfl rfl ?_
      refine R_nil ?_
      refine tn ?_
      refine F_seq ?_
      refine F_seq ?_
      refine F_region (p := ⟨_, [0], []⟩) rfl [0] rfl ?_
      refine O_move rfl rfl rfl rfl rfl ?_
      refine R_nil ?_
      refine tn ?_
      refine F_true rfl rfl ?_
      refine F_seq ?_
      refine F_region (p := ⟨_, [0, 0, 1, 2], []⟩) rfl [0, 1, 2, 3] rfl ?_
      refine O_move rfl rfl rfl rfl rfl ?_
      obtain ⟨ebq1, eoq1, hadq1⟩ := Rds.adF (m := 0) (x := y) (enc := srcE) (size := 3) (fun _ => rfl) (by decide) (hAr) (hS.u6) rfl
      refine O_indexSlE (m := 0) rfl rfl rfl rfl Try.runUnderlying57 Try.sizeOf69 rfl hadq1 rfl rfl (by omega) ?_
      refine O_loadAgg ((srcE y)) rfl rfl rfl rfl rfl Try.isAgg69 Try.sizeOf69 rfl (Rds.row (m := 0) (x := y) (enc := srcE) (size := 3) (fun _ => rfl) (by decide) (hAr) (hS.u6) hadq1 rfl) (by trivial) ?_
      refine O_storeAgg (cs := [_, _, _]) hS rfl rfl rfl rfl rfl rfl Try.sizeOf69 rfl (Nat.le_of_ble_eq_true rfl) (by simp [one, srcE, hyv]) (fun _ hv => trivial) ?_
      intro w hS
      dsimp only [setsL, List.set_cons_zero, List.set_cons_succ, Value.cells] at hS
      refine R_nil ?_
      refine tn ?_
      refine F_region (p := ⟨_, [0, 0, 0], []⟩) rfl [0, 1, 2] rfl ?_
      refine O_move rfl rfl rfl rfl rfl ?_
      refine O_sliceSl 1 ((pre ++ y :: q).length - pre.length) rfl rfl rfl rfl rfl rfl rfl Try.runUnderlying57 Try.sizeOf69 (bnd_intE rfl) bnd_none ⟨by omega, by omega⟩ ?_
      refine O_assign rfl rfl rfl rfl rfl ?_
      refine R_nil ?_
      refine tn ?_
      refine F_seq ?_
      refine F_region (p := ⟨_, [0, 1, 0, 2, 0, 2], []⟩) rfl [0, 1, 2, 3, 4, 5] rfl ?_
      refine O_fieldAddr rfl rfl rfl rfl rfl Try.runUnderlying69 rfl Try.sizeOf28 ?_
      refine O_loadS hS rfl rfl rfl rfl rfl Try.isAgg28 (by repeat (first | exact .here rfl | apply CellAt.there)) (by trivial) ?_
      refine O_move rfl rfl rfl rfl rfl ?_
      replace hS := hS.u3
      obtain ⟨B, ady2, cy2, hyv2, hle2, hcm2, _, hni3, hB, hS⟩ := rd_open hS
      replace hS := hS.u5.g2
      replace hS := hS.u2
      rw [hyv2]
      refine O_call rfl rfl rfl rfl Try.call10 rfl (rAddR_ii (xs := y.seqs) hle2 hcm2 hni3 hB (by omega) seq (hS.u2)) (fun _ _ hv => trivial) ?_
      rintro _ w hS
      obtain ⟨adi, ci, rfl, hlei, hcmi, _⟩ := sl_form hS
      have hAi := sl_rd hS
      have hni2 := hir y.seqs
      replace hS := hS.u3
      replace hS := hS.u3.n2
      replace hS := hS.u3
      refine O_fieldAddr rfl rfl rfl rfl rfl Try.runUnderlying69 rfl Try.sizeOf28 ?_
      refine O_storeS hS rfl rfl rfl rfl rfl rfl rfl Try.sizeOf28 (by repeat (first | exact .here rfl rfl | apply SetAt.there)) (fun w' hv => trivial) ?_
      intro w hS
      refine R_nil ?_
      refine tn ?_
      refine F_seq ?_
      refine F_seq ?_
      refine F_region (p := ⟨_, [0, 1, 0, 0], []⟩) rfl [0, 1, 2, 3] rfl ?_
      refine O_fieldAddr rfl rfl rfl rfl rfl Try.runUnderlying69 rfl Try.sizeOf28 ?_
      refine O_loadS hS rfl rfl rfl rfl rfl Try.isAgg28 (by repeat (first | exact .here rfl | apply CellAt.there)) (by trivial) ?_
      refine O_lenSl rfl rfl rfl rfl rfl Try.runUnderlying28 ?_
      refine O_cmp rfl rfl rfl rfl rfl rfl rfl ?_
      refine R_nil ?_
      refine tn ?_
      refine F_cond rfl (fun h32 => ?_) (fun h32 => ?_)
      · try simp only [decide_eq_true_eq, decide_eq_false_iff_not, Bool.not_eq_true', Bool.not_eq_false', Bool.not_true, Bool.not_false, Option.isNone_iff_eq_none, Bool.false_eq_true, Bool.true_eq_false] at h32
        obtain ⟨x0, xr, hin⟩ : ∃ x0 xr, insR O_ii seq y.seqs = x0 :: xr := by
          cases hin : insR O_ii seq y.seqs with
          | nil => rw [hin] at h32; simp at h32
          | cons x0 xr => exact ⟨x0, xr, rfl⟩
        have htr : trimL (y.floor, insR O_ii seq y.seqs) = (x0, xr) := by unfold trimL; simp only; rw [if_pos h32, hin]
        rw [hin] at hS hAi hlei
        refine F_seq ?_
        refine F_region (p := ⟨_, [0, 1, 0, 1, 0, 2], []⟩) rfl [0, 1, 2, 3, 4, 5] rfl ?_
        refine O_fieldAddr rfl rfl rfl rfl rfl Try.runUnderlying69 rfl Try.sizeOf28 ?_
        refine O_loadS hS rfl rfl rfl rfl rfl Try.isAgg28 (by repeat (first | exact .here rfl | apply CellAt.there)) (by trivial) ?_
        obtain ⟨ebq2, eoq2, hadq2⟩ := Rds.ad (k := 0) (u := (.int .i64 x0)) ((sl_rds (e := 3) (size := 1) (n := (x0 :: xr).length) (cap := ci) (xs := (x0 :: xr).map fun n => .int .i64 n))) (hS.u4) rfl
        refine O_indexSlE (m := 0) rfl rfl rfl rfl Try.runUnderlying28 Try.sizeOf3 rfl hadq2 rfl rfl (by simp) ?_
        refine O_load rfl rfl rfl rfl rfl Try.isAgg3 (Rds.at (k := 0 * 1) (u := (.int .i64 x0)) ((sl_rds (e := 3) (size := 1) (n := (x0 :: xr).length) (cap := ci) (xs := (x0 :: xr).map fun n => .int .i64 n))) (hS.u4) hadq2 rfl) (by trivial) ?_
        refine O_fieldAddr rfl rfl rfl rfl rfl Try.runUnderlying69 rfl Try.sizeOf3 ?_
        refine O_storeS hS rfl rfl rfl rfl rfl rfl rfl Try.sizeOf3 (by repeat (first | exact .here rfl rfl | apply SetAt.there)) (fun w' hv => trivial) ?_
        intro w hS
        refine R_nil ?_
        refine tn ?_
        refine F_region (p := ⟨_, [0, 1, 0, 0, 2], []⟩) rfl [0, 1, 2, 3, 4] rfl ?_
        refine O_fieldAddr rfl rfl rfl rfl rfl Try.runUnderlying69 rfl Try.sizeOf28 ?_
        refine O_loadS hS rfl rfl rfl rfl rfl Try.isAgg28 (by repeat (first | exact .here rfl | apply CellAt.there)) (by trivial) ?_
        refine O_sliceSl 1 (x0 :: xr).length rfl rfl rfl rfl rfl rfl rfl Try.runUnderlying28 Try.sizeOf3 (bnd_intE rfl) bnd_none ⟨by simp, hlei⟩ ?_
        refine O_fieldAddr rfl rfl rfl rfl rfl Try.runUnderlying69 rfl Try.sizeOf28 ?_
        refine O_storeS hS rfl rfl rfl rfl rfl rfl rfl Try.sizeOf28 (by repeat (first | exact .here rfl rfl | apply SetAt.there)) (fun w' hv => trivial) ?_
        intro w hS
        refine R_nil ?_
        refine tn ?_
        refine F_seq ?_
        refine F_drawnS hS (by kernel_rfl) (p := ⟨_, [2, 0, 0, 0, 2, 1, 2, 2, 0, 2, 0, 0], [(0, 5), (4, 5)]⟩) rfl (.app [1, 2, 3, 5, 8] (.two 0 6 (.app [] (.two 4 6 (.ofList [6, 7, 9, 10, 11]) (.ofList [4, 7, 9, 10, 11]))) (.ofList [0, 4, 7, 9, 10, 11]))) (by kernel_rfl) ?_
        intro w hS
        refine O_move rfl rfl rfl rfl rfl ?_
        refine O_move rfl rfl rfl rfl rfl ?_
        replace hS := hS.u4
        replace hS := rd_tail (P0 := A) hS rfl
        replace hS := hS.u2
        refine O_sliceSl 0 pre.length rfl rfl rfl rfl rfl rfl rfl Try.runUnderlying57 Try.sizeOf69 bnd_none bnd_int ⟨by omega, by omega⟩ ?_
        refine O_loadAgg [_, _, _] rfl rfl rfl rfl rfl Try.isAgg69 Try.sizeOf69 rfl (CellsAt.rd ⟨(by repeat (first | exact .here rfl | apply CellAt.there)), (by repeat (first | exact .here rfl | apply CellAt.there)), (by repeat (first | exact .here rfl | apply CellAt.there)), trivial⟩ (hS)) (by trivial) ?_
        refine O_move rfl rfl rfl rfl rfl ?_
        refine R_two ?_ ?_
        · have hS_0 := hS
          refine O_sliceLit hS rfl rfl rfl rfl Try.runUnderlying57 Try.sizeOf69 Try.zeroValue69 rfl (by decide) rfl rfl rfl (cs := []) rfl rfl (fun _ _ hv => ⟨CellsAt.rd ⟨(by repeat (first | exact .here rfl | apply CellAt.there)), (by repeat (first | exact .here rfl | apply CellAt.there)), (by repeat (first | exact .here rfl | apply CellAt.there)), trivial⟩ (hv.u2), trivial⟩) ?_
          intro z1 w hS
          replace hS := hS.u2
          refine R_two ?_ ?_
          · have hS_4 := hS
            have hrdv1 := hAp _ _ _ (hS.u8)
            replace hS := hS.u2
            refine O_append (m := (pre.length - 0)) (news := (pre.flatMap srcE)) hS rfl rfl rfl rfl Try.underlying57 info_src rfl (by decide) rfl rfl (by rw [flen (k := 3) (fun _ => rfl)]; simp) (part_nil hni (by omega)) hrdv1 h1p (by simp only [maxLen]; omega) (by omega) (fun _ _ hv => ⟨CellsAt.rd ⟨(by repeat (first | exact .here rfl | apply CellAt.there)), (by repeat (first | exact .here rfl | apply CellAt.there)), (by repeat (first | exact .here rfl | apply CellAt.there)), trivial⟩ (hv.u2), trivial⟩) ?_
            intro v1 w hnilv1 hS
            obtain ⟨adv1, capv1, rfl, hlev1, hcapv1, _⟩ := sl_form hS
            replace hS := hS.u2
            refine O_sliceLit hS rfl rfl rfl rfl Try.runUnderlying57 Try.sizeOf69 Try.zeroValue69 rfl (by decide) rfl rfl rfl (cs := [_, _, _]) rfl rfl (fun _ _ hv => ⟨trivial, trivial⟩) ?_
            intro z2 w hS
            replace hS := hS.u2
            have hrdv2 := sl_rd (hS.u2)
            replace hS := hS.u3
            refine O_append (m := 1) (news := (srcE (Src.mk y.name x0 (.slice (if ci = 1 then adi else adi.map (·.add (1 * 1))) ((x0 :: xr).length - 1) (ci - 1)) xr))) hS rfl rfl rfl rfl Try.underlying57 info_src rfl (by decide) rfl rfl rfl (by intro e; cases e) hrdv2 (by simp [srcE, Value.oneCell']) (by simp only [maxLen]; omega) (by omega) (fun _ _ hv => ⟨trivial, trivial⟩) ?_
            intro v2 w hnilv2 hS
            obtain ⟨adv2, capv2, rfl, hlev2, hcapv2, _⟩ := sl_form hS
            replace hS := hS.u2
            have hrdv3 := hAr2 _ _ _ (hS.u9)
            replace hS := hS.u2
            refine O_append (m := ((pre ++ y :: q).length - pre.length - 1)) (news := (q.flatMap srcE)) hS rfl rfl rfl rfl Try.underlying57 info_src rfl (by decide) rfl rfl (by rw [flen (k := 3) (fun _ => rfl)]; omega) (part_nil (fun e => (part_nil hni hle e).1) (by omega)) hrdv3 h1q (by simp only [maxLen]; omega) (by omega) (fun _ _ hv => ⟨trivial, trivial⟩) ?_
            intro v3 w hnilv3 hS
            obtain ⟨adv3, capv3, rfl, hlev3, hcapv3, _⟩ := sl_form hS
            replace hS := hS.u2
            refine O_assign rfl rfl rfl rfl rfl ?_
            refine O_assign rfl rfl rfl rfl rfl ?_
            refine R_nil ?_
            refine tn ?_
            refine F_ret ?_
            show endF _ _ _ _ _ _
            refine end0 trivial rfl rfl rfl hS ?_
            intro w hS
            replace hS := (hS).drop
            replace hS := (hS.u2).drop
            replace hS := (hS.u4).drop
            replace hS := (hS.u6).drop
            replace hS := hS.u3.u5.u4.u5
            replace hS := src_join (y := (Src.mk y.name x0 (.slice (if ci = 1 then adi else adi.map (·.add (1 * 1))) ((x0 :: xr).length - 1) (ci - 1)) xr)) hS
            replace hS := Sat.slc (n' := (pre ++ (Src.mk y.name x0 (.slice (if ci = 1 then adi else adi.map (·.add (1 * 1))) ((x0 :: xr).length - 1) (ci - 1)) xr) :: q).length) (xs' := (pre ++ (Src.mk y.name x0 (.slice (if ci = 1 then adi else adi.map (·.add (1 * 1))) ((x0 :: xr).length - 1) (ci - 1)) xr) :: q).flatMap srcE) hS.u3 (by simp only [List.length_append, List.length_cons] at hlx ⊢; omega) (by simp [List.flatMap_append])
            refine ⟨_, (pre ++ (Src.mk y.name x0 (.slice (if ci = 1 then adi else adi.map (·.add (1 * 1))) ((x0 :: xr).length - 1) (ci - 1)) xr) :: q), ?_, ?_, hS.u3⟩
            · rw [hz]; rfl
            · rw [if_pos hz, hnt, htr]; simp [Src.tell, hn]
          · refine O_sliceLit hS rfl rfl rfl rfl Try.runUnderlying57 Try.sizeOf69 Try.zeroValue69 rfl (by decide) rfl rfl rfl (cs := [_, _, _]) rfl rfl (fun _ _ hv => ⟨trivial, trivial⟩) ?_
            intro z2 w hS
            replace hS := hS.u2
            have hS_4 := hS
            have hrdv1 := hAp _ _ _ (hS.u9)
            replace hS := hS.u3
            refine O_append (m := (pre.length - 0)) (news := (pre.flatMap srcE)) hS rfl rfl rfl rfl Try.underlying57 info_src rfl (by decide) rfl rfl (by rw [flen (k := 3) (fun _ => rfl)]; simp) (part_nil hni (by omega)) hrdv1 h1p (by simp only [maxLen]; omega) (by omega) (fun _ _ hv => ⟨CellsAt.rd ⟨(by repeat (first | exact .here rfl | apply CellAt.there)), (by repeat (first | exact .here rfl | apply CellAt.there)), (by repeat (first | exact .here rfl | apply CellAt.there)), trivial⟩ (hv.u2), trivial⟩) ?_
            intro v1 w hnilv1 hS
            obtain ⟨adv1, capv1, rfl, hlev1, hcapv1, _⟩ := sl_form hS
            replace hS := hS.u2
            have hrdv2 := sl_rd (hS.u3)
            replace hS := hS.u2
            refine O_append (m := 1) (news := (srcE (Src.mk y.name x0 (.slice (if ci = 1 then adi else adi.map (·.add (1 * 1))) ((x0 :: xr).length - 1) (ci - 1)) xr))) hS rfl rfl rfl rfl Try.underlying57 info_src rfl (by decide) rfl rfl rfl (by intro e; cases e) hrdv2 (by simp [srcE, Value.oneCell']) (by simp only [maxLen]; omega) (by omega) (fun _ _ hv => ⟨trivial, trivial⟩) ?_
            intro v2 w hnilv2 hS
            obtain ⟨adv2, capv2, rfl, hlev2, hcapv2, _⟩ := sl_form hS
            replace hS := hS.u2
            have hrdv3 := hAr2 _ _ _ (hS.u9)
            replace hS := hS.u2
            refine O_append (m := ((pre ++ y :: q).length - pre.length - 1)) (news := (q.flatMap srcE)) hS rfl rfl rfl rfl Try.underlying57 info_src rfl (by decide) rfl rfl (by rw [flen (k := 3) (fun _ => rfl)]; omega) (part_nil (fun e => (part_nil hni hle e).1) (by omega)) hrdv3 h1q (by simp only [maxLen]; omega) (by omega) (fun _ _ hv => ⟨trivial, trivial⟩) ?_
            intro v3 w hnilv3 hS
            obtain ⟨adv3, capv3, rfl, hlev3, hcapv3, _⟩ := sl_form hS
            replace hS := hS.u2
            refine O_assign rfl rfl rfl rfl rfl ?_
            refine O_assign rfl rfl rfl rfl rfl ?_
            refine R_nil ?_
            refine tn ?_
            refine F_ret ?_
            show endF _ _ _ _ _ _
            refine end0 trivial rfl rfl rfl hS ?_
            intro w hS
            replace hS := (hS).drop
            replace hS := (hS.u2).drop
            replace hS := (hS.u4).drop
            replace hS := (hS.u6).drop
            replace hS := hS.u3.u5.u4.u5
            replace hS := src_join (y := (Src.mk y.name x0 (.slice (if ci = 1 then adi else adi.map (·.add (1 * 1))) ((x0 :: xr).length - 1) (ci - 1)) xr)) hS
            replace hS := Sat.slc (n' := (pre ++ (Src.mk y.name x0 (.slice (if ci = 1 then adi else adi.map (·.add (1 * 1))) ((x0 :: xr).length - 1) (ci - 1)) xr) :: q).length) (xs' := (pre ++ (Src.mk y.name x0 (.slice (if ci = 1 then adi else adi.map (·.add (1 * 1))) ((x0 :: xr).length - 1) (ci - 1)) xr) :: q).flatMap srcE) hS.u3 (by simp only [List.length_append, List.length_cons] at hlx ⊢; omega) (by simp [List.flatMap_append])
            refine ⟨_, (pre ++ (Src.mk y.name x0 (.slice (if ci = 1 then adi else adi.map (·.add (1 * 1))) ((x0 :: xr).length - 1) (ci - 1)) xr) :: q), ?_, ?_, hS.u3⟩
            · rw [hz]; rfl
            · rw [if_pos hz, hnt, htr]; simp [Src.tell, hn]
        · refine O_sliceLit hS rfl rfl rfl rfl Try.runUnderlying57 Try.sizeOf69 Try.zeroValue69 rfl (by decide) rfl rfl rfl (cs := [_, _, _]) rfl rfl (fun _ _ hv => ⟨trivial, trivial⟩) ?_
          intro z1 w hS
          replace hS := hS.u2
          have hS_0 := hS
          refine O_sliceLit hS rfl rfl rfl rfl Try.runUnderlying57 Try.sizeOf69 Try.zeroValue69 rfl (by decide) rfl rfl rfl (cs := []) rfl rfl (fun _ _ hv => ⟨CellsAt.rd ⟨(by repeat (first | exact .here rfl | apply CellAt.there)), (by repeat (first | exact .here rfl | apply CellAt.there)), (by repeat (first | exact .here rfl | apply CellAt.there)), trivial⟩ (hv.u2), trivial⟩) ?_
          intro z2 w hS
          replace hS := hS.u2
          have hS_4 := hS
          have hrdv1 := hAp _ _ _ (hS.u9)
          replace hS := hS.u2
          refine O_append (m := (pre.length - 0)) (news := (pre.flatMap srcE)) hS rfl rfl rfl rfl Try.underlying57 info_src rfl (by decide) rfl rfl (by rw [flen (k := 3) (fun _ => rfl)]; simp) (part_nil hni (by omega)) hrdv1 h1p (by simp only [maxLen]; omega) (by omega) (fun _ _ hv => ⟨CellsAt.rd ⟨(by repeat (first | exact .here rfl | apply CellAt.there)), (by repeat (first | exact .here rfl | apply CellAt.there)), (by repeat (first | exact .here rfl | apply CellAt.there)), trivial⟩ (hv.u2), trivial⟩) ?_
          intro v1 w hnilv1 hS
          obtain ⟨adv1, capv1, rfl, hlev1, hcapv1, _⟩ := sl_form hS
          replace hS := hS.u2
          have hrdv2 := sl_rd (hS.u3)
          replace hS := hS.u2
          refine O_append (m := 1) (news := (srcE (Src.mk y.name x0 (.slice (if ci = 1 then adi else adi.map (·.add (1 * 1))) ((x0 :: xr).length - 1) (ci - 1)) xr))) hS rfl rfl rfl rfl Try.underlying57 info_src rfl (by decide) rfl rfl rfl (by intro e; cases e) hrdv2 (by simp [srcE, Value.oneCell']) (by simp only [maxLen]; omega) (by omega) (fun _ _ hv => ⟨trivial, trivial⟩) ?_
          intro v2 w hnilv2 hS
          obtain ⟨adv2, capv2, rfl, hlev2, hcapv2, _⟩ := sl_form hS
          replace hS := hS.u2
          have hrdv3 := hAr2 _ _ _ (hS.u9)
          replace hS := hS.u2
          refine O_append (m := ((pre ++ y :: q).length - pre.length - 1)) (news := (q.flatMap srcE)) hS rfl rfl rfl rfl Try.underlying57 info_src rfl (by decide) rfl rfl (by rw [flen (k := 3) (fun _ => rfl)]; omega) (part_nil (fun e => (part_nil hni hle e).1) (by omega)) hrdv3 h1q (by simp only [maxLen]; omega) (by omega) (fun _ _ hv => ⟨trivial, trivial⟩) ?_
          intro v3 w hnilv3 hS
          obtain ⟨adv3, capv3, rfl, hlev3, hcapv3, _⟩ := sl_form hS
          replace hS := hS.u2
          refine O_assign rfl rfl rfl rfl rfl ?_
          refine O_assign rfl rfl rfl rfl rfl ?_
          refine R_nil ?_
          refine tn ?_
          refine F_ret ?_
          show endF _ _ _ _ _ _
          refine end0 trivial rfl rfl rfl hS ?_
          intro w hS
          replace hS := (hS).drop
          replace hS := (hS.u2).drop
          replace hS := (hS.u4).drop
          replace hS := (hS.u6).drop
          replace hS := hS.u3.u5.u4.u5
          replace hS := src_join (y := (Src.mk y.name x0 (.slice (if ci = 1 then adi else adi.map (·.add (1 * 1))) ((x0 :: xr).length - 1) (ci - 1)) xr)) hS
          replace hS := Sat.slc (n' := (pre ++ (Src.mk y.name x0 (.slice (if ci = 1 then adi else adi.map (·.add (1 * 1))) ((x0 :: xr).length - 1) (ci - 1)) xr) :: q).length) (xs' := (pre ++ (Src.mk y.name x0 (.slice (if ci = 1 then adi else adi.map (·.add (1 * 1))) ((x0 :: xr).length - 1) (ci - 1)) xr) :: q).flatMap srcE) hS.u3 (by simp only [List.length_append, List.length_cons] at hlx ⊢; omega) (by simp [List.flatMap_append])
          refine ⟨_, (pre ++ (Src.mk y.name x0 (.slice (if ci = 1 then adi else adi.map (·.add (1 * 1))) ((x0 :: xr).length - 1) (ci - 1)) xr) :: q), ?_, ?_, hS.u3⟩
          · rw [hz]; rfl
          · rw [if_pos hz, hnt, htr]; simp [Src.tell, hn]
      · try simp only [decide_eq_true_eq, decide_eq_false_iff_not, Bool.not_eq_true', Bool.not_eq_false', Bool.not_true, Bool.not_false, Option.isNone_iff_eq_none, Bool.false_eq_true, Bool.true_eq_false] at h32
        have htr : trimL (y.floor, insR O_ii seq y.seqs) = (y.floor, insR O_ii seq y.seqs) := by unfold trimL; simp only; rw [if_neg h32]
        refine F_skip ?_
        refine tn ?_
        refine F_seq ?_
        refine F_drawnS hS (by kernel_rfl) (p := ⟨_, [2, 0, 0, 0, 2, 1, 2, 2, 0, 2, 0, 0], [(0, 5), (4, 5)]⟩) rfl (.app [1, 2, 3, 5, 8] (.two 0 6 (.app [] (.two 4 6 (.ofList [6, 7, 9, 10, 11]) (.ofList [4, 7, 9, 10, 11]))) (.ofList [0, 4, 7, 9, 10, 11]))) (by kernel_rfl) ?_
        intro w hS
        refine O_move rfl rfl rfl rfl rfl ?_
        refine O_move rfl rfl rfl rfl rfl ?_
        replace hS := hS.u4
        replace hS := rd_of_sl (P0 := A) hS
        replace hS := hS.u2
        refine O_sliceSl 0 pre.length rfl rfl rfl rfl rfl rfl rfl Try.runUnderlying57 Try.sizeOf69 bnd_none bnd_int ⟨by omega, by omega⟩ ?_
        refine O_loadAgg [_, _, _] rfl rfl rfl rfl rfl Try.isAgg69 Try.sizeOf69 rfl (CellsAt.rd ⟨(by repeat (first | exact .here rfl | apply CellAt.there)), (by repeat (first | exact .here rfl | apply CellAt.there)), (by repeat (first | exact .here rfl | apply CellAt.there)), trivial⟩ (hS)) (by trivial) ?_
        refine O_move rfl rfl rfl rfl rfl ?_
        refine R_two ?_ ?_
        · have hS_0 := hS
          refine O_sliceLit hS rfl rfl rfl rfl Try.runUnderlying57 Try.sizeOf69 Try.zeroValue69 rfl (by decide) rfl rfl rfl (cs := []) rfl rfl (fun _ _ hv => ⟨CellsAt.rd ⟨(by repeat (first | exact .here rfl | apply CellAt.there)), (by repeat (first | exact .here rfl | apply CellAt.there)), (by repeat (first | exact .here rfl | apply CellAt.there)), trivial⟩ (hv.u2), trivial⟩) ?_
          intro z1 w hS
          replace hS := hS.u2
          refine R_two ?_ ?_
          · have hS_4 := hS
            have hrdv1 := hAp _ _ _ (hS.u8)
            replace hS := hS.u2
            refine O_append (m := (pre.length - 0)) (news := (pre.flatMap srcE)) hS rfl rfl rfl rfl Try.underlying57 info_src rfl (by decide) rfl rfl (by rw [flen (k := 3) (fun _ => rfl)]; simp) (part_nil hni (by omega)) hrdv1 h1p (by simp only [maxLen]; omega) (by omega) (fun _ _ hv => ⟨CellsAt.rd ⟨(by repeat (first | exact .here rfl | apply CellAt.there)), (by repeat (first | exact .here rfl | apply CellAt.there)), (by repeat (first | exact .here rfl | apply CellAt.there)), trivial⟩ (hv.u2), trivial⟩) ?_
            intro v1 w hnilv1 hS
            obtain ⟨adv1, capv1, rfl, hlev1, hcapv1, _⟩ := sl_form hS
            replace hS := hS.u2
            refine O_sliceLit hS rfl rfl rfl rfl Try.runUnderlying57 Try.sizeOf69 Try.zeroValue69 rfl (by decide) rfl rfl rfl (cs := [_, _, _]) rfl rfl (fun _ _ hv => ⟨trivial, trivial⟩) ?_
            intro z2 w hS
            replace hS := hS.u2
            have hrdv2 := sl_rd (hS.u2)
            replace hS := hS.u3
            refine O_append (m := 1) (news := (srcE (Src.mk y.name y.floor (.slice adi (insR O_ii seq y.seqs).length ci) (insR O_ii seq y.seqs)))) hS rfl rfl rfl rfl Try.underlying57 info_src rfl (by decide) rfl rfl rfl (by intro e; cases e) hrdv2 (by simp [srcE, Value.oneCell']) (by simp only [maxLen]; omega) (by omega) (fun _ _ hv => ⟨trivial, trivial⟩) ?_
            intro v2 w hnilv2 hS
            obtain ⟨adv2, capv2, rfl, hlev2, hcapv2, _⟩ := sl_form hS
            replace hS := hS.u2
            have hrdv3 := hAr2 _ _ _ (hS.u9)
            replace hS := hS.u2
            refine O_append (m := ((pre ++ y :: q).length - pre.length - 1)) (news := (q.flatMap srcE)) hS rfl rfl rfl rfl Try.underlying57 info_src rfl (by decide) rfl rfl (by rw [flen (k := 3) (fun _ => rfl)]; omega) (part_nil (fun e => (part_nil hni hle e).1) (by omega)) hrdv3 h1q (by simp only [maxLen]; omega) (by omega) (fun _ _ hv => ⟨trivial, trivial⟩) ?_
            intro v3 w hnilv3 hS
            obtain ⟨adv3, capv3, rfl, hlev3, hcapv3, _⟩ := sl_form hS
            replace hS := hS.u2
            refine O_assign rfl rfl rfl rfl rfl ?_
            refine O_assign rfl rfl rfl rfl rfl ?_
            refine R_nil ?_
            refine tn ?_
            refine F_ret ?_
            show endF _ _ _ _ _ _
            refine end0 trivial rfl rfl rfl hS ?_
            intro w hS
            replace hS := (hS).drop
            replace hS := (hS.u2).drop
            replace hS := (hS.u4).drop
            replace hS := (hS.u6).drop
            replace hS := hS.u3.u5.u4.u5
            replace hS := src_join (y := (Src.mk y.name y.floor (.slice adi (insR O_ii seq y.seqs).length ci) (insR O_ii seq y.seqs))) hS
            replace hS := Sat.slc (n' := (pre ++ (Src.mk y.name y.floor (.slice adi (insR O_ii seq y.seqs).length ci) (insR O_ii seq y.seqs)) :: q).length) (xs' := (pre ++ (Src.mk y.name y.floor (.slice adi (insR O_ii seq y.seqs).length ci) (insR O_ii seq y.seqs)) :: q).flatMap srcE) hS.u3 (by simp only [List.length_append, List.length_cons] at hlx ⊢; omega) (by simp [List.flatMap_append])
            refine ⟨_, (pre ++ (Src.mk y.name y.floor (.slice adi (insR O_ii seq y.seqs).length ci) (insR O_ii seq y.seqs)) :: q), ?_, ?_, hS.u3⟩
            · rw [hz]; rfl
            · rw [if_pos hz, hnt, htr]; simp [Src.tell, hn]
          · refine O_sliceLit hS rfl rfl rfl rfl Try.runUnderlying57 Try.sizeOf69 Try.zeroValue69 rfl (by decide) rfl rfl rfl (cs := [_, _, _]) rfl rfl (fun _ _ hv => ⟨trivial, trivial⟩) ?_
            intro z2 w hS
            replace hS := hS.u2
            have hS_4 := hS
            have hrdv1 := hAp _ _ _ (hS.u9)
            replace hS := hS.u3
            refine O_append (m := (pre.length - 0)) (news := (pre.flatMap srcE)) hS rfl rfl rfl rfl Try.underlying57 info_src rfl (by decide) rfl rfl (by rw [flen (k := 3) (fun _ => rfl)]; simp) (part_nil hni (by omega)) hrdv1 h1p (by simp only [maxLen]; omega) (by omega) (fun _ _ hv => ⟨CellsAt.rd ⟨(by repeat (first | exact .here rfl | apply CellAt.there)), (by repeat (first | exact .here rfl | apply CellAt.there)), (by repeat (first | exact .here rfl | apply CellAt.there)), trivial⟩ (hv.u2), trivial⟩) ?_
            intro v1 w hnilv1 hS
            obtain ⟨adv1, capv1, rfl, hlev1, hcapv1, _⟩ := sl_form hS
            replace hS := hS.u2
            have hrdv2 := sl_rd (hS.u3)
            replace hS := hS.u2
            refine O_append (m := 1) (news := (srcE (Src.mk y.name y.floor (.slice adi (insR O_ii seq y.seqs).length ci) (insR O_ii seq y.seqs)))) hS rfl rfl rfl rfl Try.underlying57 info_src rfl (by decide) rfl rfl rfl (by intro e; cases e) hrdv2 (by simp [srcE, Value.oneCell']) (by simp only [maxLen]; omega) (by omega) (fun _ _ hv => ⟨trivial, trivial⟩) ?_
            intro v2 w hnilv2 hS
            obtain ⟨adv2, capv2, rfl, hlev2, hcapv2, _⟩ := sl_form hS
            replace hS := hS.u2
            have hrdv3 := hAr2 _ _ _ (hS.u9)
            replace hS := hS.u2
            refine O_append (m := ((pre ++ y :: q).length - pre.length - 1)) (news := (q.flatMap srcE)) hS rfl rfl rfl rfl Try.underlying57 info_src rfl (by decide) rfl rfl (by rw [flen (k := 3) (fun _ => rfl)]; omega) (part_nil (fun e => (part_nil hni hle e).1) (by omega)) hrdv3 h1q (by simp only [maxLen]; omega) (by omega) (fun _ _ hv => ⟨trivial, trivial⟩) ?_
            intro v3 w hnilv3 hS
            obtain ⟨adv3, capv3, rfl, hlev3, hcapv3, _⟩ := sl_form hS
            replace hS := hS.u2
            refine O_assign rfl rfl rfl rfl rfl ?_
            refine O_assign rfl rfl rfl rfl rfl ?_
            refine R_nil ?_
            refine tn ?_
            refine F_ret ?_
            show endF _ _ _ _ _ _
            refine end0 trivial rfl rfl rfl hS ?_
            intro w hS
            replace hS := (hS).drop
            replace hS := (hS.u2).drop
            replace hS := (hS.u4).drop
            replace hS := (hS.u6).drop
            replace hS := hS.u3.u5.u4.u5
            replace hS := src_join (y := (Src.mk y.name y.floor (.slice adi (insR O_ii seq y.seqs).length ci) (insR O_ii seq y.seqs))) hS
            replace hS := Sat.slc (n' := (pre ++ (Src.mk y.name y.floor (.slice adi (insR O_ii seq y.seqs).length ci) (insR O_ii seq y.seqs)) :: q).length) (xs' := (pre ++ (Src.mk y.name y.floor (.slice adi (insR O_ii seq y.seqs).length ci) (insR O_ii seq y.seqs)) :: q).flatMap srcE) hS.u3 (by simp only [List.length_append, List.length_cons] at hlx ⊢; omega) (by simp [List.flatMap_append])
            refine ⟨_, (pre ++ (Src.mk y.name y.floor (.slice adi (insR O_ii seq y.seqs).length ci) (insR O_ii seq y.seqs)) :: q), ?_, ?_, hS.u3⟩
            · rw [hz]; rfl
            · rw [if_pos hz, hnt, htr]; simp [Src.tell, hn]
        · refine O_sliceLit hS rfl rfl rfl rfl Try.runUnderlying57 Try.sizeOf69 Try.zeroValue69 rfl (by decide) rfl rfl rfl (cs := [_, _, _]) rfl rfl (fun _ _ hv => ⟨trivial, trivial⟩) ?_
          intro z1 w hS
          replace hS := hS.u2
          have hS_0 := hS
          refine O_sliceLit hS rfl rfl rfl rfl Try.runUnderlying57 Try.sizeOf69 Try.zeroValue69 rfl (by decide) rfl rfl rfl (cs := []) rfl rfl (fun _ _ hv => ⟨CellsAt.rd ⟨(by repeat (first | exact .here rfl | apply CellAt.there)), (by repeat (first | exact .here rfl | apply CellAt.there)), (by repeat (first | exact .here rfl | apply CellAt.there)), trivial⟩ (hv.u2), trivial⟩) ?_
          intro z2 w hS
          replace hS := hS.u2
          have hS_4 := hS
          have hrdv1 := hAp _ _ _ (hS.u9)
          replace hS := hS.u2
          refine O_append (m := (pre.length - 0)) (news := (pre.flatMap srcE)) hS rfl rfl rfl rfl Try.underlying57 info_src rfl (by decide) rfl rfl (by rw [flen (k := 3) (fun _ => rfl)]; simp) (part_nil hni (by omega)) hrdv1 h1p (by simp only [maxLen]; omega) (by omega) (fun _ _ hv => ⟨CellsAt.rd ⟨(by repeat (first | exact .here rfl | apply CellAt.there)), (by repeat (first | exact .here rfl | apply CellAt.there)), (by repeat (first | exact .here rfl | apply CellAt.there)), trivial⟩ (hv.u2), trivial⟩) ?_
          intro v1 w hnilv1 hS
          obtain ⟨adv1, capv1, rfl, hlev1, hcapv1, _⟩ := sl_form hS
          replace hS := hS.u2
          have hrdv2 := sl_rd (hS.u3)
          replace hS := hS.u2
          refine O_append (m := 1) (news := (srcE (Src.mk y.name y.floor (.slice adi (insR O_ii seq y.seqs).length ci) (insR O_ii seq y.seqs)))) hS rfl rfl rfl rfl Try.underlying57 info_src rfl (by decide) rfl rfl rfl (by intro e; cases e) hrdv2 (by simp [srcE, Value.oneCell']) (by simp only [maxLen]; omega) (by omega) (fun _ _ hv => ⟨trivial, trivial⟩) ?_
          intro v2 w hnilv2 hS
          obtain ⟨adv2, capv2, rfl, hlev2, hcapv2, _⟩ := sl_form hS
          replace hS := hS.u2
          have hrdv3 := hAr2 _ _ _ (hS.u9)
          replace hS := hS.u2
          refine O_append (m := ((pre ++ y :: q).length - pre.length - 1)) (news := (q.flatMap srcE)) hS rfl rfl rfl rfl Try.underlying57 info_src rfl (by decide) rfl rfl (by rw [flen (k := 3) (fun _ => rfl)]; omega) (part_nil (fun e => (part_nil hni hle e).1) (by omega)) hrdv3 h1q (by simp only [maxLen]; omega) (by omega) (fun _ _ hv => ⟨trivial, trivial⟩) ?_
          intro v3 w hnilv3 hS
          obtain ⟨adv3, capv3, rfl, hlev3, hcapv3, _⟩ := sl_form hS
          replace hS := hS.u2
          refine O_assign rfl rfl rfl rfl rfl ?_
          refine O_assign rfl rfl rfl rfl rfl ?_
          refine R_nil ?_
          refine tn ?_
          refine F_ret ?_
          show endF _ _ _ _ _ _
          refine end0 trivial rfl rfl rfl hS ?_
          intro w hS
          replace hS := (hS).drop
          replace hS := (hS.u2).drop
          replace hS := (hS.u4).drop
          replace hS := (hS.u6).drop
          replace hS := hS.u3.u5.u4.u5
          replace hS := src_join (y := (Src.mk y.name y.floor (.slice adi (insR O_ii seq y.seqs).length ci) (insR O_ii seq y.seqs))) hS
          replace hS := Sat.slc (n' := (pre ++ (Src.mk y.name y.floor (.slice adi (insR O_ii seq y.seqs).length ci) (insR O_ii seq y.seqs)) :: q).length) (xs' := (pre ++ (Src.mk y.name y.floor (.slice adi (insR O_ii seq y.seqs).length ci) (insR O_ii seq y.seqs)) :: q).flatMap srcE) hS.u3 (by simp only [List.length_append, List.length_cons] at hlx ⊢; omega) (by simp [List.flatMap_append])
          refine ⟨_, (pre ++ (Src.mk y.name y.floor (.slice adi (insR O_ii seq y.seqs).length ci) (insR O_ii seq y.seqs)) :: q), ?_, ?_, hS.u3⟩
          · rw [hz]; rfl
          · rw [if_pos hz, hnt, htr]; simp [Src.tell, hn]
    · replace hS := hS.n3
      have hAr : Rds (sl 69 3 (.slice ad (pre ++ q).length c) (pre ++ q).length ((pre ++ q).flatMap srcE)) (if c = pre.length then ad else ad.map (·.add (pre.length * 3))) (q.flatMap srcE) := Rds.part (lo := pre.length) (hi := pre.length + q.length) (pre := pre) (mid := q) (post := []) (enc := srcE) (k := 3) (fun _ => rfl) (by rw [List.append_nil]; exact hO) rfl rfl (by simpa using hle)
      have hAp : Rds (sl 69 3 (.slice ad (pre ++ q).length c) (pre ++ q).length ((pre ++ q).flatMap srcE)) (if c = 0 then ad else ad.map (·.add (0 * 3))) (pre.flatMap srcE) := Rds.part (lo := 0) (hi := pre.length) (pre := []) (mid := pre) (post := q) (enc := srcE) (k := 3) (fun _ => rfl) hO rfl (by simp) (by simp at hle; omega)
      have h1p := srcE_one (Q' := pre) hA (by intro x hx; simp [hx])
      have h1q := srcE_one (Q' := q) hA (by intro x hx; simp [hx])
      have hlx : (pre ++ q).length = pre.length + q.length := by simp
      have hir := fun xs => insR_len (O := O_ii) (x := seq) (l := xs)
      have hnt := noteL_gone (seq := seq) (O := O_ii) hp hn
      replace hS := hS.u3
      replace hS := src_split2 hS
      replace hS := hS.u5
      refine O_move rfl rfl rfl rfl rfl ?_
      refine O_extract rfl rfl rfl rfl rfl rfl ?_
      refine O_extract rfl rfl rfl rfl rfl rfl ?_
      refine O_assign rfl rfl rfl rfl rfl ?_
      refine O_assign rfl rfl rfl rfl rfl ?_
      refine R_nil ?_
      refine tn ?_
      refine F_seq ?_
      refine F_region (p := ⟨_, [0, 0, 2, 2], []⟩) rfl [0, 1, 2, 3] rfl ?_
      refine O_move rfl rfl rfl rfl rfl ?_
      refine O_build rfl rfl rfl rfl rfl (run_buildS [_, _, _] Try.zeroValue69 Try.runUnderlying69 (fun _ => 1) ⟨Try.sizeOf9, Try.sizeOf3, Try.sizeOf28, trivial⟩ rfl) ?_
      refine O_allocS hS rfl rfl rfl rfl Try.zeroValue69 (fun _ _ hv => trivial) ?_
      intro b1 w hS
      refine O_storeAgg (cs := [_, _, _]) hS rfl rfl rfl rfl rfl rfl Try.sizeOf69 rfl (Nat.le_of_ble_eq_true rfl) (by simp [one]) (fun _ hv => trivial) ?_
      intro w hS
      dsimp only [setsL, List.set_cons_zero, List.set_cons_succ, Value.cells] at hS
      refine R_nil ?_
      refine tn ?_
      refine F_seq ?_
      refine F_region (p := ⟨_, [0, 0, 0, 0], []⟩) rfl [0, 1, 2, 3] rfl ?_
      refine O_move rfl rfl rfl rfl rfl ?_
      refine O_move rfl rfl rfl rfl rfl ?_
      refine O_sliceSl pre.length (pre ++ q).length rfl rfl rfl rfl rfl rfl rfl Try.runUnderlying57 Try.sizeOf69 bnd_int bnd_none ⟨by omega, by omega⟩ ?_
      refine O_assign rfl rfl rfl rfl rfl ?_
      refine R_nil ?_
      refine tn ?_
      refine F_seq ?_
      refine F_seq ?_
      refine F_region (p := ⟨_, [0], []⟩) rfl [0] rfl ?_
      refine O_move rfl rfl rfl rfl rfl ?_
      refine R_nil ?_
      refine tn ?_
      refine F_false rfl rfl ?_
      refine F_skip ?_
      refine tn ?_
      refine F_seq ?_
      refine F_region (p := ⟨_, [0, 1, 0, 2, 0, 2], []⟩) rfl [0, 1, 2, 3, 4, 5] rfl ?_
      refine O_fieldAddr rfl rfl rfl rfl rfl Try.runUnderlying69 rfl Try.sizeOf28 ?_
      refine O_loadS hS rfl rfl rfl rfl rfl Try.isAgg28 (by repeat (first | exact .here rfl | apply CellAt.there)) (by trivial) ?_
      refine O_move rfl rfl rfl rfl rfl ?_
      refine O_call rfl rfl rfl rfl Try.call10 rfl (rAddR_ii (A := A) (ad := none) (c := 0) (xs := []) (Nat.le_refl _) (by simp [maxLen]) (fun _ => rfl) (fun _ _ _ _ i u hu => by simp at hu) (by simp) seq (hS.u4)) (fun _ _ hv => trivial) ?_
      rintro _ w hS
      obtain ⟨adi, ci, rfl, hlei, hcmi, _⟩ := sl_form hS
      have hAi := sl_rd hS
      have hni2 := hir []
      simp only [List.length_nil] at hni2
      replace hS := hS.u3
      refine O_fieldAddr rfl rfl rfl rfl rfl Try.runUnderlying69 rfl Try.sizeOf28 ?_
      refine O_storeS hS rfl rfl rfl rfl rfl rfl rfl Try.sizeOf28 (by repeat (first | exact .here rfl rfl | apply SetAt.there)) (fun w' hv => trivial) ?_
      intro w hS
      refine R_nil ?_
      refine tn ?_
      refine F_seq ?_
      refine F_seq ?_
      refine F_region (p := ⟨_, [0, 1, 0, 0], []⟩) rfl [0, 1, 2, 3] rfl ?_
      refine O_fieldAddr rfl rfl rfl rfl rfl Try.runUnderlying69 rfl Try.sizeOf28 ?_
      refine O_loadS hS rfl rfl rfl rfl rfl Try.isAgg28 (by repeat (first | exact .here rfl | apply CellAt.there)) (by trivial) ?_
      refine O_lenSl rfl rfl rfl rfl rfl Try.runUnderlying28 ?_
      refine O_cmp rfl rfl rfl rfl rfl rfl rfl ?_
      refine R_nil ?_
      refine tn ?_
      refine F_cond rfl (fun h32 => ?_) (fun h32 => ?_)
      · try simp only [decide_eq_true_eq, decide_eq_false_iff_not, Bool.not_eq_true', Bool.not_eq_false', Bool.not_true, Bool.not_false, Option.isNone_iff_eq_none, Bool.false_eq_true, Bool.true_eq_false] at h32
        obtain ⟨x0, xr, hin⟩ : ∃ x0 xr, insR O_ii seq [] = x0 :: xr := by
          cases hin : insR O_ii seq [] with
          | nil => rw [hin] at h32; simp at h32
          | cons x0 xr => exact ⟨x0, xr, rfl⟩
        have htr : trimL (0, insR O_ii seq []) = (x0, xr) := by unfold trimL; simp only; rw [if_pos h32, hin]
        rw [hin] at hS hAi hlei
        refine F_seq ?_
        refine F_region (p := ⟨_, [0, 1, 0, 1, 0, 2], []⟩) rfl [0, 1, 2, 3, 4, 5] rfl ?_
        refine O_fieldAddr rfl rfl rfl rfl rfl Try.runUnderlying69 rfl Try.sizeOf28 ?_
        refine O_loadS hS rfl rfl rfl rfl rfl Try.isAgg28 (by repeat (first | exact .here rfl | apply CellAt.there)) (by trivial) ?_
        obtain ⟨ebq1, eoq1, hadq1⟩ := Rds.ad (k := 0) (u := (.int .i64 x0)) ((sl_rds (e := 3) (size := 1) (n := (x0 :: xr).length) (cap := ci) (xs := (x0 :: xr).map fun n => .int .i64 n))) (hS.u2) rfl
        refine O_indexSlE (m := 0) rfl rfl rfl rfl Try.runUnderlying28 Try.sizeOf3 rfl hadq1 rfl rfl (by simp) ?_
        refine O_load rfl rfl rfl rfl rfl Try.isAgg3 (Rds.at (k := 0 * 1) (u := (.int .i64 x0)) ((sl_rds (e := 3) (size := 1) (n := (x0 :: xr).length) (cap := ci) (xs := (x0 :: xr).map fun n => .int .i64 n))) (hS.u2) hadq1 rfl) (by trivial) ?_
        refine O_fieldAddr rfl rfl rfl rfl rfl Try.runUnderlying69 rfl Try.sizeOf3 ?_
        refine O_storeS hS rfl rfl rfl rfl rfl rfl rfl Try.sizeOf3 (by repeat (first | exact .here rfl rfl | apply SetAt.there)) (fun w' hv => trivial) ?_
        intro w hS
        refine R_nil ?_
        refine tn ?_
        refine F_region (p := ⟨_, [0, 1, 0, 0, 2], []⟩) rfl [0, 1, 2, 3, 4] rfl ?_
        refine O_fieldAddr rfl rfl rfl rfl rfl Try.runUnderlying69 rfl Try.sizeOf28 ?_
        refine O_loadS hS rfl rfl rfl rfl rfl Try.isAgg28 (by repeat (first | exact .here rfl | apply CellAt.there)) (by trivial) ?_
        refine O_sliceSl 1 (x0 :: xr).length rfl rfl rfl rfl rfl rfl rfl Try.runUnderlying28 Try.sizeOf3 (bnd_intE rfl) bnd_none ⟨by simp, hlei⟩ ?_
        refine O_fieldAddr rfl rfl rfl rfl rfl Try.runUnderlying69 rfl Try.sizeOf28 ?_
        refine O_storeS hS rfl rfl rfl rfl rfl rfl rfl Try.sizeOf28 (by repeat (first | exact .here rfl rfl | apply SetAt.there)) (fun w' hv => trivial) ?_
        intro w hS
        refine R_nil ?_
        refine tn ?_
        refine F_seq ?_
        refine F_drawnS hS (by kernel_rfl) (p := ⟨_, [2, 0, 0, 0, 2, 1, 2, 2, 0, 2, 0, 0], [(0, 5), (4, 5)]⟩) rfl (.app [1, 2, 3, 5, 8] (.two 0 6 (.app [] (.two 4 6 (.ofList [6, 7, 9, 10, 11]) (.ofList [4, 7, 9, 10, 11]))) (.ofList [0, 4, 7, 9, 10, 11]))) (by kernel_rfl) ?_
        intro w hS
        refine O_move rfl rfl rfl rfl rfl ?_
        refine O_move rfl rfl rfl rfl rfl ?_
        replace hS := hS.u2
        replace hS := rd_tail (P0 := A) hS rfl
        replace hS := hS.u2
        refine O_sliceSl 0 pre.length rfl rfl rfl rfl rfl rfl rfl Try.runUnderlying57 Try.sizeOf69 bnd_none bnd_int ⟨by omega, by omega⟩ ?_
        refine O_loadAgg [_, _, _] rfl rfl rfl rfl rfl Try.isAgg69 Try.sizeOf69 rfl (CellsAt.rd ⟨(by repeat (first | exact .here rfl | apply CellAt.there)), (by repeat (first | exact .here rfl | apply CellAt.there)), (by repeat (first | exact .here rfl | apply CellAt.there)), trivial⟩ (hS)) (by trivial) ?_
        refine O_move rfl rfl rfl rfl rfl ?_
        refine R_two ?_ ?_
        · have hS_0 := hS
          refine O_sliceLit hS rfl rfl rfl rfl Try.runUnderlying57 Try.sizeOf69 Try.zeroValue69 rfl (by decide) rfl rfl rfl (cs := []) rfl rfl (fun _ _ hv => ⟨CellsAt.rd ⟨(by repeat (first | exact .here rfl | apply CellAt.there)), (by repeat (first | exact .here rfl | apply CellAt.there)), (by repeat (first | exact .here rfl | apply CellAt.there)), trivial⟩ (hv.u2), trivial⟩) ?_
          intro z1 w hS
          replace hS := hS.u2
          refine R_two ?_ ?_
          · have hS_4 := hS
            have hrdv1 := hAp _ _ _ (hS.u7)
            replace hS := hS.u2
            refine O_append (m := (pre.length - 0)) (news := (pre.flatMap srcE)) hS rfl rfl rfl rfl Try.underlying57 info_src rfl (by decide) rfl rfl (by rw [flen (k := 3) (fun _ => rfl)]; simp) (part_nil hni (by omega)) hrdv1 h1p (by simp only [maxLen]; omega) (by omega) (fun _ _ hv => ⟨CellsAt.rd ⟨(by repeat (first | exact .here rfl | apply CellAt.there)), (by repeat (first | exact .here rfl | apply CellAt.there)), (by repeat (first | exact .here rfl | apply CellAt.there)), trivial⟩ (hv.u2), trivial⟩) ?_
            intro v1 w hnilv1 hS
            obtain ⟨adv1, capv1, rfl, hlev1, hcapv1, _⟩ := sl_form hS
            replace hS := hS.u2
            refine O_sliceLit hS rfl rfl rfl rfl Try.runUnderlying57 Try.sizeOf69 Try.zeroValue69 rfl (by decide) rfl rfl rfl (cs := [_, _, _]) rfl rfl (fun _ _ hv => ⟨trivial, trivial⟩) ?_
            intro z2 w hS
            replace hS := hS.u2
            have hrdv2 := sl_rd (hS.u2)
            replace hS := hS.u3
            refine O_append (m := 1) (news := (srcE (Src.mk name x0 (.slice (if ci = 1 then adi else adi.map (·.add (1 * 1))) ((x0 :: xr).length - 1) (ci - 1)) xr))) hS rfl rfl rfl rfl Try.underlying57 info_src rfl (by decide) rfl rfl rfl (by intro e; cases e) hrdv2 (by simp [srcE, Value.oneCell']) (by simp only [maxLen]; omega) (by omega) (fun _ _ hv => ⟨trivial, trivial⟩) ?_
            intro v2 w hnilv2 hS
            obtain ⟨adv2, capv2, rfl, hlev2, hcapv2, _⟩ := sl_form hS
            replace hS := hS.u2
            have hrdv3 := hAr _ _ _ (hS.u8)
            replace hS := hS.u2
            refine O_append (m := ((pre ++ q).length - pre.length)) (news := (q.flatMap srcE)) hS rfl rfl rfl rfl Try.underlying57 info_src rfl (by decide) rfl rfl (by rw [flen (k := 3) (fun _ => rfl)]; omega) (part_nil hni hle) hrdv3 h1q (by simp only [maxLen]; omega) (by omega) (fun _ _ hv => ⟨trivial, trivial⟩) ?_
            intro v3 w hnilv3 hS
            obtain ⟨adv3, capv3, rfl, hlev3, hcapv3, _⟩ := sl_form hS
            replace hS := hS.u2
            refine O_assign rfl rfl rfl rfl rfl ?_
            refine O_assign rfl rfl rfl rfl rfl ?_
            refine R_nil ?_
            refine tn ?_
            refine F_ret ?_
            show endF _ _ _ _ _ _
            refine end0 trivial rfl rfl rfl hS ?_
            intro w hS
            replace hS := (hS).drop
            replace hS := (hS.u2).drop
            replace hS := (hS.u6).drop
            replace hS := hS.u3.u5.u4.u5
            replace hS := src_join (y := (Src.mk name x0 (.slice (if ci = 1 then adi else adi.map (·.add (1 * 1))) ((x0 :: xr).length - 1) (ci - 1)) xr)) hS
            replace hS := Sat.slc (n' := (pre ++ (Src.mk name x0 (.slice (if ci = 1 then adi else adi.map (·.add (1 * 1))) ((x0 :: xr).length - 1) (ci - 1)) xr) :: q).length) (xs' := (pre ++ (Src.mk name x0 (.slice (if ci = 1 then adi else adi.map (·.add (1 * 1))) ((x0 :: xr).length - 1) (ci - 1)) xr) :: q).flatMap srcE) hS.u3 (by simp only [List.length_append, List.length_cons] at hlx ⊢; omega) (by simp [List.flatMap_append])
            refine ⟨_, (pre ++ (Src.mk name x0 (.slice (if ci = 1 then adi else adi.map (·.add (1 * 1))) ((x0 :: xr).length - 1) (ci - 1)) xr) :: q), ?_, ?_, hS.u3⟩
            · rw [hz]; rfl
            · rw [if_pos hz, hnt, htr]; simp [Src.tell]
          · refine O_sliceLit hS rfl rfl rfl rfl Try.runUnderlying57 Try.sizeOf69 Try.zeroValue69 rfl (by decide) rfl rfl rfl (cs := [_, _, _]) rfl rfl (fun _ _ hv => ⟨trivial, trivial⟩) ?_
            intro z2 w hS
            replace hS := hS.u2
            have hS_4 := hS
            have hrdv1 := hAp _ _ _ (hS.u8)
            replace hS := hS.u3
            refine O_append (m := (pre.length - 0)) (news := (pre.flatMap srcE)) hS rfl rfl rfl rfl Try.underlying57 info_src rfl (by decide) rfl rfl (by rw [flen (k := 3) (fun _ => rfl)]; simp) (part_nil hni (by omega)) hrdv1 h1p (by simp only [maxLen]; omega) (by omega) (fun _ _ hv => ⟨CellsAt.rd ⟨(by repeat (first | exact .here rfl | apply CellAt.there)), (by repeat (first | exact .here rfl | apply CellAt.there)), (by repeat (first | exact .here rfl | apply CellAt.there)), trivial⟩ (hv.u2), trivial⟩) ?_
            intro v1 w hnilv1 hS
            obtain ⟨adv1, capv1, rfl, hlev1, hcapv1, _⟩ := sl_form hS
            replace hS := hS.u2
            have hrdv2 := sl_rd (hS.u3)
            replace hS := hS.u2
            refine O_append (m := 1) (news := (srcE (Src.mk name x0 (.slice (if ci = 1 then adi else adi.map (·.add (1 * 1))) ((x0 :: xr).length - 1) (ci - 1)) xr))) hS rfl rfl rfl rfl Try.underlying57 info_src rfl (by decide) rfl rfl rfl (by intro e; cases e) hrdv2 (by simp [srcE, Value.oneCell']) (by simp only [maxLen]; omega) (by omega) (fun _ _ hv => ⟨trivial, trivial⟩) ?_
            intro v2 w hnilv2 hS
            obtain ⟨adv2, capv2, rfl, hlev2, hcapv2, _⟩ := sl_form hS
            replace hS := hS.u2
            have hrdv3 := hAr _ _ _ (hS.u8)
            replace hS := hS.u2
            refine O_append (m := ((pre ++ q).length - pre.length)) (news := (q.flatMap srcE)) hS rfl rfl rfl rfl Try.underlying57 info_src rfl (by decide) rfl rfl (by rw [flen (k := 3) (fun _ => rfl)]; omega) (part_nil hni hle) hrdv3 h1q (by simp only [maxLen]; omega) (by omega) (fun _ _ hv => ⟨trivial, trivial⟩) ?_
            intro v3 w hnilv3 hS
            obtain ⟨adv3, capv3, rfl, hlev3, hcapv3, _⟩ := sl_form hS
            replace hS := hS.u2
            refine O_assign rfl rfl rfl rfl rfl ?_
            refine O_assign rfl rfl rfl rfl rfl ?_
            refine R_nil ?_
            refine tn ?_
            refine F_ret ?_
            show endF _ _ _ _ _ _
            refine end0 trivial rfl rfl rfl hS ?_
            intro w hS
            replace hS := (hS).drop
            replace hS := (hS.u2).drop
            replace hS := (hS.u6).drop
            replace hS := hS.u3.u5.u4.u5
            replace hS := src_join (y := (Src.mk name x0 (.slice (if ci = 1 then adi else adi.map (·.add (1 * 1))) ((x0 :: xr).length - 1) (ci - 1)) xr)) hS
            replace hS := Sat.slc (n' := (pre ++ (Src.mk name x0 (.slice (if ci = 1 then adi else adi.map (·.add (1 * 1))) ((x0 :: xr).length - 1) (ci - 1)) xr) :: q).length) (xs' := (pre ++ (Src.mk name x0 (.slice (if ci = 1 then adi else adi.map (·.add (1 * 1))) ((x0 :: xr).length - 1) (ci - 1)) xr) :: q).flatMap srcE) hS.u3 (by simp only [List.length_append, List.length_cons] at hlx ⊢; omega) (by simp [List.flatMap_append])
            refine ⟨_, (pre ++ (Src.mk name x0 (.slice (if ci = 1 then adi else adi.map (·.add (1 * 1))) ((x0 :: xr).length - 1) (ci - 1)) xr) :: q), ?_, ?_, hS.u3⟩
            · rw [hz]; rfl
            · rw [if_pos hz, hnt, htr]; simp [Src.tell]
        · refine O_sliceLit hS rfl rfl rfl rfl Try.runUnderlying57 Try.sizeOf69 Try.zeroValue69 rfl (by decide) rfl rfl rfl (cs := [_, _, _]) rfl rfl (fun _ _ hv => ⟨trivial, trivial⟩) ?_
          intro z1 w hS
          replace hS := hS.u2
          have hS_0 := hS
          refine O_sliceLit hS rfl rfl rfl rfl Try.runUnderlying57 Try.sizeOf69 Try.zeroValue69 rfl (by decide) rfl rfl rfl (cs := []) rfl rfl (fun _ _ hv => ⟨CellsAt.rd ⟨(by repeat (first | exact .here rfl | apply CellAt.there)), (by repeat (first | exact .here rfl | apply CellAt.there)), (by repeat (first | exact .here rfl | apply CellAt.there)), trivial⟩ (hv.u2), trivial⟩) ?_
          intro z2 w hS
          replace hS := hS.u2
          have hS_4 := hS
          have hrdv1 := hAp _ _ _ (hS.u8)
          replace hS := hS.u2
          refine O_append (m := (pre.length - 0)) (news := (pre.flatMap srcE)) hS rfl rfl rfl rfl Try.underlying57 info_src rfl (by decide) rfl rfl (by rw [flen (k := 3) (fun _ => rfl)]; simp) (part_nil hni (by omega)) hrdv1 h1p (by simp only [maxLen]; omega) (by omega) (fun _ _ hv => ⟨CellsAt.rd ⟨(by repeat (first | exact .here rfl | apply CellAt.there)), (by repeat (first | exact .here rfl | apply CellAt.there)), (by repeat (first | exact .here rfl | apply CellAt.there)), trivial⟩ (hv.u2), trivial⟩) ?_
          intro v1 w hnilv1 hS
          obtain ⟨adv1, capv1, rfl, hlev1, hcapv1, _⟩ := sl_form hS
          replace hS := hS.u2
          have hrdv2 := sl_rd (hS.u3)
          replace hS := hS.u2
          refine O_append (m := 1) (news := (srcE (Src.mk name x0 (.slice (if ci = 1 then adi else adi.map (·.add (1 * 1))) ((x0 :: xr).length - 1) (ci - 1)) xr))) hS rfl rfl rfl rfl Try.underlying57 info_src rfl (by decide) rfl rfl rfl (by intro e; cases e) hrdv2 (by simp [srcE, Value.oneCell']) (by simp only [maxLen]; omega) (by omega) (fun _ _ hv => ⟨trivial, trivial⟩) ?_
          intro v2 w hnilv2 hS
          obtain ⟨adv2, capv2, rfl, hlev2, hcapv2, _⟩ := sl_form hS
          replace hS := hS.u2
          have hrdv3 := hAr _ _ _ (hS.u8)
          replace hS := hS.u2
          refine O_append (m := ((pre ++ q).length - pre.length)) (news := (q.flatMap srcE)) hS rfl rfl rfl rfl Try.underlying57 info_src rfl (by decide) rfl rfl (by rw [flen (k := 3) (fun _ => rfl)]; omega) (part_nil hni hle) hrdv3 h1q (by simp only [maxLen]; omega) (by omega) (fun _ _ hv => ⟨trivial, trivial⟩) ?_
          intro v3 w hnilv3 hS
          obtain ⟨adv3, capv3, rfl, hlev3, hcapv3, _⟩ := sl_form hS
          replace hS := hS.u2
          refine O_assign rfl rfl rfl rfl rfl ?_
          refine O_assign rfl rfl rfl rfl rfl ?_
          refine R_nil ?_
          refine tn ?_
          refine F_ret ?_
          show endF _ _ _ _ _ _
          refine end0 trivial rfl rfl rfl hS ?_
          intro w hS
          replace hS := (hS).drop
          replace hS := (hS.u2).drop
          replace hS := (hS.u6).drop
          replace hS := hS.u3.u5.u4.u5
          replace hS := src_join (y := (Src.mk name x0 (.slice (if ci = 1 then adi else adi.map (·.add (1 * 1))) ((x0 :: xr).length - 1) (ci - 1)) xr)) hS
          replace hS := Sat.slc (n' := (pre ++ (Src.mk name x0 (.slice (if ci = 1 then adi else adi.map (·.add (1 * 1))) ((x0 :: xr).length - 1) (ci - 1)) xr) :: q).length) (xs' := (pre ++ (Src.mk name x0 (.slice (if ci = 1 then adi else adi.map (·.add (1 * 1))) ((x0 :: xr).length - 1) (ci - 1)) xr) :: q).flatMap srcE) hS.u3 (by simp only [List.length_append, List.length_cons] at hlx ⊢; omega) (by simp [List.flatMap_append])
          refine ⟨_, (pre ++ (Src.mk name x0 (.slice (if ci = 1 then adi else adi.map (·.add (1 * 1))) ((x0 :: xr).length - 1) (ci - 1)) xr) :: q), ?_, ?_, hS.u3⟩
          · rw [hz]; rfl
          · rw [if_pos hz, hnt, htr]; simp [Src.tell]
      · try simp only [decide_eq_true_eq, decide_eq_false_iff_not, Bool.not_eq_true', Bool.not_eq_false', Bool.not_true, Bool.not_false, Option.isNone_iff_eq_none, Bool.false_eq_true, Bool.true_eq_false] at h32
        have htr : trimL (0, insR O_ii seq []) = (0, insR O_ii seq []) := by unfold trimL; simp only; rw [if_neg h32]
        refine F_skip ?_
        refine tn ?_
        refine F_seq ?_
        refine F_drawnS hS (by kernel_rfl) (p := ⟨_, [2, 0, 0, 0, 2, 1, 2, 2, 0, 2, 0, 0], [(0, 5), (4, 5)]⟩) rfl (.app [1, 2, 3, 5, 8] (.two 0 6 (.app [] (.two 4 6 (.ofList [6, 7, 9, 10, 11]) (.ofList [4, 7, 9, 10, 11]))) (.ofList [0, 4, 7, 9, 10, 11]))) (by kernel_rfl) ?_
        intro w hS
        refine O_move rfl rfl rfl rfl rfl ?_
        refine O_move rfl rfl rfl rfl rfl ?_
        replace hS := hS.u2
        replace hS := rd_of_sl (P0 := A) hS
        replace hS := hS.u2
        refine O_sliceSl 0 pre.length rfl rfl rfl rfl rfl rfl rfl Try.runUnderlying57 Try.sizeOf69 bnd_none bnd_int ⟨by omega, by omega⟩ ?_
        refine O_loadAgg [_, _, _] rfl rfl rfl rfl rfl Try.isAgg69 Try.sizeOf69 rfl (CellsAt.rd ⟨(by repeat (first | exact .here rfl | apply CellAt.there)), (by repeat (first | exact .here rfl | apply CellAt.there)), (by repeat (first | exact .here rfl | apply CellAt.there)), trivial⟩ (hS)) (by trivial) ?_
        refine O_move rfl rfl rfl rfl rfl ?_
        refine R_two ?_ ?_
        · have hS_0 := hS
          refine O_sliceLit hS rfl rfl rfl rfl Try.runUnderlying57 Try.sizeOf69 Try.zeroValue69 rfl (by decide) rfl rfl rfl (cs := []) rfl rfl (fun _ _ hv => ⟨CellsAt.rd ⟨(by repeat (first | exact .here rfl | apply CellAt.there)), (by repeat (first | exact .here rfl | apply CellAt.there)), (by repeat (first | exact .here rfl | apply CellAt.there)), trivial⟩ (hv.u2), trivial⟩) ?_
          intro z1 w hS
          replace hS := hS.u2
          refine R_two ?_ ?_
          · have hS_4 := hS
            have hrdv1 := hAp _ _ _ (hS.u7)
            replace hS := hS.u2
            refine O_append (m := (pre.length - 0)) (news := (pre.flatMap srcE)) hS rfl rfl rfl rfl Try.underlying57 info_src rfl (by decide) rfl rfl (by rw [flen (k := 3) (fun _ => rfl)]; simp) (part_nil hni (by omega)) hrdv1 h1p (by simp only [maxLen]; omega) (by omega) (fun _ _ hv => ⟨CellsAt.rd ⟨(by repeat (first | exact .here rfl | apply CellAt.there)), (by repeat (first | exact .here rfl | apply CellAt.there)), (by repeat (first | exact .here rfl | apply CellAt.there)), trivial⟩ (hv.u2), trivial⟩) ?_
            intro v1 w hnilv1 hS
            obtain ⟨adv1, capv1, rfl, hlev1, hcapv1, _⟩ := sl_form hS
            replace hS := hS.u2
            refine O_sliceLit hS rfl rfl rfl rfl Try.runUnderlying57 Try.sizeOf69 Try.zeroValue69 rfl (by decide) rfl rfl rfl (cs := [_, _, _]) rfl rfl (fun _ _ hv => ⟨trivial, trivial⟩) ?_
            intro z2 w hS
            replace hS := hS.u2
            have hrdv2 := sl_rd (hS.u2)
            replace hS := hS.u3
            refine O_append (m := 1) (news := (srcE (Src.mk name 0 (.slice adi (insR O_ii seq []).length ci) (insR O_ii seq [])))) hS rfl rfl rfl rfl Try.underlying57 info_src rfl (by decide) rfl rfl rfl (by intro e; cases e) hrdv2 (by simp [srcE, Value.oneCell']) (by simp only [maxLen]; omega) (by omega) (fun _ _ hv => ⟨trivial, trivial⟩) ?_
            intro v2 w hnilv2 hS
            obtain ⟨adv2, capv2, rfl, hlev2, hcapv2, _⟩ := sl_form hS
            replace hS := hS.u2
            have hrdv3 := hAr _ _ _ (hS.u8)
            replace hS := hS.u2
            refine O_append (m := ((pre ++ q).length - pre.length)) (news := (q.flatMap srcE)) hS rfl rfl rfl rfl Try.underlying57 info_src rfl (by decide) rfl rfl (by rw [flen (k := 3) (fun _ => rfl)]; omega) (part_nil hni hle) hrdv3 h1q (by simp only [maxLen]; omega) (by omega) (fun _ _ hv => ⟨trivial, trivial⟩) ?_
            intro v3 w hnilv3 hS
            obtain ⟨adv3, capv3, rfl, hlev3, hcapv3, _⟩ := sl_form hS
            replace hS := hS.u2
            refine O_assign rfl rfl rfl rfl rfl ?_
            refine O_assign rfl rfl rfl rfl rfl ?_
            refine R_nil ?_
            refine tn ?_
            refine F_ret ?_
            show endF _ _ _ _ _ _
            refine end0 trivial rfl rfl rfl hS ?_
            intro w hS
            replace hS := (hS).drop
            replace hS := (hS.u2).drop
            replace hS := (hS.u6).drop
            replace hS := hS.u3.u5.u4.u5
            replace hS := src_join (y := (Src.mk name 0 (.slice adi (insR O_ii seq []).length ci) (insR O_ii seq []))) hS
            replace hS := Sat.slc (n' := (pre ++ (Src.mk name 0 (.slice adi (insR O_ii seq []).length ci) (insR O_ii seq [])) :: q).length) (xs' := (pre ++ (Src.mk name 0 (.slice adi (insR O_ii seq []).length ci) (insR O_ii seq [])) :: q).flatMap srcE) hS.u3 (by simp only [List.length_append, List.length_cons] at hlx ⊢; omega) (by simp [List.flatMap_append])
            refine ⟨_, (pre ++ (Src.mk name 0 (.slice adi (insR O_ii seq []).length ci) (insR O_ii seq [])) :: q), ?_, ?_, hS.u3⟩
            · rw [hz]; rfl
            · rw [if_pos hz, hnt, htr]; simp [Src.tell]
          · refine O_sliceLit hS rfl rfl rfl rfl Try.runUnderlying57 Try.sizeOf69 Try.zeroValue69 rfl (by decide) rfl rfl rfl (cs := [_, _, _]) rfl rfl (fun _ _ hv => ⟨trivial, trivial⟩) ?_
            intro z2 w hS
            replace hS := hS.u2
            have hS_4 := hS
            have hrdv1 := hAp _ _ _ (hS.u8)
            replace hS := hS.u3
            refine O_append (m := (pre.length - 0)) (news := (pre.flatMap srcE)) hS rfl rfl rfl rfl Try.underlying57 info_src rfl (by decide) rfl rfl (by rw [flen (k := 3) (fun _ => rfl)]; simp) (part_nil hni (by omega)) hrdv1 h1p (by simp only [maxLen]; omega) (by omega) (fun _ _ hv => ⟨CellsAt.rd ⟨(by repeat (first | exact .here rfl | apply CellAt.there)), (by repeat (first | exact .here rfl | apply CellAt.there)), (by repeat (first | exact .here rfl | apply CellAt.there)), trivial⟩ (hv.u2), trivial⟩) ?_
            intro v1 w hnilv1 hS
            obtain ⟨adv1, capv1, rfl, hlev1, hcapv1, _⟩ := sl_form hS
            replace hS := hS.u2
            have hrdv2 := sl_rd (hS.u3)
            replace hS := hS.u2
            refine O_append (m := 1) (news := (srcE (Src.mk name 0 (.slice adi (insR O_ii seq []).length ci) (insR O_ii seq [])))) hS rfl rfl rfl rfl Try.underlying57 info_src rfl (by decide) rfl rfl rfl (by intro e; cases e) hrdv2 (by simp [srcE, Value.oneCell']) (by simp only [maxLen]; omega) (by omega) (fun _ _ hv => ⟨trivial, trivial⟩) ?_
            intro v2 w hnilv2 hS
            obtain ⟨adv2, capv2, rfl, hlev2, hcapv2, _⟩ := sl_form hS
            replace hS := hS.u2
            have hrdv3 := hAr _ _ _ (hS.u8)
            replace hS := hS.u2
            refine O_append (m := ((pre ++ q).length - pre.length)) (news := (q.flatMap srcE)) hS rfl rfl rfl rfl Try.underlying57 info_src rfl (by decide) rfl rfl (by rw [flen (k := 3) (fun _ => rfl)]; omega) (part_nil hni hle) hrdv3 h1q (by simp only [maxLen]; omega) (by omega) (fun _ _ hv => ⟨trivial, trivial⟩) ?_
            intro v3 w hnilv3 hS
            obtain ⟨adv3, capv3, rfl, hlev3, hcapv3, _⟩ := sl_form hS
            replace hS := hS.u2
            refine O_assign rfl rfl rfl rfl rfl ?_
            refine O_assign rfl rfl rfl rfl rfl ?_
            refine R_nil ?_
            refine tn ?_
            refine F_ret ?_
            show endF _ _ _ _ _ _
            refine end0 trivial rfl rfl rfl hS ?_
            intro w hS
            replace hS := (hS).drop
            replace hS := (hS.u2).drop
            replace hS := (hS.u6).drop
            replace hS := hS.u3.u5.u4.u5
            replace hS := src_join (y := (Src.mk name 0 (.slice adi (insR O_ii seq []).length ci) (insR O_ii seq []))) hS
            replace hS := Sat.slc (n' := (pre ++ (Src.mk name 0 (.slice adi (insR O_ii seq []).length ci) (insR O_ii seq [])) :: q).length) (xs' := (pre ++ (Src.mk name 0 (.slice adi (insR O_ii seq []).length ci) (insR O_ii seq [])) :: q).flatMap srcE) hS.u3 (by simp only [List.length_append, List.length_cons] at hlx ⊢; omega) (by simp [List.flatMap_append])
            refine ⟨_, (pre ++ (Src.mk name 0 (.slice adi (insR O_ii seq []).length ci) (insR O_ii seq [])) :: q), ?_, ?_, hS.u3⟩
            · rw [hz]; rfl
            · rw [if_pos hz, hnt, htr]; simp [Src.tell]
        · refine O_sliceLit hS rfl rfl rfl rfl Try.runUnderlying57 Try.sizeOf69 Try.zeroValue69 rfl (by decide) rfl rfl rfl (cs := [_, _, _]) rfl rfl (fun _ _ hv => ⟨trivial, trivial⟩) ?_
          intro z1 w hS
          replace hS := hS.u2
          have hS_0 := hS
          refine O_sliceLit hS rfl rfl rfl rfl Try.runUnderlying57 Try.sizeOf69 Try.zeroValue69 rfl (by decide) rfl rfl rfl (cs := []) rfl rfl (fun _ _ hv => ⟨CellsAt.rd ⟨(by repeat (first | exact .here rfl | apply CellAt.there)), (by repeat (first | exact .here rfl | apply CellAt.there)), (by repeat (first | exact .here rfl | apply CellAt.there)), trivial⟩ (hv.u2), trivial⟩) ?_
          intro z2 w hS
          replace hS := hS.u2
          have hS_4 := hS
          have hrdv1 := hAp _ _ _ (hS.u8)
          replace hS := hS.u2
          refine O_append (m := (pre.length - 0)) (news := (pre.flatMap srcE)) hS rfl rfl rfl rfl Try.underlying57 info_src rfl (by decide) rfl rfl (by rw [flen (k := 3) (fun _ => rfl)]; simp) (part_nil hni (by omega)) hrdv1 h1p (by simp only [maxLen]; omega) (by omega) (fun _ _ hv => ⟨CellsAt.rd ⟨(by repeat (first | exact .here rfl | apply CellAt.there)), (by repeat (first | exact .here rfl | apply CellAt.there)), (by repeat (first | exact .here rfl | apply CellAt.there)), trivial⟩ (hv.u2), trivial⟩) ?_
          intro v1 w hnilv1 hS
          obtain ⟨adv1, capv1, rfl, hlev1, hcapv1, _⟩ := sl_form hS
          replace hS := hS.u2
          have hrdv2 := sl_rd (hS.u3)
          replace hS := hS.u2
          refine O_append (m := 1) (news := (srcE (Src.mk name 0 (.slice adi (insR O_ii seq []).length ci) (insR O_ii seq [])))) hS rfl rfl rfl rfl Try.underlying57 info_src rfl (by decide) rfl rfl rfl (by intro e; cases e) hrdv2 (by simp [srcE, Value.oneCell']) (by simp only [maxLen]; omega) (by omega) (fun _ _ hv => ⟨trivial, trivial⟩) ?_
          intro v2 w hnilv2 hS
          obtain ⟨adv2, capv2, rfl, hlev2, hcapv2, _⟩ := sl_form hS
          replace hS := hS.u2
          have hrdv3 := hAr _ _ _ (hS.u8)
          replace hS := hS.u2
          refine O_append (m := ((pre ++ q).length - pre.length)) (news := (q.flatMap srcE)) hS rfl rfl rfl rfl Try.underlying57 info_src rfl (by decide) rfl rfl (by rw [flen (k := 3) (fun _ => rfl)]; omega) (part_nil hni hle) hrdv3 h1q (by simp only [maxLen]; omega) (by omega) (fun _ _ hv => ⟨trivial, trivial⟩) ?_
          intro v3 w hnilv3 hS
          obtain ⟨adv3, capv3, rfl, hlev3, hcapv3, _⟩ := sl_form hS
          replace hS := hS.u2
          refine O_assign rfl rfl rfl rfl rfl ?_
          refine O_assign rfl rfl rfl rfl rfl ?_
          refine R_nil ?_
          refine tn ?_
          refine F_ret ?_
          show endF _ _ _ _ _ _
          refine end0 trivial rfl rfl rfl hS ?_
          intro w hS
          replace hS := (hS).drop
          replace hS := (hS.u2).drop
          replace hS := (hS.u6).drop
          replace hS := hS.u3.u5.u4.u5
          replace hS := src_join (y := (Src.mk name 0 (.slice adi (insR O_ii seq []).length ci) (insR O_ii seq []))) hS
          replace hS := Sat.slc (n' := (pre ++ (Src.mk name 0 (.slice adi (insR O_ii seq []).length ci) (insR O_ii seq [])) :: q).length) (xs' := (pre ++ (Src.mk name 0 (.slice adi (insR O_ii seq []).length ci) (insR O_ii seq [])) :: q).flatMap srcE) hS.u3 (by simp only [List.length_append, List.length_cons] at hlx ⊢; omega) (by simp [List.flatMap_append])
          refine ⟨_, (pre ++ (Src.mk name 0 (.slice adi (insR O_ii seq []).length ci) (insR O_ii seq [])) :: q), ?_, ?_, hS.u3⟩
          · rw [hz]; rfl
          · rw [if_pos hz, hnt, htr]; simp [Src.tell]
end Go.Proofs.Ytpnigaoibhogfaa
