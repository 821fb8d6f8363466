/- YtpnigaoibhogfaaDoorV5: a part of the proof: walks over the translated code, and plain facts on lists beside. -/
import Derived.Test.YtpnigaoibhogfaaDoorV4
set_option linter.all false
namespace Go.Proofs.YtpnigaoibhogfaaDoor
open Go Go.RowKit Go.Sl
set_option linter.unusedVariables false
theorem vNew_bad {w0 w : World} {R : HProp} {k : Int} (hk : k < 1 ∨ 4 < k) (hS : Sat w0 R w) : Calls Tryd.prog 9 #[.int .i64 k] w (ret fun u w' => u = .tuple #[.pointer none, .int .i64 9] ∧ Sat w0 R w') := by
  by_cases h1 : k < 1
  ·
    replace hS := hS.noblks
    refine enterF (args := [_]) Tryd.func9 rfl Tryd.ntmps9 rfl rfl ?_
    refine F_seq ?_
    refine F_region (p := ⟨_, [0, 0], []⟩) rfl [0, 1] rfl ?_
    refine O_assign rfl rfl rfl rfl rfl ?_
    refine O_assign rfl rfl rfl rfl rfl ?_
    refine R_nil ?_
    refine tn ?_
    refine F_seq ?_
    refine F_seq ?_
    refine F_region (p := ⟨_, [0, 0, 0, 0, 0, 0], []⟩) rfl [0, 1, 2, 3, 4, 5] rfl ?_
    refine O_move rfl rfl rfl rfl rfl ?_
    refine O_cmp rfl rfl rfl rfl rfl rfl rfl ?_
    refine O_move rfl rfl rfl rfl rfl ?_
    refine R_caseT (t := 10) rfl (decide_eq_true (by omega)) ?_
    refine R_skip rfl rfl rfl rfl ?_
    refine R_skip rfl rfl rfl rfl ?_
    refine O_pickT rfl rfl rfl rfl rfl rfl ?_
    refine R_nil ?_
    refine tn ?_
    refine F_true rfl rfl ?_
    refine F_seq ?_
    refine F_region (p := ⟨_, [0, 0], []⟩) rfl [0, 1] rfl ?_
    refine O_assign rfl rfl rfl rfl rfl ?_
    refine O_assign rfl rfl rfl rfl rfl ?_
    refine R_nil ?_
    refine tn ?_
    refine F_ret ?_
    refine tr ?_
    show endF _ _ _ _ _ _
    refine end0 trivial rfl rfl rfl hS ?_
    intro w hS
    replace hS := (hS).drop
    exact ⟨rfl, hS⟩
  ·
    replace hS := hS.noblks
    refine enterF (args := [_]) Tryd.func9 rfl Tryd.ntmps9 rfl rfl ?_
    refine F_seq ?_
    refine F_region (p := ⟨_, [0, 0], []⟩) rfl [0, 1] rfl ?_
    refine O_assign rfl rfl rfl rfl rfl ?_
    refine O_assign rfl rfl rfl rfl rfl ?_
    refine R_nil ?_
    refine tn ?_
    refine F_seq ?_
    refine F_seq ?_
    refine F_region (p := ⟨_, [0, 0, 0, 0, 0, 0], []⟩) rfl [0, 1, 2, 3, 4, 5] rfl ?_
    refine O_move rfl rfl rfl rfl rfl ?_
    refine O_cmp rfl rfl rfl rfl rfl rfl rfl ?_
    refine O_move rfl rfl rfl rfl rfl ?_
    refine R_caseF (t := 10) rfl (decide_eq_false (by omega)) ?_
    refine O_move rfl rfl rfl rfl rfl ?_
    refine O_cmp rfl rfl rfl rfl rfl rfl rfl ?_
    refine O_pickF rfl rfl rfl rfl rfl rfl ?_
    refine R_nil ?_
    refine tn ?_
    refine F_true rfl (decide_eq_true (by omega)) ?_
    refine F_seq ?_
    refine F_region (p := ⟨_, [0, 0], []⟩) rfl [0, 1] rfl ?_
    refine O_assign rfl rfl rfl rfl rfl ?_
    refine O_assign rfl rfl rfl rfl rfl ?_
    refine R_nil ?_
    refine tn ?_
    refine F_ret ?_
    refine tr ?_
    show endF _ _ _ _ _ _
    refine end0 trivial rfl rfl rfl hS ?_
    intro w hS
    replace hS := (hS).drop
    exact ⟨rfl, hS⟩
/-- Without measurements. -/
abbrev vat0 (k : Int) : VatS := ⟨k, 0, 0, 0, 0, 0, ⟨#[]⟩, [], []⟩
theorem vNew {w0 w : World} {R : HProp} {k : Int} (h1 : 1 ≤ k) (h2 : k ≤ 4) (hS : Sat w0 R w) : Calls Tryd.prog 9 #[.int .i64 k] w (ret fun u w' => ∃ b, u = .tuple #[.pointer (some ⟨b, 0, none⟩), .int .i64 0] ∧ Sat w0 (vatP E_ii O_ii E_si O_si 74 109 114 b (vat0 k) * R) w') := by
  replace hS := hS.noblks
  refine enterF (args := [_]) Tryd.func9 rfl Tryd.ntmps9 rfl rfl ?_
  refine F_seq ?_
  refine F_region (p := ⟨_, [0, 0], []⟩) rfl [0, 1] rfl ?_
  refine O_assign rfl rfl rfl rfl rfl ?_
  refine O_assign rfl rfl rfl rfl rfl ?_
  refine R_nil ?_
  refine tn ?_
  refine F_seq ?_
  refine F_seq ?_
  refine F_region (p := ⟨_, [0, 0, 0, 0, 0, 0], []⟩) rfl [0, 1, 2, 3, 4, 5] rfl ?_
  refine O_move rfl rfl rfl rfl rfl ?_
  refine O_cmp rfl rfl rfl rfl rfl rfl rfl ?_
  refine O_move rfl rfl rfl rfl rfl ?_
  refine R_caseF (t := 10) rfl (decide_eq_false (by omega)) ?_
  refine O_move rfl rfl rfl rfl rfl ?_
  refine O_cmp rfl rfl rfl rfl rfl rfl rfl ?_
  refine O_pickF rfl rfl rfl rfl rfl rfl ?_
  refine R_nil ?_
  refine tn ?_
  refine F_false rfl (decide_eq_false (by omega)) ?_
  refine F_skip ?_
  refine tn ?_
  refine F_seq ?_
  refine F_region (p := ⟨_, [2, 0, 0, 0, 0, 0], []⟩) rfl [0, 1, 2, 3, 4, 5] rfl ?_
  refine O_call rfl rfl rfl rfl Tryd.call22 rfl (sNew_ii (by omega) (by omega) (hS)) (fun _ _ hv => trivial) ?_
  rintro _ w ⟨sb, rfl, hS⟩
  replace hS := hS.u2
  refine O_move rfl rfl rfl rfl rfl ?_
  refine O_extract rfl rfl rfl rfl rfl rfl ?_
  refine O_extract rfl rfl rfl rfl rfl rfl ?_
  refine O_assign rfl rfl rfl rfl rfl ?_
  refine O_assign rfl rfl rfl rfl rfl ?_
  refine R_nil ?_
  refine tn ?_
  refine F_seq ?_
  refine F_region (p := ⟨_, [2, 0, 0, 0, 0, 0], []⟩) rfl [0, 1, 2, 3, 4, 5] rfl ?_
  refine O_call rfl rfl rfl rfl Tryd.call23 rfl (sNew_si (by omega) (by omega) (hS)) (fun _ _ hv => trivial) ?_
  rintro _ w ⟨mb, rfl, hS⟩
  replace hS := hS.u2
  refine O_move rfl rfl rfl rfl rfl ?_
  refine O_extract rfl rfl rfl rfl rfl rfl ?_
  refine O_extract rfl rfl rfl rfl rfl rfl ?_
  refine O_assign rfl rfl rfl rfl rfl ?_
  refine O_assign rfl rfl rfl rfl rfl ?_
  refine R_nil ?_
  refine tn ?_
  refine F_seq ?_
  refine F_region (p := ⟨_, [0, 0, 0, 0, 2, 0, 0], []⟩) rfl [0, 1, 2, 3, 4, 5, 6] rfl ?_
  refine O_move rfl rfl rfl rfl rfl ?_
  refine O_move rfl rfl rfl rfl rfl ?_
  refine O_move rfl rfl rfl rfl rfl ?_
  refine O_build rfl rfl rfl rfl rfl (run_buildS [_, _, _, _, _, _, _, _, _, _] Tryd.zeroValue74 Tryd.runUnderlying74 (fun x => match x.offset with | 2 => 2 | 4 => 4 | _ => 1) ⟨Tryd.sizeOf3, Tryd.sizeOf3, Tryd.sizeOf70, Tryd.sizeOf72, Tryd.sizeOf63, Tryd.sizeOf66, trivial⟩ rfl) ?_
  refine O_boxS hS rfl rfl rfl rfl rfl (fun _ _ hv => trivial) ?_
  intro b1 w hS
  refine O_assign rfl rfl rfl rfl rfl ?_
  refine O_assign rfl rfl rfl rfl rfl ?_
  refine R_nil ?_
  refine tn ?_
  refine F_ret ?_
  show endF _ _ _ _ _ _
  refine end0 trivial rfl rfl rfl hS ?_
  intro w hS
  replace hS := hS.sp1
  replace hS := hS.u3.u4.u3
  replace hS := vat_mk (v := (vat0 k)) (sb := sb) (mb := mb) (by rfl) hS
  replace hS := (hS.u2).drop
  exact ⟨_, rfl, hS⟩
theorem vCanC {w0 w : World} {R : HProp} {b : Nat} {v : VatS} {e : Ev} (hk : v.kind = 1) (hS : Sat w0 (vatP E_ii O_ii E_si O_si 74 109 114 b v * R) w) : Calls Tryd.prog 15 #[.pointer (some ⟨b, 0, none⟩), .agg #[e.metric, e.labels, .int .i64 e.kind, .int .i64 e.value, .string e.member, .int .i64 e.rate, .int .i64 e.time, .string e.source, .int .i64 e.seq]] w (ret fun u w' => u = .int .i64 (if e.kind = 1 then 0 else 9) ∧ Sat w0 (vatP E_ii O_ii E_si O_si 74 109 114 b v * R) w') := by
  by_cases hek : e.kind = 1
  ·
    replace hS := hS.noblks
    obtain ⟨sb, mb, hS⟩ := vat_open (hS.u2)
    simp only [VatS.own] at hS
    replace hS := hS.u4.u2
    replace hS := hS.jn1
    refine enterF (args := [_, _]) Tryd.func15 rfl Tryd.ntmps15 rfl rfl ?_
    refine F_seq ?_
    refine F_region (p := ⟨_, [2, 0], []⟩) rfl [0, 1] rfl ?_
    refine O_boxS hS rfl rfl rfl rfl rfl (fun _ _ hv => trivial) ?_
    intro b1 w hS
    refine O_assign rfl rfl rfl rfl rfl ?_
    refine R_nil ?_
    refine tn ?_
    refine F_seq ?_
    refine F_block ?_
    refine F_seq ?_
    refine F_drawnS hS (by kernel_rfl) (p := ⟨_, [0, 1, 0, 0, 0, 1, 0, 0], []⟩) rfl (.ofList [0, 1, 2, 3, 4, 5, 6, 7]) (by kernel_rfl) ?_
    intro w hS
    refine O_fieldAddr rfl rfl rfl rfl rfl Tryd.runUnderlying32 rfl Tryd.sizeOf3 ?_
    refine O_loadS hS rfl rfl rfl rfl rfl Tryd.isAgg3 (by repeat (first | exact .here rfl | apply CellAt.there)) (by trivial) ?_
    refine O_move rfl rfl rfl rfl rfl ?_
    refine O_nilCheck rfl rfl rfl rfl rfl ?_
    refine O_fieldAddr rfl rfl rfl rfl rfl Tryd.runUnderlying74 rfl Tryd.sizeOf3 ?_
    refine O_loadS hS rfl rfl rfl rfl rfl Tryd.isAgg3 (by repeat (first | exact .here rfl | apply CellAt.there)) (by trivial) ?_
    refine O_cmp rfl rfl rfl rfl rfl rfl rfl ?_
    refine O_assign rfl rfl rfl rfl rfl ?_
    refine R_nil ?_
    refine tn ?_
    refine F_false rfl (by simp only [hk, hek]; rfl) ?_
    refine F_seq ?_
    refine F_region (p := ⟨_, [0, 0, 0, 1, 0, 0, 0, 0, 0, 1, 2, 0, 0, 0], []⟩) rfl [0, 1, 2, 3, 4, 5, 6, 7, 8, 9, 10, 11, 12, 13] rfl ?_
    refine O_move rfl rfl rfl rfl rfl ?_
    refine O_nilCheck rfl rfl rfl rfl rfl ?_
    refine O_fieldAddr rfl rfl rfl rfl rfl Tryd.runUnderlying74 rfl Tryd.sizeOf3 ?_
    refine O_loadS hS rfl rfl rfl rfl rfl Tryd.isAgg3 (by repeat (first | exact .here rfl | apply CellAt.there)) (by trivial) ?_
    refine O_cmp rfl rfl rfl rfl rfl rfl rfl ?_
    refine O_move rfl rfl rfl rfl rfl ?_
    refine R_caseF (t := 19) rfl (by simp only [hk]; rfl) ?_
    refine R_skip rfl rfl rfl rfl ?_
    refine R_skip rfl rfl rfl rfl ?_
    refine R_skip rfl rfl rfl rfl ?_
    refine R_skip rfl rfl rfl rfl ?_
    refine R_skip rfl rfl rfl rfl ?_
    refine R_skip rfl rfl rfl rfl ?_
    refine O_pickF rfl rfl rfl rfl rfl rfl ?_
    refine O_assign rfl rfl rfl rfl rfl ?_
    refine R_nil ?_
    refine tn ?_
    refine F_false rfl rfl ?_
    refine F_seq ?_
    refine F_drawnS hS (by kernel_rfl) (p := ⟨_, [0, 0, 0, 1, 0, 0, 0, 0, 0, 1, 0, 1, 2, 0, 0, 0, 0, 0, 0, 1, 2, 0, 0, 0], []⟩) rfl (.ofList [0, 1, 2, 3, 4, 5, 6, 7, 8, 9, 10, 11, 12, 13, 14, 15, 16, 17, 18, 19, 20, 21, 22, 23]) (by kernel_rfl) ?_
    intro w hS
    refine O_move rfl rfl rfl rfl rfl ?_
    refine O_nilCheck rfl rfl rfl rfl rfl ?_
    refine O_fieldAddr rfl rfl rfl rfl rfl Tryd.runUnderlying74 rfl Tryd.sizeOf3 ?_
    refine O_loadS hS rfl rfl rfl rfl rfl Tryd.isAgg3 (by repeat (first | exact .here rfl | apply CellAt.there)) (by trivial) ?_
    refine O_cmp rfl rfl rfl rfl rfl rfl rfl ?_
    refine O_move rfl rfl rfl rfl rfl ?_
    refine R_caseF (t := 33) rfl (by simp only [hk]; rfl) ?_
    refine R_skip rfl rfl rfl rfl ?_
    refine R_skip rfl rfl rfl rfl ?_
    refine R_skip rfl rfl rfl rfl ?_
    refine R_skip rfl rfl rfl rfl ?_
    refine R_skip rfl rfl rfl rfl ?_
    refine R_skip rfl rfl rfl rfl ?_
    refine R_skip rfl rfl rfl rfl ?_
    refine R_skip rfl rfl rfl rfl ?_
    refine O_pickF rfl rfl rfl rfl rfl rfl ?_
    refine O_move rfl rfl rfl rfl rfl ?_
    refine R_skip rfl rfl rfl rfl ?_
    refine R_skip rfl rfl rfl rfl ?_
    refine R_skip rfl rfl rfl rfl ?_
    refine R_skip rfl rfl rfl rfl ?_
    refine R_skip rfl rfl rfl rfl ?_
    refine R_skip rfl rfl rfl rfl ?_
    refine O_pickF rfl rfl rfl rfl rfl rfl ?_
    refine O_assign rfl rfl rfl rfl rfl ?_
    refine R_nil ?_
    refine tn ?_
    refine F_false rfl rfl ?_
    refine F_skip ?_
    refine bn ?_
    refine tn ?_
    refine F_seq ?_
    refine F_region (p := ⟨_, [0], []⟩) rfl [0] rfl ?_
    refine O_assign rfl rfl rfl rfl rfl ?_
    refine R_nil ?_
    refine tn ?_
    refine F_ret ?_
    show endF _ _ _ _ _ _
    refine end0 trivial rfl rfl rfl hS ?_
    intro w hS
    replace hS := hS.sp1.drop
    replace hS := hS.sp1
    replace hS := hS.u4.u4.u3
    replace hS := vat_mk (v := v) (sb := sb) (mb := mb) (by rfl) hS
    replace hS := (hS.u2).drop
    exact ⟨by rw [if_pos hek]; rfl, hS⟩
  ·
    replace hS := hS.noblks
    obtain ⟨sb, mb, hS⟩ := vat_open (hS.u2)
    simp only [VatS.own] at hS
    replace hS := hS.u4.u2
    replace hS := hS.jn1
    refine enterF (args := [_, _]) Tryd.func15 rfl Tryd.ntmps15 rfl rfl ?_
    refine F_seq ?_
    refine F_region (p := ⟨_, [2, 0], []⟩) rfl [0, 1] rfl ?_
    refine O_boxS hS rfl rfl rfl rfl rfl (fun _ _ hv => trivial) ?_
    intro b1 w hS
    refine O_assign rfl rfl rfl rfl rfl ?_
    refine R_nil ?_
    refine tn ?_
    refine F_seq ?_
    refine F_block ?_
    refine F_seq ?_
    refine F_drawnS hS (by kernel_rfl) (p := ⟨_, [0, 1, 0, 0, 0, 1, 0, 0], []⟩) rfl (.ofList [0, 1, 2, 3, 4, 5, 6, 7]) (by kernel_rfl) ?_
    intro w hS
    refine O_fieldAddr rfl rfl rfl rfl rfl Tryd.runUnderlying32 rfl Tryd.sizeOf3 ?_
    refine O_loadS hS rfl rfl rfl rfl rfl Tryd.isAgg3 (by repeat (first | exact .here rfl | apply CellAt.there)) (by trivial) ?_
    refine O_move rfl rfl rfl rfl rfl ?_
    refine O_nilCheck rfl rfl rfl rfl rfl ?_
    refine O_fieldAddr rfl rfl rfl rfl rfl Tryd.runUnderlying74 rfl Tryd.sizeOf3 ?_
    refine O_loadS hS rfl rfl rfl rfl rfl Tryd.isAgg3 (by repeat (first | exact .here rfl | apply CellAt.there)) (by trivial) ?_
    refine O_cmp rfl rfl rfl rfl rfl rfl rfl ?_
    refine O_assign rfl rfl rfl rfl rfl ?_
    refine R_nil ?_
    refine tn ?_
    refine F_true rfl (by simp only [hk]; simpa using hek) ?_
    refine F_seq ?_
    refine F_region (p := ⟨_, [0], []⟩) rfl [0] rfl ?_
    refine O_assign rfl rfl rfl rfl rfl ?_
    refine R_nil ?_
    refine tn ?_
    refine F_ret ?_
    refine br ?_
    refine tr ?_
    show endF _ _ _ _ _ _
    refine end0 trivial rfl rfl rfl hS ?_
    intro w hS
    replace hS := hS.sp1.drop
    replace hS := hS.sp1
    replace hS := hS.u4.u4.u3
    replace hS := vat_mk (v := v) (sb := sb) (mb := mb) (by rfl) hS
    replace hS := (hS.u2).drop
    exact ⟨by rw [if_neg hek]; rfl, hS⟩
theorem vAddC {w0 w : World} {R : HProp} {b : Nat} {v : VatS} {e : Ev} (hk : v.kind = 1) (hek : e.kind = 1) (hT : -3000000000000000000 ≤ v.sum / 1000000000000 ∧ v.sum / 1000000000000 ≤ 3000000000000000000) (hn : -1000000000000000000 ≤ e.value ∧ e.value ≤ 1000000000000000000) (ht : 0 ≤ e.rate ∧ e.rate ≤ 1000) (hm : 0 ≤ v.many ∧ v.many ≤ 4000000000000000000) (hS : Sat w0 (vatP E_ii O_ii E_si O_si 74 109 114 b v * R) w) :
    Calls Tryd.prog 10 #[.pointer (some ⟨b, 0, none⟩), .agg #[e.metric, e.labels, .int .i64 e.kind, .int .i64 e.value, .string e.member, .int .i64 e.rate, .int .i64 e.time, .string e.source, .int .i64 e.seq]] w (ret fun u w' => u = .int .i64 0 ∧ Sat w0 (vatP E_ii O_ii E_si O_si 74 109 114 b { v with many := v.many + e.rate, sum := v.sum + e.value * e.rate } * R) w') := by
  replace hS := hS.noblks
  refine enterF (args := [_, _]) Tryd.func10 rfl Tryd.ntmps10 rfl rfl ?_
  refine F_seq ?_
  refine F_region (p := ⟨_, [2, 0], []⟩) rfl [0, 1] rfl ?_
  refine O_boxS hS rfl rfl rfl rfl rfl (fun _ _ hv => trivial) ?_
  intro b1 w hS
  refine O_assign rfl rfl rfl rfl rfl ?_
  refine R_nil ?_
  refine tn ?_
  refine F_seq ?_
  refine F_seq ?_
  refine F_region (p := ⟨_, [0, 1, 2, 0], []⟩) rfl [0, 1, 2, 3] rfl ?_
  refine O_move rfl rfl rfl rfl rfl ?_
  refine O_loadAgg [_, _, _, _, _, _, _, _, _] rfl rfl rfl rfl rfl Tryd.isAgg32 Tryd.sizeOf32 rfl (CellsAt.rd ⟨(by repeat (first | exact .here rfl | apply CellAt.there)), (by repeat (first | exact .here rfl | apply CellAt.there)), (by repeat (first | exact .here rfl | apply CellAt.there)), (by repeat (first | exact .here rfl | apply CellAt.there)), (by repeat (first | exact .here rfl | apply CellAt.there)), (by repeat (first | exact .here rfl | apply CellAt.there)), (by repeat (first | exact .here rfl | apply CellAt.there)), (by repeat (first | exact .here rfl | apply CellAt.there)), (by repeat (first | exact .here rfl | apply CellAt.there)), trivial⟩ (hS)) (by trivial) ?_
  refine O_call rfl rfl rfl rfl Tryd.call15 rfl (vCanC (e := e) hk (hS.u2)) (fun _ _ hv => trivial) ?_
  rintro _ w ⟨rfl, hS⟩
  rw [if_pos hek]
  replace hS := hS.u2
  obtain ⟨sb, mb, hS⟩ := vat_open (hS.u2)
  simp only [VatS.own] at hS
  replace hS := hS.u4.u2
  replace hS := hS.jn1
  refine O_assign rfl rfl rfl rfl rfl ?_
  refine R_nil ?_
  refine tn ?_
  refine F_seq ?_
  refine F_region (p := ⟨_, [0, 0], []⟩) rfl [0, 1] rfl ?_
  refine O_move rfl rfl rfl rfl rfl ?_
  refine O_cmp rfl rfl rfl rfl rfl rfl rfl ?_
  refine R_nil ?_
  refine tn ?_
  refine F_false rfl rfl ?_
  refine F_skip ?_
  refine tn ?_
  refine F_seq ?_
  refine F_seq ?_
  refine F_region (p := ⟨_, [0, 0, 0, 1], []⟩) rfl [0, 1, 2, 3] rfl ?_
  refine O_move rfl rfl rfl rfl rfl ?_
  refine O_nilCheck rfl rfl rfl rfl rfl ?_
  refine O_fieldAddr rfl rfl rfl rfl rfl Tryd.runUnderlying74 rfl Tryd.sizeOf3 ?_
  refine O_loadS hS rfl rfl rfl rfl rfl Tryd.isAgg3 (by repeat (first | exact .here rfl | apply CellAt.there)) (by trivial) ?_
  refine R_nil ?_
  refine tn ?_
  refine F_block ?_
  refine F_seq ?_
  refine F_block ?_
  refine F_seq ?_
  refine F_block ?_
  refine F_seq ?_
  refine F_block ?_
  refine F_seq ?_
  refine F_block ?_
  refine F_seq ?_
  refine F_seq ?_
  refine F_seq ?_
  refine F_region (p := ⟨_, [0, 0], []⟩) rfl [0, 1] rfl ?_
  refine O_cmp rfl rfl rfl rfl rfl rfl rfl ?_
  refine O_assign rfl rfl rfl rfl rfl ?_
  refine R_nil ?_
  refine tn ?_
  refine F_false rfl (by simp only [hk]; rfl) ?_
  refine F_skip ?_
  refine tn ?_
  refine F_seq ?_
  refine F_seq ?_
  refine F_region (p := ⟨_, [0, 0], []⟩) rfl [0, 1] rfl ?_
  refine O_cmp rfl rfl rfl rfl rfl rfl rfl ?_
  refine O_assign rfl rfl rfl rfl rfl ?_
  refine R_nil ?_
  refine tn ?_
  refine F_false rfl (by simp only [hk]; rfl) ?_
  refine F_skip ?_
  refine tn ?_
  refine F_seq ?_
  refine F_region (p := ⟨_, [0, 0], []⟩) rfl [0, 1] rfl ?_
  refine O_cmp rfl rfl rfl rfl rfl rfl rfl ?_
  refine O_assign rfl rfl rfl rfl rfl ?_
  refine R_nil ?_
  refine tn ?_
  refine F_false rfl (by simp only [hk]; rfl) ?_
  refine F_skip ?_
  refine tn ?_
  refine F_exit ?_
  refine bm (by decide) ?_
  refine tx ?_
  refine bm (by decide) ?_
  refine tx ?_
  refine bm (by decide) ?_
  refine tx ?_
  refine Go.Sl.bx rfl ?_
  refine tn ?_
  refine F_seq ?_
  refine F_seq ?_
  refine F_drawnS hS (by kernel_rfl) (p := ⟨_, [0, 0, 0, 0, 1, 0, 1, 0, 1, 2, 0, 0, 2], []⟩) rfl (.ofList [0, 1, 2, 3, 4, 5, 6, 7, 8, 9, 10, 11, 12]) (by kernel_rfl) ?_
  intro w hS
  refine O_move rfl rfl rfl rfl rfl ?_
  refine O_move rfl rfl rfl rfl rfl ?_
  refine O_nilCheck rfl rfl rfl rfl rfl ?_
  refine O_fieldAddr rfl rfl rfl rfl rfl Tryd.runUnderlying74 rfl Tryd.sizeOf70 ?_
  refine O_loadAgg [_, _] rfl rfl rfl rfl rfl Tryd.isAgg70 Tryd.sizeOf70 rfl (CellsAt.rd ⟨(by repeat (first | exact .here rfl | apply CellAt.there)), (by repeat (first | exact .here rfl | apply CellAt.there)), trivial⟩ (hS)) (by trivial) ?_
  refine O_fieldAddr rfl rfl rfl rfl rfl Tryd.runUnderlying32 rfl Tryd.sizeOf3 ?_
  refine O_loadS hS rfl rfl rfl rfl rfl Tryd.isAgg3 (by repeat (first | exact .here rfl | apply CellAt.there)) (by trivial) ?_
  refine O_fieldAddr rfl rfl rfl rfl rfl Tryd.runUnderlying32 rfl Tryd.sizeOf3 ?_
  refine O_loadS hS rfl rfl rfl rfl rfl Tryd.isAgg3 (by repeat (first | exact .here rfl | apply CellAt.there)) (by trivial) ?_
  refine O_call rfl rfl rfl rfl Tryd.call27 rfl (vWadd hT hn ht (hS)) (fun _ _ hv => trivial) ?_
  rintro _ w ⟨rfl, hS⟩
  refine O_nilCheck rfl rfl rfl rfl rfl ?_
  refine O_fieldAddr rfl rfl rfl rfl rfl Tryd.runUnderlying74 rfl Tryd.sizeOf70 ?_
  refine O_storeAggAt (cs := [_, _]) hS rfl rfl rfl rfl rfl rfl Tryd.sizeOf70 rfl (Nat.le_of_ble_eq_true rfl) (by simp [one]) (fun _ hv => trivial) ?_
  intro w hS
  dsimp only [setsL, List.set_cons_zero, List.set_cons_succ, Value.cells] at hS
  refine R_nil ?_
  refine tn ?_
  refine F_drawnS hS (by kernel_rfl) (p := ⟨_, [0, 0, 0, 1, 0, 1, 0, 0, 0, 2], []⟩) rfl (.ofList [0, 1, 2, 3, 4, 5, 6, 7, 8, 9]) (by kernel_rfl) ?_
  intro w hS
  refine O_move rfl rfl rfl rfl rfl ?_
  refine O_nilCheck rfl rfl rfl rfl rfl ?_
  refine O_fieldAddr rfl rfl rfl rfl rfl Tryd.runUnderlying74 rfl Tryd.sizeOf3 ?_
  refine O_loadS hS rfl rfl rfl rfl rfl Tryd.isAgg3 (by repeat (first | exact .here rfl | apply CellAt.there)) (by trivial) ?_
  refine O_fieldAddr rfl rfl rfl rfl rfl Tryd.runUnderlying32 rfl Tryd.sizeOf3 ?_
  refine O_loadS hS rfl rfl rfl rfl rfl Tryd.isAgg3 (by repeat (first | exact .here rfl | apply CellAt.there)) (by trivial) ?_
  refine O_addN rfl rfl rfl rfl rfl rfl (by first | omega | (dsimp only; omega)) ?_
  refine O_nilCheck rfl rfl rfl rfl rfl ?_
  refine O_fieldAddr rfl rfl rfl rfl rfl Tryd.runUnderlying74 rfl Tryd.sizeOf3 ?_
  refine O_storeS hS rfl rfl rfl rfl rfl rfl rfl Tryd.sizeOf3 (by repeat (first | exact .here rfl rfl | apply SetAt.there)) (fun w' hv => trivial) ?_
  intro w hS
  refine R_nil ?_
  refine tn ?_
  refine F_exit ?_
  refine Go.Sl.bx rfl ?_
  refine tn ?_
  refine F_seq ?_
  refine F_region (p := ⟨_, [0], []⟩) rfl [0] rfl ?_
  refine O_assign rfl rfl rfl rfl rfl ?_
  refine R_nil ?_
  refine tn ?_
  refine F_ret ?_
  show endF _ _ _ _ _ _
  refine end0 trivial rfl rfl rfl hS ?_
  intro w hS
  replace hS := hS.lk2
  replace hS := hS.sp1.drop
  replace hS := hS.sp1
  replace hS := hS.u4.u4.u3
  replace hS := vat_mk (v := { v with many := v.many + e.rate, sum := v.sum + e.value * e.rate }) (sb := sb) (mb := mb) (by rfl) hS
  replace hS := (hS.u2).drop
  exact ⟨rfl, hS⟩
theorem vResC {w0 w : World} {R : HProp} {b : Nat} {v : VatS} (hk : v.kind = 1) (hes : v.es = []) (hT : -3000000000000000000 ≤ v.sum / 1000000000000 ∧ v.sum / 1000000000000 ≤ 3000000000000000000) (hS : Sat w0 (vatP E_ii O_ii E_si O_si 74 109 114 b v * R) w) :
    Calls Tryd.prog 12 #[.pointer (some ⟨b, 0, none⟩)] w (ret fun u w' => u = .agg #[.int .i64 v.kind, .int .i64 v.many, .int .i64 (clampI v.sum), .int .i64 0, .int .i64 0, .int .i64 0, .int .i64 0, .int .i64 0, .bool (outI v.sum)] ∧ Sat w0 (vatP E_ii O_ii E_si O_si 74 109 114 b v * R) w') := by
  replace hS := hS.noblks
  obtain ⟨sb, mb, hS⟩ := vat_open (hS.u2)
  simp only [VatS.own] at hS
  replace hS := hS.u4.u2
  replace hS := hS.jn1
  refine enterF (args := [_]) Tryd.func12 rfl Tryd.ntmps12 rfl rfl ?_
  refine F_seq ?_
  refine F_region (p := ⟨_, [2], []⟩) rfl [0] rfl ?_
  refine O_allocS hS rfl rfl rfl rfl Tryd.zeroValue38 (fun _ _ hv => trivial) ?_
  intro b1 w hS
  refine R_nil ?_
  refine tn ?_
  refine F_seq ?_
  refine F_drawnS hS (by kernel_rfl) (p := ⟨_, [0, 0, 0, 1, 0, 0, 0, 1, 0, 0, 0, 0, 1, 0, 2, 2], [(3, 14), (7, 14), (12, 14)]⟩) rfl (.ofList [0, 1, 2, 3, 4, 5, 6, 7, 8, 9, 10, 11, 12, 13, 14, 15]) (by kernel_rfl) ?_
  intro w hS
  refine O_move rfl rfl rfl rfl rfl ?_
  refine O_nilCheck rfl rfl rfl rfl rfl ?_
  refine O_fieldAddr rfl rfl rfl rfl rfl Tryd.runUnderlying74 rfl Tryd.sizeOf3 ?_
  refine O_loadS hS rfl rfl rfl rfl rfl Tryd.isAgg3 (by repeat (first | exact .here rfl | apply CellAt.there)) (by trivial) ?_
  refine O_move rfl rfl rfl rfl rfl ?_
  refine O_nilCheck rfl rfl rfl rfl rfl ?_
  refine O_fieldAddr rfl rfl rfl rfl rfl Tryd.runUnderlying74 rfl Tryd.sizeOf3 ?_
  refine O_loadS hS rfl rfl rfl rfl rfl Tryd.isAgg3 (by repeat (first | exact .here rfl | apply CellAt.there)) (by trivial) ?_
  refine O_move rfl rfl rfl rfl rfl ?_
  refine O_nilCheck rfl rfl rfl rfl rfl ?_
  refine O_fieldAddr rfl rfl rfl rfl rfl Tryd.runUnderlying74 rfl Tryd.sizeOf72 ?_
  refine O_fieldAddr rfl rfl rfl rfl rfl Tryd.runUnderlying72 rfl Tryd.sizeOf3 ?_
  refine O_loadS hS rfl rfl rfl rfl rfl Tryd.isAgg3 (by repeat (first | exact .here rfl | apply CellAt.there)) (by trivial) ?_
  refine O_build rfl rfl rfl rfl rfl (run_buildS [_, _, _, _, _, _, _, _, _] Tryd.zeroValue38 Tryd.runUnderlying38 (fun x => match x.offset with | 5 => 3 | _ => 1) ⟨Tryd.sizeOf3, Tryd.sizeOf3, Tryd.sizeOf3, Tryd.sizeOf3, Tryd.sizeOf3, Tryd.sizeOf36, Tryd.sizeOf4, trivial⟩ rfl) ?_
  have hS_14 := hS
  refine O_allocS hS rfl rfl rfl rfl Tryd.zeroValue38 (fun _ _ hv => ⟨CellAt.cell (by repeat (first | exact .here rfl | apply CellAt.there)) (hv), ⟨CellAt.cell (by repeat (first | exact .here rfl | apply CellAt.there)) (hv), ⟨CellAt.cell (by repeat (first | exact .here rfl | apply CellAt.there)) (hv), trivial⟩⟩⟩) ?_
  intro b2 w hS
  refine O_storeAgg (cs := [_, _, _, _, _, _, _, _, _]) hS rfl rfl rfl rfl rfl rfl Tryd.sizeOf38 rfl (Nat.le_of_ble_eq_true rfl) (by simp [one]) (fun _ hv => ⟨trivial, ⟨trivial, ⟨trivial, trivial⟩⟩⟩) ?_
  intro w hS
  dsimp only [setsL, List.set_cons_zero, List.set_cons_succ, Value.cells] at hS
  refine R_nil ?_
  refine tn ?_
  refine F_seq ?_
  refine F_seq ?_
  refine F_region (p := ⟨_, [0, 0, 0, 1], []⟩) rfl [0, 1, 2, 3] rfl ?_
  refine O_move rfl rfl rfl rfl rfl ?_
  refine O_nilCheck rfl rfl rfl rfl rfl ?_
  refine O_fieldAddr rfl rfl rfl rfl rfl Tryd.runUnderlying74 rfl Tryd.sizeOf3 ?_
  refine O_loadS hS rfl rfl rfl rfl rfl Tryd.isAgg3 (by repeat (first | exact .here rfl | apply CellAt.there)) (by trivial) ?_
  refine R_nil ?_
  refine tn ?_
  refine F_block ?_
  refine F_seq ?_
  refine F_region (p := ⟨_, [0, 0], []⟩) rfl [0, 1] rfl ?_
  refine O_cmp rfl rfl rfl rfl rfl rfl rfl ?_
  refine O_assign rfl rfl rfl rfl rfl ?_
  refine R_nil ?_
  refine tn ?_
  refine F_false rfl (by simp only [hk]; rfl) ?_
  refine F_seq ?_
  refine F_seq ?_
  refine F_region (p := ⟨_, [0, 0], []⟩) rfl [0, 1] rfl ?_
  refine O_cmp rfl rfl rfl rfl rfl rfl rfl ?_
  refine O_assign rfl rfl rfl rfl rfl ?_
  refine R_nil ?_
  refine tn ?_
  refine F_true rfl (by simp only [hk]; rfl) ?_
  refine F_skip ?_
  refine tn ?_
  refine F_true rfl (by simp only [hk]; rfl) ?_
  refine F_region (p := ⟨_, [0, 0, 0, 1, 2, 0, 0, 0, 0, 2, 0, 2], []⟩) rfl [0, 1, 2, 3, 4, 5, 6, 7, 8, 9, 10, 11] rfl ?_
  refine O_move rfl rfl rfl rfl rfl ?_
  refine O_nilCheck rfl rfl rfl rfl rfl ?_
  refine O_fieldAddr rfl rfl rfl rfl rfl Tryd.runUnderlying74 rfl Tryd.sizeOf70 ?_
  refine O_loadAgg [_, _] rfl rfl rfl rfl rfl Tryd.isAgg70 Tryd.sizeOf70 rfl (CellsAt.rd ⟨(by repeat (first | exact .here rfl | apply CellAt.there)), (by repeat (first | exact .here rfl | apply CellAt.there)), trivial⟩ (hS)) (by trivial) ?_
  refine O_call rfl rfl rfl rfl Tryd.call29 rfl (vInt hT (hS)) (fun _ _ hv => trivial) ?_
  rintro _ w ⟨rfl, hS⟩
  refine O_move rfl rfl rfl rfl rfl ?_
  refine O_extract rfl rfl rfl rfl rfl rfl ?_
  refine O_extract rfl rfl rfl rfl rfl rfl ?_
  refine O_fieldAddr rfl rfl rfl rfl rfl Tryd.runUnderlying38 rfl Tryd.sizeOf3 ?_
  refine O_storeS hS rfl rfl rfl rfl rfl rfl rfl Tryd.sizeOf3 (by repeat (first | exact .here rfl rfl | apply SetAt.there)) (fun w' hv => trivial) ?_
  intro w hS
  refine O_fieldAddr rfl rfl rfl rfl rfl Tryd.runUnderlying38 rfl Tryd.sizeOf4 ?_
  refine O_storeS hS rfl rfl rfl rfl rfl rfl rfl Tryd.sizeOf4 (by repeat (first | exact .here rfl rfl | apply SetAt.there)) (fun w' hv => trivial) ?_
  intro w hS
  refine R_nil ?_
  refine bn ?_
  refine tn ?_
  refine F_seq ?_
  refine F_seq ?_
  refine F_region (p := ⟨_, [0, 0, 0, 1, 2, 0], []⟩) rfl [0, 1, 2, 3, 4, 5] rfl ?_
  refine O_move rfl rfl rfl rfl rfl ?_
  refine O_nilCheck rfl rfl rfl rfl rfl ?_
  refine O_fieldAddr rfl rfl rfl rfl rfl Tryd.runUnderlying74 rfl Tryd.sizeOf63 ?_
  refine O_loadS hS rfl rfl rfl rfl rfl Tryd.isAgg63 (by repeat (first | exact .here rfl | apply CellAt.there)) (by trivial) ?_
  obtain ⟨rb, hw, hs, ht, hr, hS⟩ := sackP_open (hS.u2)
  replace hS := hS.u3
  refine O_call rfl rfl rfl rfl Tryd.call30 rfl (sLen_ii (hS.u2)) (fun _ _ hv => trivial) ?_
  rintro _ w ⟨rfl, hS⟩
  replace hS := hS.u2
  have ht0 : tot v.es = 0 := by rw [hes]; rfl
  replace hS := hS.u3.u3
  replace hS := sackP_mk hw hs ht hr rfl hS
  replace hS := hS.u2
  refine O_cmp rfl rfl rfl rfl rfl rfl rfl ?_
  refine R_nil ?_
  refine tn ?_
  refine F_false rfl (by simp only [ht0]; rfl) ?_
  refine F_skip ?_
  refine tn ?_
  refine F_seq ?_
  refine F_region (p := ⟨_, [1, 2], []⟩) rfl [0, 1] rfl ?_
  refine O_loadAgg [_, _, _, _, _, _, _, _, _] rfl rfl rfl rfl rfl Tryd.isAgg38 Tryd.sizeOf38 rfl (CellsAt.rd ⟨(by repeat (first | exact .here rfl | apply CellAt.there)), (by repeat (first | exact .here rfl | apply CellAt.there)), (by repeat (first | exact .here rfl | apply CellAt.there)), (by repeat (first | exact .here rfl | apply CellAt.there)), (by repeat (first | exact .here rfl | apply CellAt.there)), (by repeat (first | exact .here rfl | apply CellAt.there)), (by repeat (first | exact .here rfl | apply CellAt.there)), (by repeat (first | exact .here rfl | apply CellAt.there)), (by repeat (first | exact .here rfl | apply CellAt.there)), trivial⟩ (hS)) (by trivial) ?_
  replace hS := hS.lk2
  refine O_storeAgg (cs := [_, _, _, _, _, _, _, _, _]) hS rfl rfl rfl rfl rfl rfl Tryd.sizeOf38 rfl (Nat.le_of_ble_eq_true rfl) (by simp [one]) (fun _ hv => trivial) ?_
  intro w hS
  dsimp only [setsL, List.set_cons_zero, List.set_cons_succ, Value.cells] at hS
  refine R_nil ?_
  refine tn ?_
  refine F_ret ?_
  show endF _ _ _ _ _ _
  refine end_in (vs := [.agg #[.int .i64 v.kind, .int .i64 v.many, .int .i64 (clampI v.sum), .int .i64 0, .int .i64 0, .int .i64 0, .int .i64 0, .int .i64 0, .bool (outI v.sum)]]) trivial rfl (hS.to (hemp_star _).symm) ?_
  intro w hS
  refine ⟨⟨_, rfl, loadVar_agg [_, _, _, _, _, _, _, _, _] Tryd.isAgg38 Tryd.sizeOf38 rfl (CellsAt.rd ⟨(by repeat (first | exact .here rfl | apply CellAt.there)), (by repeat (first | exact .here rfl | apply CellAt.there)), (by repeat (first | exact .here rfl | apply CellAt.there)), (by repeat (first | exact .here rfl | apply CellAt.there)), (by repeat (first | exact .here rfl | apply CellAt.there)), (by repeat (first | exact .here rfl | apply CellAt.there)), (by repeat (first | exact .here rfl | apply CellAt.there)), (by repeat (first | exact .here rfl | apply CellAt.there)), (by repeat (first | exact .here rfl | apply CellAt.there)), trivial⟩ hS), trivial⟩, rfl, ?_⟩
  replace hS := hS.sp1.drop
  replace hS := hS.sp1.drop
  replace hS := hS.sp1
  replace hS := hS.u4.u4.u3
  replace hS := vat_mk (v := v) (sb := sb) (mb := mb) (by rfl) hS
  replace hS := (hS.u2).drop
  exact hS
end Go.Proofs.YtpnigaoibhogfaaDoor
