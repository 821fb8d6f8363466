/- YtpnigaoibhogfaaDoorV7: a part of the proof: walks over the translated code, and plain facts on lists beside. -/
import Derived.Test.YtpnigaoibhogfaaDoorV6
import Derived.Test.YtpnigaoibhogfaaDoorSlSt
set_option linter.all false
namespace Go.Proofs.YtpnigaoibhogfaaDoor
open Go Go.RowKit Go.Sl
set_option linter.unusedVariables false
theorem pk3 : Tryd.prog.plainKey 3 = true := by kernel_rfl
theorem pk4 : Tryd.prog.plainKey 4 = true := by kernel_rfl
theorem c3 : Tryd.prog.cellsOf 3 = 1 := by kernel_rfl
theorem in38 : Tryd.prog.stoodInHeld 38 = false := by kernel_rfl
theorem i3 : ∃ i, Tryd.prog.info? 3 = some i := by
  have h := info_i
  obtain ⟨i, h1, _⟩ := Option.map_eq_some_iff.1 h
  exact ⟨i, h1⟩
abbrev res9 (x0 x1 x2 x3 x4 x5 x6 x7 : Int) (x8 : Bool) : Array Value := #[.int .i64 x0, .int .i64 x1, .int .i64 x2, .int .i64 x3, .int .i64 x4, .int .i64 x5, .int .i64 x6, .int .i64 x7, .bool x8]
theorem eq38 (x0 x1 x2 x3 x4 x5 x6 x7 y0 y1 y2 y3 y4 y5 y6 y7 : Int) (x8 y8 : Bool) (w : World) :
    (Op.equal 38 (.agg (res9 x0 x1 x2 x3 x4 x5 x6 x7 x8)) (.agg (res9 y0 y1 y2 y3 y4 y5 y6 y7 y8))).run Tryd.prog w
      = .ok (x0 == y0 && (x1 == y1 && (x2 == y2 && (x3 == y3 && (x4 == y4 && ((x5 == y5 && (x6 == y6 && (x7 == y7 && true))) && (x8 == y8 && true))))))) w := by
  obtain ⟨i, hi⟩ := i3
  have p3 : ∀ (xs : Array Value) (off : Nat) (v : Value), xs[off]? = some v → (part 3 xs off).run Tryd.prog w = .ok v w := fun xs off v h => run_part_plain w pk3 h
  have p4 : ∀ (xs : Array Value) (off : Nat) (v : Value), xs[off]? = some v → (part 4 xs off).run Tryd.prog w = .ok v w := fun xs off v h => run_part_plain w pk4 h
  have p36 : ∀ (xs : Array Value), (part 36 xs 5).run Tryd.prog w = .ok (.agg (xs.extract 5 8)) w := fun xs => by
    simp [part, Sem.run_bind, Tryd.isAgg36, Tryd.sizeOf36, Result.andThen_ok, Sem.run_pure]
  have q36 : ∀ (d : Nat) (a b c x y z : Int), (Op.equalIn (d + 2) 36 (.agg #[.int .i64 a, .int .i64 b, .int .i64 c]) (.agg #[.int .i64 x, .int .i64 y, .int .i64 z])).run Tryd.prog w = .ok (a == x && (b == y && (c == z && true))) w := fun d a b c x y z => by
    rw [run_equalIn_array w (d + 1) _ _ Tryd.underlying36 hi, c3]
    exact eqI_cons (p3 _ _ _ rfl) (p3 _ _ _ rfl) (eq_int Tryd.underlying3) (eqI_cons (p3 _ _ _ rfl) (p3 _ _ _ rfl) (eq_int Tryd.underlying3) (eqI_cons (p3 _ _ _ rfl) (p3 _ _ _ rfl) (eq_int Tryd.underlying3) eqI_nil))
  have key : ∀ d, (Op.equalIn (d + 3) 38 (.agg (res9 x0 x1 x2 x3 x4 x5 x6 x7 x8)) (.agg (res9 y0 y1 y2 y3 y4 y5 y6 y7 y8))).run Tryd.prog w
      = .ok (x0 == y0 && (x1 == y1 && (x2 == y2 && (x3 == y3 && (x4 == y4 && ((x5 == y5 && (x6 == y6 && (x7 == y7 && true))) && (x8 == y8 && true))))))) w := by
    intro d
    rw [run_equalIn_struct w (d + 2) 38 _ _ (by simp [Program.fieldsOf, Tryd.underlying38]) in38]
    simp only [Program.fieldsOf, Tryd.underlying38]
    exact eqF_cons (by decide) (p3 _ _ _ rfl) (p3 _ _ _ rfl) (eq_int Tryd.underlying3) (eqF_cons (by decide) (p3 _ _ _ rfl) (p3 _ _ _ rfl) (eq_int Tryd.underlying3) (eqF_cons (by decide) (p3 _ _ _ rfl) (p3 _ _ _ rfl) (eq_int Tryd.underlying3) (eqF_cons (by decide) (p3 _ _ _ rfl) (p3 _ _ _ rfl) (eq_int Tryd.underlying3) (eqF_cons (by decide) (p3 _ _ _ rfl) (p3 _ _ _ rfl) (eq_int Tryd.underlying3) (eqF_cons (by decide) (p36 _) (p36 _) (q36 d _ _ _ _ _ _) (eqF_cons (by decide) (p4 _ _ _ rfl) (p4 _ _ _ rfl) (eq_bool Tryd.underlying4) eqF_nil))))))
  exact key (Op.maxDepth - 3)
theorem vState {w0 w : World} {R : HProp} {b : Nat} {v : VatS} (hS : Sat w0 (vatP E_ii O_ii E_si O_si 74 109 114 b v * R) w) : Calls Tryd.prog 18 #[.pointer (some ⟨b, 0, none⟩)] w (ret fun u w' => ∃ a1 c1 a2 c2, u = .agg #[.int .i64 v.kind, .int .i64 v.many, .int .i64 (v.sum / 1000000000000), .int .i64 (v.sum % 1000000000000), .int .i64 v.lv, .int .i64 v.lt, .int .i64 v.lq, .string v.src, .slice a1 (expand v.es).length c1, .slice a2 (expand v.ms).length c2] ∧ Sat w0 (sl 3 1 (.slice a1 (expand v.es).length c1) (expand v.es).length ((expand v.es).map eI) * (sl 9 1 (.slice a2 (expand v.ms).length c2) (expand v.ms).length ((expand v.ms).map eS) * (vatP E_ii O_ii E_si O_si 74 109 114 b v * R))) w') := by
  replace hS := hS.noblks
  obtain ⟨sb, mb, hS⟩ := vat_open (hS.u2)
  simp only [VatS.own] at hS
  replace hS := hS.u4.u2
  replace hS := hS.jn1
  obtain ⟨_, hw1, hs1, ht1, hr1, _⟩ := sackP_open (hS.u2)
  have hl1 := len_expand hw1
  obtain ⟨_, hw2, hs2, ht2, hr2, _⟩ := sackP_open (hS.u3)
  have hl2 := len_expand hw2
  refine enterF (args := [_]) Tryd.func18 rfl Tryd.ntmps18 rfl rfl ?_
  refine F_seq ?_
  refine F_region (p := ⟨_, [2], []⟩) rfl [0] rfl ?_
  refine O_allocS hS rfl rfl rfl rfl Tryd.zeroValue52 (fun _ _ hv => trivial) ?_
  intro b1 w hS
  refine R_nil ?_
  refine tn ?_
  refine F_seq ?_
  refine F_drawnS hS (by kernel_rfl) (p := ⟨_, [0, 0, 0, 1, 0, 0, 0, 1, 0, 0, 0, 0, 1, 0, 0, 0, 0, 1, 0, 0, 0, 0, 1, 0, 0, 0, 0, 1, 0, 0, 0, 0, 1, 0, 0, 0, 0, 1, 0, 0, 0, 1, 2, 2, 0, 0, 0, 1, 2, 2, 0, 2], [(3, 42), (7, 42), (12, 42), (17, 42), (22, 42), (27, 42), (32, 42), (37, 42), (3, 43), (7, 43), (12, 43), (17, 43), (22, 43), (27, 43), (32, 43), (37, 43), (42, 47), (43, 47), (3, 48), (7, 48), (12, 48), (17, 48), (22, 48), (27, 48), (32, 48), (37, 48), (3, 49), (7, 49), (12, 49), (17, 49), (22, 49), (27, 49), (32, 49), (37, 49)]⟩) rfl (.ofList [0, 1, 2, 3, 4, 5, 6, 7, 8, 9, 10, 11, 12, 13, 14, 15, 16, 17, 18, 19, 20, 21, 22, 23, 24, 25, 26, 27, 28, 29, 30, 31, 32, 33, 34, 35, 36, 37, 38, 39, 40, 41, 42, 43, 44, 45, 46, 47, 48, 49, 50, 51]) (by kernel_rfl) ?_
  intro w hS
  refine O_move rfl rfl rfl rfl rfl ?_
  refine O_nilCheck rfl rfl rfl rfl rfl ?_
  refine O_fieldAddr rfl rfl rfl rfl rfl Tryd.runUnderlying74 rfl Tryd.sizeOf3 ?_
  refine O_loadS hS rfl rfl rfl rfl rfl Tryd.isAgg3 (by repeat (first | exact .here rfl | apply CellAt.there)) (by trivial) ?_
  refine O_move rfl rfl rfl rfl rfl ?_
  refine O_nilCheck rfl rfl rfl rfl rfl ?_
  refine O_fieldAddr rfl rfl rfl rfl rfl Tryd.runUnderlying74 rfl Tryd.sizeOf3 ?_
  refine O_loadS hS rfl rfl rfl rfl rfl Tryd.isAgg3 (by repeat (first | exact .here rfl | apply CellAt.there)) (by trivial) ?_
  refine O_move rfl rfl rfl rfl rfl ?_
  refine O_nilCheck rfl rfl rfl rfl rfl ?_
  refine O_fieldAddr rfl rfl rfl rfl rfl Tryd.runUnderlying74 rfl Tryd.sizeOf70 ?_
  refine O_fieldAddr rfl rfl rfl rfl rfl Tryd.runUnderlying70 rfl Tryd.sizeOf3 ?_
  refine O_loadS hS rfl rfl rfl rfl rfl Tryd.isAgg3 (by repeat (first | exact .here rfl | apply CellAt.there)) (by trivial) ?_
  refine O_move rfl rfl rfl rfl rfl ?_
  refine O_nilCheck rfl rfl rfl rfl rfl ?_
  refine O_fieldAddr rfl rfl rfl rfl rfl Tryd.runUnderlying74 rfl Tryd.sizeOf70 ?_
  refine O_fieldAddr rfl rfl rfl rfl rfl Tryd.runUnderlying70 rfl Tryd.sizeOf3 ?_
  refine O_loadS hS rfl rfl rfl rfl rfl Tryd.isAgg3 (by repeat (first | exact .here rfl | apply CellAt.there)) (by trivial) ?_
  refine O_move rfl rfl rfl rfl rfl ?_
  refine O_nilCheck rfl rfl rfl rfl rfl ?_
  refine O_fieldAddr rfl rfl rfl rfl rfl Tryd.runUnderlying74 rfl Tryd.sizeOf72 ?_
  refine O_fieldAddr rfl rfl rfl rfl rfl Tryd.runUnderlying72 rfl Tryd.sizeOf3 ?_
  refine O_loadS hS rfl rfl rfl rfl rfl Tryd.isAgg3 (by repeat (first | exact .here rfl | apply CellAt.there)) (by trivial) ?_
  refine O_move rfl rfl rfl rfl rfl ?_
  refine O_nilCheck rfl rfl rfl rfl rfl ?_
  refine O_fieldAddr rfl rfl rfl rfl rfl Tryd.runUnderlying74 rfl Tryd.sizeOf72 ?_
  refine O_fieldAddr rfl rfl rfl rfl rfl Tryd.runUnderlying72 rfl Tryd.sizeOf3 ?_
  refine O_loadS hS rfl rfl rfl rfl rfl Tryd.isAgg3 (by repeat (first | exact .here rfl | apply CellAt.there)) (by trivial) ?_
  refine O_move rfl rfl rfl rfl rfl ?_
  refine O_nilCheck rfl rfl rfl rfl rfl ?_
  refine O_fieldAddr rfl rfl rfl rfl rfl Tryd.runUnderlying74 rfl Tryd.sizeOf72 ?_
  refine O_fieldAddr rfl rfl rfl rfl rfl Tryd.runUnderlying72 rfl Tryd.sizeOf3 ?_
  refine O_loadS hS rfl rfl rfl rfl rfl Tryd.isAgg3 (by repeat (first | exact .here rfl | apply CellAt.there)) (by trivial) ?_
  refine O_move rfl rfl rfl rfl rfl ?_
  refine O_nilCheck rfl rfl rfl rfl rfl ?_
  refine O_fieldAddr rfl rfl rfl rfl rfl Tryd.runUnderlying74 rfl Tryd.sizeOf72 ?_
  refine O_fieldAddr rfl rfl rfl rfl rfl Tryd.runUnderlying72 rfl Tryd.sizeOf9 ?_
  refine O_loadS hS rfl rfl rfl rfl rfl Tryd.isAgg9 (by repeat (first | exact .here rfl | apply CellAt.there)) (by trivial) ?_
  refine O_move rfl rfl rfl rfl rfl ?_
  refine O_nilCheck rfl rfl rfl rfl rfl ?_
  refine O_fieldAddr rfl rfl rfl rfl rfl Tryd.runUnderlying74 rfl Tryd.sizeOf63 ?_
  refine O_loadS hS rfl rfl rfl rfl rfl Tryd.isAgg63 (by repeat (first | exact .here rfl | apply CellAt.there)) (by trivial) ?_
  have hS_42 := hS
  refine O_call rfl rfl rfl rfl Tryd.call43 rfl (sAll_ii ⟨_, rfl⟩ (hS)) (fun _ _ hv => by obtain ⟨bx, rfl, hS⟩ := hv; exact ⟨CellAt.cell (by repeat (first | exact .here rfl | apply CellAt.there)) (hS.u2), ⟨CellAt.cell (by repeat (first | exact .here rfl | apply CellAt.there)) (hS.u2), ⟨CellAt.cell (by repeat (first | exact .here rfl | apply CellAt.there)) (hS.u2), ⟨CellAt.cell (by repeat (first | exact .here rfl | apply CellAt.there)) (hS.u2), ⟨CellAt.cell (by repeat (first | exact .here rfl | apply CellAt.there)) (hS.u2), ⟨CellAt.cell (by repeat (first | exact .here rfl | apply CellAt.there)) (hS.u2), ⟨CellAt.cell (by repeat (first | exact .here rfl | apply CellAt.there)) (hS.u2), ⟨CellAt.cell (by repeat (first | exact .here rfl | apply CellAt.there)) (hS.u2), trivial⟩⟩⟩⟩⟩⟩⟩⟩) ?_
  rintro _ w ⟨bx, rfl, hS⟩
  replace hS := hS.u2
  replace hS := hS.u3.u3.g2
  replace hS := hS.u2
  have hS_43 := hS
  refine O_call rfl rfl rfl rfl Tryd.call42 rfl (collect_i Tryd.call68 (sall_ii_iter) (by omega) (hS.u2)) (fun _ _ hv => by have hS := hv; exact ⟨CellAt.cell (by repeat (first | exact .here rfl | apply CellAt.there)) (hS.u3), ⟨CellAt.cell (by repeat (first | exact .here rfl | apply CellAt.there)) (hS.u3), ⟨CellAt.cell (by repeat (first | exact .here rfl | apply CellAt.there)) (hS.u3), ⟨CellAt.cell (by repeat (first | exact .here rfl | apply CellAt.there)) (hS.u3), ⟨CellAt.cell (by repeat (first | exact .here rfl | apply CellAt.there)) (hS.u3), ⟨CellAt.cell (by repeat (first | exact .here rfl | apply CellAt.there)) (hS.u3), ⟨CellAt.cell (by repeat (first | exact .here rfl | apply CellAt.there)) (hS.u3), ⟨CellAt.cell (by repeat (first | exact .here rfl | apply CellAt.there)) (hS.u3), trivial⟩⟩⟩⟩⟩⟩⟩⟩) ?_
  rintro _ w hS
  obtain ⟨a1, c1, rfl, hle1, hcm1, _⟩ := sl_form hS.u2
  replace hS := hS.u3
  replace hS := hS.u2.n2
  replace hS := (hS).drop
  replace hS := hS.u2
  refine O_move rfl rfl rfl rfl rfl ?_
  refine O_nilCheck rfl rfl rfl rfl rfl ?_
  refine O_fieldAddr rfl rfl rfl rfl rfl Tryd.runUnderlying74 rfl Tryd.sizeOf66 ?_
  refine O_loadS hS rfl rfl rfl rfl rfl Tryd.isAgg66 (by repeat (first | exact .here rfl | apply CellAt.there)) (by exact ⟨CellAt.cell (by repeat (first | exact .here rfl | apply CellAt.there)) (hS_43), ⟨CellAt.cell (by repeat (first | exact .here rfl | apply CellAt.there)) (hS_42), trivial⟩⟩) ?_
  have hS_48 := hS
  refine O_call rfl rfl rfl rfl Tryd.call45 rfl (sAll_si ⟨_, rfl⟩ (hS)) (fun _ _ hv => by obtain ⟨by_, rfl, hS⟩ := hv; exact ⟨trivial, ⟨CellAt.cell (by repeat (first | exact .here rfl | apply CellAt.there)) (hS.u2), ⟨CellAt.cell (by repeat (first | exact .here rfl | apply CellAt.there)) (hS.u2), ⟨CellAt.cell (by repeat (first | exact .here rfl | apply CellAt.there)) (hS.u2), ⟨CellAt.cell (by repeat (first | exact .here rfl | apply CellAt.there)) (hS.u2), ⟨CellAt.cell (by repeat (first | exact .here rfl | apply CellAt.there)) (hS.u2), ⟨CellAt.cell (by repeat (first | exact .here rfl | apply CellAt.there)) (hS.u2), ⟨CellAt.cell (by repeat (first | exact .here rfl | apply CellAt.there)) (hS.u2), ⟨CellAt.cell (by repeat (first | exact .here rfl | apply CellAt.there)) (hS.u2), trivial⟩⟩⟩⟩⟩⟩⟩⟩⟩) ?_
  rintro _ w ⟨by_, rfl, hS⟩
  replace hS := hS.u2
  replace hS := hS.u5.u3.g2
  replace hS := hS.u2
  have hS_49 := hS
  refine O_call rfl rfl rfl rfl Tryd.call44 rfl (collect_s Tryd.call70 (sall_si_iter) (by omega) (hS.u2)) (fun _ _ hv => by have hS := hv; exact ⟨trivial, ⟨CellAt.cell (by repeat (first | exact .here rfl | apply CellAt.there)) (hS.u3), ⟨CellAt.cell (by repeat (first | exact .here rfl | apply CellAt.there)) (hS.u3), ⟨CellAt.cell (by repeat (first | exact .here rfl | apply CellAt.there)) (hS.u3), ⟨CellAt.cell (by repeat (first | exact .here rfl | apply CellAt.there)) (hS.u3), ⟨CellAt.cell (by repeat (first | exact .here rfl | apply CellAt.there)) (hS.u3), ⟨CellAt.cell (by repeat (first | exact .here rfl | apply CellAt.there)) (hS.u3), ⟨CellAt.cell (by repeat (first | exact .here rfl | apply CellAt.there)) (hS.u3), ⟨CellAt.cell (by repeat (first | exact .here rfl | apply CellAt.there)) (hS.u3), trivial⟩⟩⟩⟩⟩⟩⟩⟩⟩) ?_
  rintro _ w hS
  obtain ⟨a2, c2, rfl, hle2, hcm2, _⟩ := sl_form hS.u2
  replace hS := hS.u3
  replace hS := hS.u2.n2
  replace hS := (hS).drop
  replace hS := hS.u2
  refine O_build rfl rfl rfl rfl rfl (run_buildS [_, _, _, _, _, _, _, _, _, _] Tryd.zeroValue52 Tryd.runUnderlying52 (fun _ => 1) ⟨Tryd.sizeOf3, Tryd.sizeOf3, Tryd.sizeOf3, Tryd.sizeOf3, Tryd.sizeOf3, Tryd.sizeOf3, Tryd.sizeOf3, Tryd.sizeOf9, Tryd.sizeOf43, Tryd.sizeOf44, trivial⟩ rfl) ?_
  refine O_storeAgg (cs := [_, _, _, _, _, _, _, _, _, _]) hS rfl rfl rfl rfl rfl rfl Tryd.sizeOf52 rfl (Nat.le_of_ble_eq_true rfl) (by simp [one]) (fun _ hv => ⟨trivial, ⟨trivial, ⟨trivial, ⟨trivial, ⟨trivial, ⟨trivial, ⟨trivial, ⟨trivial, ⟨trivial, trivial⟩⟩⟩⟩⟩⟩⟩⟩⟩) ?_
  intro w hS
  dsimp only [setsL, List.set_cons_zero, List.set_cons_succ, Value.cells] at hS
  refine R_nil ?_
  refine tn ?_
  refine F_ret ?_
  show endF _ _ _ _ _ _
  refine end_in (vs := [.agg #[.int .i64 v.kind, .int .i64 v.many, .int .i64 (v.sum / 1000000000000), .int .i64 (v.sum % 1000000000000), .int .i64 v.lv, .int .i64 v.lt, .int .i64 v.lq, .string v.src, .slice a1 (expand v.es).length c1, .slice a2 (expand v.ms).length c2]]) trivial rfl (hS.to (hemp_star _).symm) ?_
  intro w hS
  refine ⟨⟨_, rfl, loadVar_agg [_, _, _, _, _, _, _, _, _, _] Tryd.isAgg52 Tryd.sizeOf52 rfl (CellsAt.rd ⟨(by repeat (first | exact .here rfl | apply CellAt.there)), (by repeat (first | exact .here rfl | apply CellAt.there)), (by repeat (first | exact .here rfl | apply CellAt.there)), (by repeat (first | exact .here rfl | apply CellAt.there)), (by repeat (first | exact .here rfl | apply CellAt.there)), (by repeat (first | exact .here rfl | apply CellAt.there)), (by repeat (first | exact .here rfl | apply CellAt.there)), (by repeat (first | exact .here rfl | apply CellAt.there)), (by repeat (first | exact .here rfl | apply CellAt.there)), (by repeat (first | exact .here rfl | apply CellAt.there)), trivial⟩ hS), trivial⟩, a1, c1, a2, c2, rfl, ?_⟩
  replace hS := hS.sp1.drop
  replace hS := hS.sp1
  replace hS := hS.u3.u5.u3
  replace hS := vat_mk (v := v) (sb := sb) (mb := mb) (by rfl) hS
  replace hS := (hS.u2).drop
  replace hS := hS.u2.u3
  exact hS
theorem rSame {w0 w : World} {R A : HProp} {s t : St} {a1 a2 a3 a4 : Option Addr} {c1 c2 c3 c4 : Nat} (h1 : Rds A a1 (s.samples.map eI)) (h2 : Rds A a2 (s.members.map eS)) (h3 : Rds A a3 (t.samples.map eI)) (h4 : Rds A a4 (t.members.map eS)) (hb1 : s.samples.length ≤ 1000000) (hb2 : s.members.length ≤ 1000000) (hS : Sat w0 (A * R) w) :
    Calls Tryd.prog 17 #[.agg #[.int .i64 s.kind, .int .i64 s.many, .int .i64 s.high, .int .i64 s.low, .int .i64 s.last, .int .i64 s.time, .int .i64 s.seq, .string s.source, .slice a1 s.samples.length c1, .slice a2 s.members.length c2], .agg #[.int .i64 t.kind, .int .i64 t.many, .int .i64 t.high, .int .i64 t.low, .int .i64 t.last, .int .i64 t.time, .int .i64 t.seq, .string t.source, .slice a3 t.samples.length c3, .slice a4 t.members.length c4]] w (ret fun u w' => u = .bool (decide (s = t)) ∧ Sat w0 (A * R) w') := by
  replace hS := hS.noblks
  refine enterF (args := [_, _]) Tryd.func17 rfl Tryd.ntmps17 rfl rfl ?_
  refine F_seq ?_
  refine F_region (p := ⟨_, [2, 2, 0], []⟩) rfl [0, 1, 2] rfl ?_
  refine O_boxS hS rfl rfl rfl rfl rfl (fun _ _ hv => trivial) ?_
  intro b1 w hS
  refine O_boxS hS rfl rfl rfl rfl rfl (fun _ _ hv => trivial) ?_
  intro b2 w hS
  refine O_assign rfl rfl rfl rfl rfl ?_
  refine R_nil ?_
  refine tn ?_
  refine F_seq ?_
  refine F_seq ?_
  refine F_region (p := ⟨_, [0, 1, 0, 1, 0, 0, 0, 1, 0, 1, 0, 0, 0, 0, 1, 0, 1, 0, 0, 0, 0, 1, 0, 1, 0, 0, 0, 0, 1, 0, 1, 0, 0, 0, 0, 1, 0, 1, 0, 0, 0, 0, 1, 0, 1, 0, 0, 0, 0, 1, 0, 1, 0, 0, 0, 0, 1, 0, 0, 1, 0, 0, 0, 0, 0, 1, 0, 0, 1, 0, 0, 0], []⟩) rfl [0, 1, 2, 3, 4, 5, 6, 7, 8, 9, 10, 11, 12, 13, 14, 15, 16, 17, 18, 19, 20, 21, 22, 23, 24, 25, 26, 27, 28, 29, 30, 31, 32, 33, 34, 35, 36, 37, 38, 39, 40, 41, 42, 43, 44, 45, 46, 47, 48, 49, 50, 51, 52, 53, 54, 55, 56, 57, 58, 59, 60, 61, 62, 63, 64, 65, 66, 67, 68, 69, 70, 71] rfl ?_
  refine O_fieldAddr rfl rfl rfl rfl rfl Tryd.runUnderlying46 rfl Tryd.sizeOf3 ?_
  refine O_loadS hS rfl rfl rfl rfl rfl Tryd.isAgg3 (by repeat (first | exact .here rfl | apply CellAt.there)) (by trivial) ?_
  refine O_fieldAddr rfl rfl rfl rfl rfl Tryd.runUnderlying46 rfl Tryd.sizeOf3 ?_
  refine O_loadS hS rfl rfl rfl rfl rfl Tryd.isAgg3 (by repeat (first | exact .here rfl | apply CellAt.there)) (by trivial) ?_
  refine O_cmp rfl rfl rfl rfl rfl rfl rfl ?_
  refine O_move rfl rfl rfl rfl rfl ?_
  refine R_case (t := 12) rfl (fun ht12 => ?_) (fun ht12 => ?_)
  · try simp only [decide_eq_true_eq, decide_eq_false_iff_not, Bool.not_eq_true', Bool.not_eq_false', Bool.not_true, Bool.not_false, Option.isNone_iff_eq_none, Bool.false_eq_true, Bool.true_eq_false] at ht12
    refine R_skip rfl rfl rfl rfl ?_
    refine R_skip rfl rfl rfl rfl ?_
    refine R_skip rfl rfl rfl rfl ?_
    refine R_skip rfl rfl rfl rfl ?_
    refine R_skip rfl rfl rfl rfl ?_
    refine O_pickT rfl rfl rfl rfl rfl rfl ?_
    refine O_move rfl rfl rfl rfl rfl ?_
    refine R_skip rfl rfl rfl rfl ?_
    refine R_skip rfl rfl rfl rfl ?_
    refine R_skip rfl rfl rfl rfl ?_
    refine R_skip rfl rfl rfl rfl ?_
    refine R_skip rfl rfl rfl rfl ?_
    refine O_pickT rfl rfl rfl rfl rfl rfl ?_
    refine O_move rfl rfl rfl rfl rfl ?_
    refine R_skip rfl rfl rfl rfl ?_
    refine R_skip rfl rfl rfl rfl ?_
    refine R_skip rfl rfl rfl rfl ?_
    refine R_skip rfl rfl rfl rfl ?_
    refine R_skip rfl rfl rfl rfl ?_
    refine O_pickT rfl rfl rfl rfl rfl rfl ?_
    refine O_move rfl rfl rfl rfl rfl ?_
    refine R_skip rfl rfl rfl rfl ?_
    refine R_skip rfl rfl rfl rfl ?_
    refine R_skip rfl rfl rfl rfl ?_
    refine R_skip rfl rfl rfl rfl ?_
    refine R_skip rfl rfl rfl rfl ?_
    refine O_pickT rfl rfl rfl rfl rfl rfl ?_
    refine O_move rfl rfl rfl rfl rfl ?_
    refine R_skip rfl rfl rfl rfl ?_
    refine R_skip rfl rfl rfl rfl ?_
    refine R_skip rfl rfl rfl rfl ?_
    refine R_skip rfl rfl rfl rfl ?_
    refine R_skip rfl rfl rfl rfl ?_
    refine O_pickT rfl rfl rfl rfl rfl rfl ?_
    refine O_move rfl rfl rfl rfl rfl ?_
    refine R_skip rfl rfl rfl rfl ?_
    refine R_skip rfl rfl rfl rfl ?_
    refine R_skip rfl rfl rfl rfl ?_
    refine R_skip rfl rfl rfl rfl ?_
    refine R_skip rfl rfl rfl rfl ?_
    refine O_pickT rfl rfl rfl rfl rfl rfl ?_
    refine O_move rfl rfl rfl rfl rfl ?_
    refine R_skip rfl rfl rfl rfl ?_
    refine R_skip rfl rfl rfl rfl ?_
    refine R_skip rfl rfl rfl rfl ?_
    refine R_skip rfl rfl rfl rfl ?_
    refine R_skip rfl rfl rfl rfl ?_
    refine O_pickT rfl rfl rfl rfl rfl rfl ?_
    refine O_move rfl rfl rfl rfl rfl ?_
    refine R_skip rfl rfl rfl rfl ?_
    refine R_skip rfl rfl rfl rfl ?_
    refine R_skip rfl rfl rfl rfl ?_
    refine R_skip rfl rfl rfl rfl ?_
    refine R_skip rfl rfl rfl rfl ?_
    refine R_skip rfl rfl rfl rfl ?_
    refine R_skip rfl rfl rfl rfl ?_
    refine O_pickT rfl rfl rfl rfl rfl rfl ?_
    refine O_move rfl rfl rfl rfl rfl ?_
    refine R_skip rfl rfl rfl rfl ?_
    refine R_skip rfl rfl rfl rfl ?_
    refine R_skip rfl rfl rfl rfl ?_
    refine R_skip rfl rfl rfl rfl ?_
    refine R_skip rfl rfl rfl rfl ?_
    refine R_skip rfl rfl rfl rfl ?_
    refine R_skip rfl rfl rfl rfl ?_
    refine O_pickT rfl rfl rfl rfl rfl rfl ?_
    refine R_nil ?_
    refine tn ?_
    refine F_true rfl rfl ?_
    refine F_seq ?_
    refine F_region (p := ⟨_, [0], []⟩) rfl [0] rfl ?_
    refine O_assign rfl rfl rfl rfl rfl ?_
    refine R_nil ?_
    refine tn ?_
    refine F_ret ?_
    refine tr ?_
    show endF _ _ _ _ _ _
    refine end0 trivial rfl rfl rfl hS ?_
    intro w hS
    replace hS := (hS).drop
    exact ⟨by rw [decide_eq_false (fun e => by subst e; first | contradiction | omega | simp_all)]; rfl, hS⟩
  · try simp only [decide_eq_true_eq, decide_eq_false_iff_not, Bool.not_eq_true', Bool.not_eq_false', Bool.not_true, Bool.not_false, Option.isNone_iff_eq_none, Bool.false_eq_true, Bool.true_eq_false] at ht12
    refine O_fieldAddr rfl rfl rfl rfl rfl Tryd.runUnderlying46 rfl Tryd.sizeOf3 ?_
    refine O_loadS hS rfl rfl rfl rfl rfl Tryd.isAgg3 (by repeat (first | exact .here rfl | apply CellAt.there)) (by trivial) ?_
    refine O_fieldAddr rfl rfl rfl rfl rfl Tryd.runUnderlying46 rfl Tryd.sizeOf3 ?_
    refine O_loadS hS rfl rfl rfl rfl rfl Tryd.isAgg3 (by repeat (first | exact .here rfl | apply CellAt.there)) (by trivial) ?_
    refine O_cmp rfl rfl rfl rfl rfl rfl rfl ?_
    refine O_pickF rfl rfl rfl rfl rfl rfl ?_
    refine O_move rfl rfl rfl rfl rfl ?_
    refine R_case (t := 19) rfl (fun ht19 => ?_) (fun ht19 => ?_)
    · try simp only [decide_eq_true_eq, decide_eq_false_iff_not, Bool.not_eq_true', Bool.not_eq_false', Bool.not_true, Bool.not_false, Option.isNone_iff_eq_none, Bool.false_eq_true, Bool.true_eq_false] at ht19
      refine R_skip rfl rfl rfl rfl ?_
      refine R_skip rfl rfl rfl rfl ?_
      refine R_skip rfl rfl rfl rfl ?_
      refine R_skip rfl rfl rfl rfl ?_
      refine R_skip rfl rfl rfl rfl ?_
      refine O_pickT rfl rfl rfl rfl rfl rfl ?_
      refine O_move rfl rfl rfl rfl rfl ?_
      refine R_skip rfl rfl rfl rfl ?_
      refine R_skip rfl rfl rfl rfl ?_
      refine R_skip rfl rfl rfl rfl ?_
      refine R_skip rfl rfl rfl rfl ?_
      refine R_skip rfl rfl rfl rfl ?_
      refine O_pickT rfl rfl rfl rfl rfl rfl ?_
      refine O_move rfl rfl rfl rfl rfl ?_
      refine R_skip rfl rfl rfl rfl ?_
      refine R_skip rfl rfl rfl rfl ?_
      refine R_skip rfl rfl rfl rfl ?_
      refine R_skip rfl rfl rfl rfl ?_
      refine R_skip rfl rfl rfl rfl ?_
      refine O_pickT rfl rfl rfl rfl rfl rfl ?_
      refine O_move rfl rfl rfl rfl rfl ?_
      refine R_skip rfl rfl rfl rfl ?_
      refine R_skip rfl rfl rfl rfl ?_
      refine R_skip rfl rfl rfl rfl ?_
      refine R_skip rfl rfl rfl rfl ?_
      refine R_skip rfl rfl rfl rfl ?_
      refine O_pickT rfl rfl rfl rfl rfl rfl ?_
      refine O_move rfl rfl rfl rfl rfl ?_
      refine R_skip rfl rfl rfl rfl ?_
      refine R_skip rfl rfl rfl rfl ?_
      refine R_skip rfl rfl rfl rfl ?_
      refine R_skip rfl rfl rfl rfl ?_
      refine R_skip rfl rfl rfl rfl ?_
      refine O_pickT rfl rfl rfl rfl rfl rfl ?_
      refine O_move rfl rfl rfl rfl rfl ?_
      refine R_skip rfl rfl rfl rfl ?_
      refine R_skip rfl rfl rfl rfl ?_
      refine R_skip rfl rfl rfl rfl ?_
      refine R_skip rfl rfl rfl rfl ?_
      refine R_skip rfl rfl rfl rfl ?_
      refine O_pickT rfl rfl rfl rfl rfl rfl ?_
      refine O_move rfl rfl rfl rfl rfl ?_
      refine R_skip rfl rfl rfl rfl ?_
      refine R_skip rfl rfl rfl rfl ?_
      refine R_skip rfl rfl rfl rfl ?_
      refine R_skip rfl rfl rfl rfl ?_
      refine R_skip rfl rfl rfl rfl ?_
      refine R_skip rfl rfl rfl rfl ?_
      refine R_skip rfl rfl rfl rfl ?_
      refine O_pickT rfl rfl rfl rfl rfl rfl ?_
      refine O_move rfl rfl rfl rfl rfl ?_
      refine R_skip rfl rfl rfl rfl ?_
      refine R_skip rfl rfl rfl rfl ?_
      refine R_skip rfl rfl rfl rfl ?_
      refine R_skip rfl rfl rfl rfl ?_
      refine R_skip rfl rfl rfl rfl ?_
      refine R_skip rfl rfl rfl rfl ?_
      refine R_skip rfl rfl rfl rfl ?_
      refine O_pickT rfl rfl rfl rfl rfl rfl ?_
      refine R_nil ?_
      refine tn ?_
      refine F_true rfl rfl ?_
      refine F_seq ?_
      refine F_region (p := ⟨_, [0], []⟩) rfl [0] rfl ?_
      refine O_assign rfl rfl rfl rfl rfl ?_
      refine R_nil ?_
      refine tn ?_
      refine F_ret ?_
      refine tr ?_
      show endF _ _ _ _ _ _
      refine end0 trivial rfl rfl rfl hS ?_
      intro w hS
      replace hS := (hS).drop
      exact ⟨by rw [decide_eq_false (fun e => by subst e; first | contradiction | omega | simp_all)]; rfl, hS⟩
    · try simp only [decide_eq_true_eq, decide_eq_false_iff_not, Bool.not_eq_true', Bool.not_eq_false', Bool.not_true, Bool.not_false, Option.isNone_iff_eq_none, Bool.false_eq_true, Bool.true_eq_false] at ht19
      refine O_fieldAddr rfl rfl rfl rfl rfl Tryd.runUnderlying46 rfl Tryd.sizeOf3 ?_
      refine O_loadS hS rfl rfl rfl rfl rfl Tryd.isAgg3 (by repeat (first | exact .here rfl | apply CellAt.there)) (by trivial) ?_
      refine O_fieldAddr rfl rfl rfl rfl rfl Tryd.runUnderlying46 rfl Tryd.sizeOf3 ?_
      refine O_loadS hS rfl rfl rfl rfl rfl Tryd.isAgg3 (by repeat (first | exact .here rfl | apply CellAt.there)) (by trivial) ?_
      refine O_cmp rfl rfl rfl rfl rfl rfl rfl ?_
      refine O_pickF rfl rfl rfl rfl rfl rfl ?_
      refine O_move rfl rfl rfl rfl rfl ?_
      refine R_case (t := 26) rfl (fun ht26 => ?_) (fun ht26 => ?_)
      · try simp only [decide_eq_true_eq, decide_eq_false_iff_not, Bool.not_eq_true', Bool.not_eq_false', Bool.not_true, Bool.not_false, Option.isNone_iff_eq_none, Bool.false_eq_true, Bool.true_eq_false] at ht26
        refine R_skip rfl rfl rfl rfl ?_
        refine R_skip rfl rfl rfl rfl ?_
        refine R_skip rfl rfl rfl rfl ?_
        refine R_skip rfl rfl rfl rfl ?_
        refine R_skip rfl rfl rfl rfl ?_
        refine O_pickT rfl rfl rfl rfl rfl rfl ?_
        refine O_move rfl rfl rfl rfl rfl ?_
        refine R_skip rfl rfl rfl rfl ?_
        refine R_skip rfl rfl rfl rfl ?_
        refine R_skip rfl rfl rfl rfl ?_
        refine R_skip rfl rfl rfl rfl ?_
        refine R_skip rfl rfl rfl rfl ?_
        refine O_pickT rfl rfl rfl rfl rfl rfl ?_
        refine O_move rfl rfl rfl rfl rfl ?_
        refine R_skip rfl rfl rfl rfl ?_
        refine R_skip rfl rfl rfl rfl ?_
        refine R_skip rfl rfl rfl rfl ?_
        refine R_skip rfl rfl rfl rfl ?_
        refine R_skip rfl rfl rfl rfl ?_
        refine O_pickT rfl rfl rfl rfl rfl rfl ?_
        refine O_move rfl rfl rfl rfl rfl ?_
        refine R_skip rfl rfl rfl rfl ?_
        refine R_skip rfl rfl rfl rfl ?_
        refine R_skip rfl rfl rfl rfl ?_
        refine R_skip rfl rfl rfl rfl ?_
        refine R_skip rfl rfl rfl rfl ?_
        refine O_pickT rfl rfl rfl rfl rfl rfl ?_
        refine O_move rfl rfl rfl rfl rfl ?_
        refine R_skip rfl rfl rfl rfl ?_
        refine R_skip rfl rfl rfl rfl ?_
        refine R_skip rfl rfl rfl rfl ?_
        refine R_skip rfl rfl rfl rfl ?_
        refine R_skip rfl rfl rfl rfl ?_
        refine O_pickT rfl rfl rfl rfl rfl rfl ?_
        refine O_move rfl rfl rfl rfl rfl ?_
        refine R_skip rfl rfl rfl rfl ?_
        refine R_skip rfl rfl rfl rfl ?_
        refine R_skip rfl rfl rfl rfl ?_
        refine R_skip rfl rfl rfl rfl ?_
        refine R_skip rfl rfl rfl rfl ?_
        refine R_skip rfl rfl rfl rfl ?_
        refine R_skip rfl rfl rfl rfl ?_
        refine O_pickT rfl rfl rfl rfl rfl rfl ?_
        refine O_move rfl rfl rfl rfl rfl ?_
        refine R_skip rfl rfl rfl rfl ?_
        refine R_skip rfl rfl rfl rfl ?_
        refine R_skip rfl rfl rfl rfl ?_
        refine R_skip rfl rfl rfl rfl ?_
        refine R_skip rfl rfl rfl rfl ?_
        refine R_skip rfl rfl rfl rfl ?_
        refine R_skip rfl rfl rfl rfl ?_
        refine O_pickT rfl rfl rfl rfl rfl rfl ?_
        refine R_nil ?_
        refine tn ?_
        refine F_true rfl rfl ?_
        refine F_seq ?_
        refine F_region (p := ⟨_, [0], []⟩) rfl [0] rfl ?_
        refine O_assign rfl rfl rfl rfl rfl ?_
        refine R_nil ?_
        refine tn ?_
        refine F_ret ?_
        refine tr ?_
        show endF _ _ _ _ _ _
        refine end0 trivial rfl rfl rfl hS ?_
        intro w hS
        replace hS := (hS).drop
        exact ⟨by rw [decide_eq_false (fun e => by subst e; first | contradiction | omega | simp_all)]; rfl, hS⟩
      · try simp only [decide_eq_true_eq, decide_eq_false_iff_not, Bool.not_eq_true', Bool.not_eq_false', Bool.not_true, Bool.not_false, Option.isNone_iff_eq_none, Bool.false_eq_true, Bool.true_eq_false] at ht26
        refine O_fieldAddr rfl rfl rfl rfl rfl Tryd.runUnderlying46 rfl Tryd.sizeOf3 ?_
        refine O_loadS hS rfl rfl rfl rfl rfl Tryd.isAgg3 (by repeat (first | exact .here rfl | apply CellAt.there)) (by trivial) ?_
        refine O_fieldAddr rfl rfl rfl rfl rfl Tryd.runUnderlying46 rfl Tryd.sizeOf3 ?_
        refine O_loadS hS rfl rfl rfl rfl rfl Tryd.isAgg3 (by repeat (first | exact .here rfl | apply CellAt.there)) (by trivial) ?_
        refine O_cmp rfl rfl rfl rfl rfl rfl rfl ?_
        refine O_pickF rfl rfl rfl rfl rfl rfl ?_
        refine O_move rfl rfl rfl rfl rfl ?_
        refine R_case (t := 33) rfl (fun ht33 => ?_) (fun ht33 => ?_)
        · try simp only [decide_eq_true_eq, decide_eq_false_iff_not, Bool.not_eq_true', Bool.not_eq_false', Bool.not_true, Bool.not_false, Option.isNone_iff_eq_none, Bool.false_eq_true, Bool.true_eq_false] at ht33
          refine R_skip rfl rfl rfl rfl ?_
          refine R_skip rfl rfl rfl rfl ?_
          refine R_skip rfl rfl rfl rfl ?_
          refine R_skip rfl rfl rfl rfl ?_
          refine R_skip rfl rfl rfl rfl ?_
          refine O_pickT rfl rfl rfl rfl rfl rfl ?_
          refine O_move rfl rfl rfl rfl rfl ?_
          refine R_skip rfl rfl rfl rfl ?_
          refine R_skip rfl rfl rfl rfl ?_
          refine R_skip rfl rfl rfl rfl ?_
          refine R_skip rfl rfl rfl rfl ?_
          refine R_skip rfl rfl rfl rfl ?_
          refine O_pickT rfl rfl rfl rfl rfl rfl ?_
          refine O_move rfl rfl rfl rfl rfl ?_
          refine R_skip rfl rfl rfl rfl ?_
          refine R_skip rfl rfl rfl rfl ?_
          refine R_skip rfl rfl rfl rfl ?_
          refine R_skip rfl rfl rfl rfl ?_
          refine R_skip rfl rfl rfl rfl ?_
          refine O_pickT rfl rfl rfl rfl rfl rfl ?_
          refine O_move rfl rfl rfl rfl rfl ?_
          refine R_skip rfl rfl rfl rfl ?_
          refine R_skip rfl rfl rfl rfl ?_
          refine R_skip rfl rfl rfl rfl ?_
          refine R_skip rfl rfl rfl rfl ?_
          refine R_skip rfl rfl rfl rfl ?_
          refine O_pickT rfl rfl rfl rfl rfl rfl ?_
          refine O_move rfl rfl rfl rfl rfl ?_
          refine R_skip rfl rfl rfl rfl ?_
          refine R_skip rfl rfl rfl rfl ?_
          refine R_skip rfl rfl rfl rfl ?_
          refine R_skip rfl rfl rfl rfl ?_
          refine R_skip rfl rfl rfl rfl ?_
          refine R_skip rfl rfl rfl rfl ?_
          refine R_skip rfl rfl rfl rfl ?_
          refine O_pickT rfl rfl rfl rfl rfl rfl ?_
          refine O_move rfl rfl rfl rfl rfl ?_
          refine R_skip rfl rfl rfl rfl ?_
          refine R_skip rfl rfl rfl rfl ?_
          refine R_skip rfl rfl rfl rfl ?_
          refine R_skip rfl rfl rfl rfl ?_
          refine R_skip rfl rfl rfl rfl ?_
          refine R_skip rfl rfl rfl rfl ?_
          refine R_skip rfl rfl rfl rfl ?_
          refine O_pickT rfl rfl rfl rfl rfl rfl ?_
          refine R_nil ?_
          refine tn ?_
          refine F_true rfl rfl ?_
          refine F_seq ?_
          refine F_region (p := ⟨_, [0], []⟩) rfl [0] rfl ?_
          refine O_assign rfl rfl rfl rfl rfl ?_
          refine R_nil ?_
          refine tn ?_
          refine F_ret ?_
          refine tr ?_
          show endF _ _ _ _ _ _
          refine end0 trivial rfl rfl rfl hS ?_
          intro w hS
          replace hS := (hS).drop
          exact ⟨by rw [decide_eq_false (fun e => by subst e; first | contradiction | omega | simp_all)]; rfl, hS⟩
        · try simp only [decide_eq_true_eq, decide_eq_false_iff_not, Bool.not_eq_true', Bool.not_eq_false', Bool.not_true, Bool.not_false, Option.isNone_iff_eq_none, Bool.false_eq_true, Bool.true_eq_false] at ht33
          refine O_fieldAddr rfl rfl rfl rfl rfl Tryd.runUnderlying46 rfl Tryd.sizeOf3 ?_
          refine O_loadS hS rfl rfl rfl rfl rfl Tryd.isAgg3 (by repeat (first | exact .here rfl | apply CellAt.there)) (by trivial) ?_
          refine O_fieldAddr rfl rfl rfl rfl rfl Tryd.runUnderlying46 rfl Tryd.sizeOf3 ?_
          refine O_loadS hS rfl rfl rfl rfl rfl Tryd.isAgg3 (by repeat (first | exact .here rfl | apply CellAt.there)) (by trivial) ?_
          refine O_cmp rfl rfl rfl rfl rfl rfl rfl ?_
          refine O_pickF rfl rfl rfl rfl rfl rfl ?_
          refine O_move rfl rfl rfl rfl rfl ?_
          refine R_case (t := 40) rfl (fun ht40 => ?_) (fun ht40 => ?_)
          · try simp only [decide_eq_true_eq, decide_eq_false_iff_not, Bool.not_eq_true', Bool.not_eq_false', Bool.not_true, Bool.not_false, Option.isNone_iff_eq_none, Bool.false_eq_true, Bool.true_eq_false] at ht40
            refine R_skip rfl rfl rfl rfl ?_
            refine R_skip rfl rfl rfl rfl ?_
            refine R_skip rfl rfl rfl rfl ?_
            refine R_skip rfl rfl rfl rfl ?_
            refine R_skip rfl rfl rfl rfl ?_
            refine O_pickT rfl rfl rfl rfl rfl rfl ?_
            refine O_move rfl rfl rfl rfl rfl ?_
            refine R_skip rfl rfl rfl rfl ?_
            refine R_skip rfl rfl rfl rfl ?_
            refine R_skip rfl rfl rfl rfl ?_
            refine R_skip rfl rfl rfl rfl ?_
            refine R_skip rfl rfl rfl rfl ?_
            refine O_pickT rfl rfl rfl rfl rfl rfl ?_
            refine O_move rfl rfl rfl rfl rfl ?_
            refine R_skip rfl rfl rfl rfl ?_
            refine R_skip rfl rfl rfl rfl ?_
            refine R_skip rfl rfl rfl rfl ?_
            refine R_skip rfl rfl rfl rfl ?_
            refine R_skip rfl rfl rfl rfl ?_
            refine O_pickT rfl rfl rfl rfl rfl rfl ?_
            refine O_move rfl rfl rfl rfl rfl ?_
            refine R_skip rfl rfl rfl rfl ?_
            refine R_skip rfl rfl rfl rfl ?_
            refine R_skip rfl rfl rfl rfl ?_
            refine R_skip rfl rfl rfl rfl ?_
            refine R_skip rfl rfl rfl rfl ?_
            refine R_skip rfl rfl rfl rfl ?_
            refine R_skip rfl rfl rfl rfl ?_
            refine O_pickT rfl rfl rfl rfl rfl rfl ?_
            refine O_move rfl rfl rfl rfl rfl ?_
            refine R_skip rfl rfl rfl rfl ?_
            refine R_skip rfl rfl rfl rfl ?_
            refine R_skip rfl rfl rfl rfl ?_
            refine R_skip rfl rfl rfl rfl ?_
            refine R_skip rfl rfl rfl rfl ?_
            refine R_skip rfl rfl rfl rfl ?_
            refine R_skip rfl rfl rfl rfl ?_
            refine O_pickT rfl rfl rfl rfl rfl rfl ?_
            refine R_nil ?_
            refine tn ?_
            refine F_true rfl rfl ?_
            refine F_seq ?_
            refine F_region (p := ⟨_, [0], []⟩) rfl [0] rfl ?_
            refine O_assign rfl rfl rfl rfl rfl ?_
            refine R_nil ?_
            refine tn ?_
            refine F_ret ?_
            refine tr ?_
            show endF _ _ _ _ _ _
            refine end0 trivial rfl rfl rfl hS ?_
            intro w hS
            replace hS := (hS).drop
            exact ⟨by rw [decide_eq_false (fun e => by subst e; first | contradiction | omega | simp_all)]; rfl, hS⟩
          · try simp only [decide_eq_true_eq, decide_eq_false_iff_not, Bool.not_eq_true', Bool.not_eq_false', Bool.not_true, Bool.not_false, Option.isNone_iff_eq_none, Bool.false_eq_true, Bool.true_eq_false] at ht40
            refine O_fieldAddr rfl rfl rfl rfl rfl Tryd.runUnderlying46 rfl Tryd.sizeOf3 ?_
            refine O_loadS hS rfl rfl rfl rfl rfl Tryd.isAgg3 (by repeat (first | exact .here rfl | apply CellAt.there)) (by trivial) ?_
            refine O_fieldAddr rfl rfl rfl rfl rfl Tryd.runUnderlying46 rfl Tryd.sizeOf3 ?_
            refine O_loadS hS rfl rfl rfl rfl rfl Tryd.isAgg3 (by repeat (first | exact .here rfl | apply CellAt.there)) (by trivial) ?_
            refine O_cmp rfl rfl rfl rfl rfl rfl rfl ?_
            refine O_pickF rfl rfl rfl rfl rfl rfl ?_
            refine O_move rfl rfl rfl rfl rfl ?_
            refine R_case (t := 47) rfl (fun ht47 => ?_) (fun ht47 => ?_)
            · try simp only [decide_eq_true_eq, decide_eq_false_iff_not, Bool.not_eq_true', Bool.not_eq_false', Bool.not_true, Bool.not_false, Option.isNone_iff_eq_none, Bool.false_eq_true, Bool.true_eq_false] at ht47
              refine R_skip rfl rfl rfl rfl ?_
              refine R_skip rfl rfl rfl rfl ?_
              refine R_skip rfl rfl rfl rfl ?_
              refine R_skip rfl rfl rfl rfl ?_
              refine R_skip rfl rfl rfl rfl ?_
              refine O_pickT rfl rfl rfl rfl rfl rfl ?_
              refine O_move rfl rfl rfl rfl rfl ?_
              refine R_skip rfl rfl rfl rfl ?_
              refine R_skip rfl rfl rfl rfl ?_
              refine R_skip rfl rfl rfl rfl ?_
              refine R_skip rfl rfl rfl rfl ?_
              refine R_skip rfl rfl rfl rfl ?_
              refine O_pickT rfl rfl rfl rfl rfl rfl ?_
              refine O_move rfl rfl rfl rfl rfl ?_
              refine R_skip rfl rfl rfl rfl ?_
              refine R_skip rfl rfl rfl rfl ?_
              refine R_skip rfl rfl rfl rfl ?_
              refine R_skip rfl rfl rfl rfl ?_
              refine R_skip rfl rfl rfl rfl ?_
              refine R_skip rfl rfl rfl rfl ?_
              refine R_skip rfl rfl rfl rfl ?_
              refine O_pickT rfl rfl rfl rfl rfl rfl ?_
              refine O_move rfl rfl rfl rfl rfl ?_
              refine R_skip rfl rfl rfl rfl ?_
              refine R_skip rfl rfl rfl rfl ?_
              refine R_skip rfl rfl rfl rfl ?_
              refine R_skip rfl rfl rfl rfl ?_
              refine R_skip rfl rfl rfl rfl ?_
              refine R_skip rfl rfl rfl rfl ?_
              refine R_skip rfl rfl rfl rfl ?_
              refine O_pickT rfl rfl rfl rfl rfl rfl ?_
              refine R_nil ?_
              refine tn ?_
              refine F_true rfl rfl ?_
              refine F_seq ?_
              refine F_region (p := ⟨_, [0], []⟩) rfl [0] rfl ?_
              refine O_assign rfl rfl rfl rfl rfl ?_
              refine R_nil ?_
              refine tn ?_
              refine F_ret ?_
              refine tr ?_
              show endF _ _ _ _ _ _
              refine end0 trivial rfl rfl rfl hS ?_
              intro w hS
              replace hS := (hS).drop
              exact ⟨by rw [decide_eq_false (fun e => by subst e; first | contradiction | omega | simp_all)]; rfl, hS⟩
            · try simp only [decide_eq_true_eq, decide_eq_false_iff_not, Bool.not_eq_true', Bool.not_eq_false', Bool.not_true, Bool.not_false, Option.isNone_iff_eq_none, Bool.false_eq_true, Bool.true_eq_false] at ht47
              refine O_fieldAddr rfl rfl rfl rfl rfl Tryd.runUnderlying46 rfl Tryd.sizeOf3 ?_
              refine O_loadS hS rfl rfl rfl rfl rfl Tryd.isAgg3 (by repeat (first | exact .here rfl | apply CellAt.there)) (by trivial) ?_
              refine O_fieldAddr rfl rfl rfl rfl rfl Tryd.runUnderlying46 rfl Tryd.sizeOf3 ?_
              refine O_loadS hS rfl rfl rfl rfl rfl Tryd.isAgg3 (by repeat (first | exact .here rfl | apply CellAt.there)) (by trivial) ?_
              refine O_cmp rfl rfl rfl rfl rfl rfl rfl ?_
              refine O_pickF rfl rfl rfl rfl rfl rfl ?_
              refine O_move rfl rfl rfl rfl rfl ?_
              refine R_case (t := 54) rfl (fun ht54 => ?_) (fun ht54 => ?_)
              · try simp only [decide_eq_true_eq, decide_eq_false_iff_not, Bool.not_eq_true', Bool.not_eq_false', Bool.not_true, Bool.not_false, Option.isNone_iff_eq_none, Bool.false_eq_true, Bool.true_eq_false] at ht54
                refine R_skip rfl rfl rfl rfl ?_
                refine R_skip rfl rfl rfl rfl ?_
                refine R_skip rfl rfl rfl rfl ?_
                refine R_skip rfl rfl rfl rfl ?_
                refine R_skip rfl rfl rfl rfl ?_
                refine O_pickT rfl rfl rfl rfl rfl rfl ?_
                refine O_move rfl rfl rfl rfl rfl ?_
                refine R_skip rfl rfl rfl rfl ?_
                refine R_skip rfl rfl rfl rfl ?_
                refine R_skip rfl rfl rfl rfl ?_
                refine R_skip rfl rfl rfl rfl ?_
                refine R_skip rfl rfl rfl rfl ?_
                refine R_skip rfl rfl rfl rfl ?_
                refine R_skip rfl rfl rfl rfl ?_
                refine O_pickT rfl rfl rfl rfl rfl rfl ?_
                refine O_move rfl rfl rfl rfl rfl ?_
                refine R_skip rfl rfl rfl rfl ?_
                refine R_skip rfl rfl rfl rfl ?_
                refine R_skip rfl rfl rfl rfl ?_
                refine R_skip rfl rfl rfl rfl ?_
                refine R_skip rfl rfl rfl rfl ?_
                refine R_skip rfl rfl rfl rfl ?_
                refine R_skip rfl rfl rfl rfl ?_
                refine O_pickT rfl rfl rfl rfl rfl rfl ?_
                refine R_nil ?_
                refine tn ?_
                refine F_true rfl rfl ?_
                refine F_seq ?_
                refine F_region (p := ⟨_, [0], []⟩) rfl [0] rfl ?_
                refine O_assign rfl rfl rfl rfl rfl ?_
                refine R_nil ?_
                refine tn ?_
                refine F_ret ?_
                refine tr ?_
                show endF _ _ _ _ _ _
                refine end0 trivial rfl rfl rfl hS ?_
                intro w hS
                replace hS := (hS).drop
                exact ⟨by rw [decide_eq_false (fun e => by subst e; first | contradiction | omega | simp_all)]; rfl, hS⟩
              · try simp only [decide_eq_true_eq, decide_eq_false_iff_not, Bool.not_eq_true', Bool.not_eq_false', Bool.not_true, Bool.not_false, Option.isNone_iff_eq_none, Bool.false_eq_true, Bool.true_eq_false] at ht54
                refine O_fieldAddr rfl rfl rfl rfl rfl Tryd.runUnderlying46 rfl Tryd.sizeOf9 ?_
                refine O_loadS hS rfl rfl rfl rfl rfl Tryd.isAgg9 (by repeat (first | exact .here rfl | apply CellAt.there)) (by trivial) ?_
                refine O_fieldAddr rfl rfl rfl rfl rfl Tryd.runUnderlying46 rfl Tryd.sizeOf9 ?_
                refine O_loadS hS rfl rfl rfl rfl rfl Tryd.isAgg9 (by repeat (first | exact .here rfl | apply CellAt.there)) (by trivial) ?_
                refine O_cmpStr rfl rfl rfl rfl rfl rfl rfl ?_
                refine O_pickF rfl rfl rfl rfl rfl rfl ?_
                refine O_move rfl rfl rfl rfl rfl ?_
                refine R_case (t := 61) rfl (fun ht61 => ?_) (fun ht61 => ?_)
                · try simp only [decide_eq_true_eq, decide_eq_false_iff_not, Bool.not_eq_true', Bool.not_eq_false', Bool.not_true, Bool.not_false, Option.isNone_iff_eq_none, Bool.false_eq_true, Bool.true_eq_false] at ht61
                  refine R_skip rfl rfl rfl rfl ?_
                  refine R_skip rfl rfl rfl rfl ?_
                  refine R_skip rfl rfl rfl rfl ?_
                  refine R_skip rfl rfl rfl rfl ?_
                  refine R_skip rfl rfl rfl rfl ?_
                  refine R_skip rfl rfl rfl rfl ?_
                  refine R_skip rfl rfl rfl rfl ?_
                  refine O_pickT rfl rfl rfl rfl rfl rfl ?_
                  refine O_move rfl rfl rfl rfl rfl ?_
                  refine R_skip rfl rfl rfl rfl ?_
                  refine R_skip rfl rfl rfl rfl ?_
                  refine R_skip rfl rfl rfl rfl ?_
                  refine R_skip rfl rfl rfl rfl ?_
                  refine R_skip rfl rfl rfl rfl ?_
                  refine R_skip rfl rfl rfl rfl ?_
                  refine R_skip rfl rfl rfl rfl ?_
                  refine O_pickT rfl rfl rfl rfl rfl rfl ?_
                  refine R_nil ?_
                  refine tn ?_
                  refine F_true rfl rfl ?_
                  refine F_seq ?_
                  refine F_region (p := ⟨_, [0], []⟩) rfl [0] rfl ?_
                  refine O_assign rfl rfl rfl rfl rfl ?_
                  refine R_nil ?_
                  refine tn ?_
                  refine F_ret ?_
                  refine tr ?_
                  show endF _ _ _ _ _ _
                  refine end0 trivial rfl rfl rfl hS ?_
                  intro w hS
                  replace hS := (hS).drop
                  exact ⟨by rw [decide_eq_false (fun e => by subst e; first | contradiction | omega | simp_all)]; rfl, hS⟩
                · try simp only [decide_eq_true_eq, decide_eq_false_iff_not, Bool.not_eq_true', Bool.not_eq_false', Bool.not_true, Bool.not_false, Option.isNone_iff_eq_none, Bool.false_eq_true, Bool.true_eq_false] at ht61
                  refine O_fieldAddr rfl rfl rfl rfl rfl Tryd.runUnderlying46 rfl Tryd.sizeOf43 ?_
                  refine O_loadS hS rfl rfl rfl rfl rfl Tryd.isAgg43 (by repeat (first | exact .here rfl | apply CellAt.there)) (by trivial) ?_
                  refine O_lenSl rfl rfl rfl rfl rfl Tryd.runUnderlying43 ?_
                  refine O_fieldAddr rfl rfl rfl rfl rfl Tryd.runUnderlying46 rfl Tryd.sizeOf43 ?_
                  refine O_loadS hS rfl rfl rfl rfl rfl Tryd.isAgg43 (by repeat (first | exact .here rfl | apply CellAt.there)) (by trivial) ?_
                  refine O_lenSl rfl rfl rfl rfl rfl Tryd.runUnderlying43 ?_
                  refine O_cmp rfl rfl rfl rfl rfl rfl rfl ?_
                  refine O_pickF rfl rfl rfl rfl rfl rfl ?_
                  refine O_move rfl rfl rfl rfl rfl ?_
                  refine R_case (t := 70) rfl (fun ht70 => ?_) (fun ht70 => ?_)
                  · try simp only [decide_eq_true_eq, decide_eq_false_iff_not, Bool.not_eq_true', Bool.not_eq_false', Bool.not_true, Bool.not_false, Option.isNone_iff_eq_none, Bool.false_eq_true, Bool.true_eq_false] at ht70
                    refine R_skip rfl rfl rfl rfl ?_
                    refine R_skip rfl rfl rfl rfl ?_
                    refine R_skip rfl rfl rfl rfl ?_
                    refine R_skip rfl rfl rfl rfl ?_
                    refine R_skip rfl rfl rfl rfl ?_
                    refine R_skip rfl rfl rfl rfl ?_
                    refine R_skip rfl rfl rfl rfl ?_
                    refine O_pickT rfl rfl rfl rfl rfl rfl ?_
                    refine R_nil ?_
                    refine tn ?_
                    refine F_true rfl rfl ?_
                    refine F_seq ?_
                    refine F_region (p := ⟨_, [0], []⟩) rfl [0] rfl ?_
                    refine O_assign rfl rfl rfl rfl rfl ?_
                    refine R_nil ?_
                    refine tn ?_
                    refine F_ret ?_
                    refine tr ?_
                    show endF _ _ _ _ _ _
                    refine end0 trivial rfl rfl rfl hS ?_
                    intro w hS
                    replace hS := (hS).drop
                    exact ⟨by rw [decide_eq_false (fun e => by subst e; first | contradiction | omega | simp_all)]; rfl, hS⟩
                  · try simp only [decide_eq_true_eq, decide_eq_false_iff_not, Bool.not_eq_true', Bool.not_eq_false', Bool.not_true, Bool.not_false, Option.isNone_iff_eq_none, Bool.false_eq_true, Bool.true_eq_false] at ht70
                    refine O_fieldAddr rfl rfl rfl rfl rfl Tryd.runUnderlying46 rfl Tryd.sizeOf44 ?_
                    refine O_loadS hS rfl rfl rfl rfl rfl Tryd.isAgg44 (by repeat (first | exact .here rfl | apply CellAt.there)) (by trivial) ?_
                    refine O_lenSl rfl rfl rfl rfl rfl Tryd.runUnderlying44 ?_
                    refine O_fieldAddr rfl rfl rfl rfl rfl Tryd.runUnderlying46 rfl Tryd.sizeOf44 ?_
                    refine O_loadS hS rfl rfl rfl rfl rfl Tryd.isAgg44 (by repeat (first | exact .here rfl | apply CellAt.there)) (by trivial) ?_
                    refine O_lenSl rfl rfl rfl rfl rfl Tryd.runUnderlying44 ?_
                    refine O_cmp rfl rfl rfl rfl rfl rfl rfl ?_
                    refine O_pickF rfl rfl rfl rfl rfl rfl ?_
                    refine R_nil ?_
                    refine tn ?_
                    refine F_cond rfl (fun ht78 => ?_) (fun ht78 => ?_)
                    · try simp only [decide_eq_true_eq, decide_eq_false_iff_not, Bool.not_eq_true', Bool.not_eq_false', Bool.not_true, Bool.not_false, Option.isNone_iff_eq_none, Bool.false_eq_true, Bool.true_eq_false] at ht78
                      refine F_seq ?_
                      refine F_region (p := ⟨_, [0], []⟩) rfl [0] rfl ?_
                      refine O_assign rfl rfl rfl rfl rfl ?_
                      refine R_nil ?_
                      refine tn ?_
                      refine F_ret ?_
                      refine tr ?_
                      show endF _ _ _ _ _ _
                      refine end0 trivial rfl rfl rfl hS ?_
                      intro w hS
                      replace hS := (hS).drop
                      exact ⟨by rw [decide_eq_false (fun e => by subst e; first | contradiction | omega | simp_all)]; rfl, hS⟩
                    · try simp only [decide_eq_true_eq, decide_eq_false_iff_not, Bool.not_eq_true', Bool.not_eq_false', Bool.not_true, Bool.not_false, Option.isNone_iff_eq_none, Bool.false_eq_true, Bool.true_eq_false] at ht78
                      refine F_skip ?_
                      refine tn ?_
                      refine F_seq ?_
                      refine F_seq ?_
                      refine F_region (p := ⟨_, [0, 1, 0, 0], []⟩) rfl [0, 1, 2, 3] rfl ?_
                      refine O_fieldAddr rfl rfl rfl rfl rfl Tryd.runUnderlying46 rfl Tryd.sizeOf43 ?_
                      refine O_loadS hS rfl rfl rfl rfl rfl Tryd.isAgg43 (by repeat (first | exact .here rfl | apply CellAt.there)) (by trivial) ?_
                      refine O_lenSl rfl rfl rfl rfl rfl Tryd.runUnderlying43 ?_
                      refine O_move rfl rfl rfl rfl rfl ?_
                      refine R_nil ?_
                      refine tn ?_
                      refine F_block ?_
                      have hls : s.samples.length = t.samples.length := by omega
                      have hlm : s.members.length = t.members.length := by omega
                      refine F_loopK (α := Nat) [(2, _), (3, _), (81, _)] (fun (j : Nat) => [(82, (.int .i64 (j : Nat)))]) (fun (j : Nat) => hemp) (fun (j : Nat) => j ≤ s.samples.length ∧ (∀ k, k < j → s.samples[k]? = t.samples[k]?)) (fun (j : Nat) => s.samples.length - j) 0 (Sup.app ⟨rfl, rfl, rfl, trivial⟩ ⟨rfl, trivial⟩) (hS.to (hemp_star _).symm) ⟨Nat.zero_le _, fun k hk => absurd hk (Nat.not_lt_zero k)⟩ ?_
                      clear hS
                      rintro j w ⟨hjj, hIj⟩ hS
                      replace hS := hS.to (hemp_star _)
                      rcases Nat.lt_or_ge j s.samples.length with hj2 | hj2
                      · obtain ⟨xj, hxj⟩ : ∃ x, s.samples[j]? = some x := ⟨_, List.getElem?_eq_getElem hj2⟩
                        obtain ⟨yj, hyj⟩ : ∃ y, t.samples[j]? = some y := ⟨_, List.getElem?_eq_getElem (by omega)⟩
                        refine wpF.sup (L := [(2, _), (3, _), (81, _), (82, _)]) ?_ ⟨rfl, rfl, rfl, rfl, trivial⟩
                        refine F_seq ?_
                        refine F_region (p := ⟨_, [0], []⟩) rfl [0] rfl ?_
                        refine O_cmp rfl rfl rfl rfl rfl rfl rfl ?_
                        refine R_nil ?_
                        refine tn ?_
                        refine F_seq ?_
                        refine F_true rfl (decide_eq_true (by omega)) ?_
                        refine F_skip ?_
                        refine tn ?_
                        refine F_seq ?_
                        refine F_block ?_
                        refine F_seq ?_
                        refine F_region (p := ⟨_, [0, 0], []⟩) rfl [0, 1] rfl ?_
                        refine O_move rfl rfl rfl rfl rfl ?_
                        refine O_assign rfl rfl rfl rfl rfl ?_
                        refine R_nil ?_
                        refine tn ?_
                        refine F_seq ?_
                        refine F_drawnS hS (by kernel_rfl) (p := ⟨_, [0, 1, 0, 0, 1, 0, 1, 0, 0, 1, 0], []⟩) rfl (.ofList [0, 1, 2, 3, 4, 5, 6, 7, 8, 9, 10]) (by kernel_rfl) ?_
                        intro w hS
                        refine O_fieldAddr rfl rfl rfl rfl rfl Tryd.runUnderlying46 rfl Tryd.sizeOf43 ?_
                        refine O_loadS hS rfl rfl rfl rfl rfl Tryd.isAgg43 (by repeat (first | exact .here rfl | apply CellAt.there)) (by trivial) ?_
                        refine O_move rfl rfl rfl rfl rfl ?_
                        obtain ⟨ebq1, eoq1, hadq1⟩ := Rds.ad (k := j) (u := (.int .i64 xj)) (h1) (hS.u2) (by simp [hxj])
                        refine O_indexSlE (m := j) rfl rfl rfl rfl Tryd.runUnderlying43 Tryd.sizeOf3 rfl hadq1 rfl rfl (by omega) ?_
                        refine O_load rfl rfl rfl rfl rfl Tryd.isAgg3 (Rds.at (k := j * 1) (u := (.int .i64 xj)) (h1) (hS.u2) hadq1 (by simp [hxj])) (by trivial) ?_
                        refine O_fieldAddr rfl rfl rfl rfl rfl Tryd.runUnderlying46 rfl Tryd.sizeOf43 ?_
                        refine O_loadS hS rfl rfl rfl rfl rfl Tryd.isAgg43 (by repeat (first | exact .here rfl | apply CellAt.there)) (by trivial) ?_
                        refine O_move rfl rfl rfl rfl rfl ?_
                        obtain ⟨ebq2, eoq2, hadq2⟩ := Rds.ad (k := j) (u := (.int .i64 yj)) (h3) (hS.u2) (by simp [hyj])
                        refine O_indexSlE (m := j) rfl rfl rfl rfl Tryd.runUnderlying43 Tryd.sizeOf3 rfl hadq2 rfl rfl (by omega) ?_
                        refine O_load rfl rfl rfl rfl rfl Tryd.isAgg3 (Rds.at (k := j * 1) (u := (.int .i64 yj)) (h3) (hS.u2) hadq2 (by simp [hyj])) (by trivial) ?_
                        refine O_cmp rfl rfl rfl rfl rfl rfl rfl ?_
                        refine R_nil ?_
                        refine tn ?_
                        refine F_cond rfl (fun hnej => ?_) (fun hnej => ?_)
                        · try simp only [decide_eq_true_eq, decide_eq_false_iff_not, Bool.not_eq_true', Bool.not_eq_false', Bool.not_true, Bool.not_false, Option.isNone_iff_eq_none, Bool.false_eq_true, Bool.true_eq_false] at hnej
                          refine F_seq ?_
                          refine F_region (p := ⟨_, [0], []⟩) rfl [0] rfl ?_
                          refine O_assign rfl rfl rfl rfl rfl ?_
                          refine R_nil ?_
                          refine tn ?_
                          refine F_ret ?_
                          refine br ?_
                          refine tr ?_
                          refine tr ?_
                          refine br ?_
                          refine tr ?_
                          show endF _ _ _ _ _ _
                          refine end0 trivial rfl rfl rfl hS ?_
                          intro w hS
                          replace hS := (hS).drop
                          exact ⟨by rw [decide_eq_false (fun e => by subst e; rw [hxj] at hyj; exact hnej (Option.some.inj hyj))]; rfl, hS⟩
                        · try simp only [decide_eq_true_eq, decide_eq_false_iff_not, Bool.not_eq_true', Bool.not_eq_false', Bool.not_true, Bool.not_false, Option.isNone_iff_eq_none, Bool.false_eq_true, Bool.true_eq_false] at hnej
                          refine F_skip ?_
                          refine bn ?_
                          refine tn ?_
                          refine F_region (p := ⟨_, [0, 0], []⟩) rfl [0, 1] rfl ?_
                          refine O_addN rfl rfl rfl rfl rfl rfl (by first | omega | (dsimp only; omega)) ?_
                          refine O_move rfl rfl rfl rfl rfl ?_
                          refine R_nil ?_
                          replace hS := hS.lk2.lk2
                          replace hS := hS.u2.u2
                          refine tn ⟨rfl, rfl, j + 1, Sup.app ⟨rfl, rfl, rfl, trivial⟩ ⟨rfl, trivial⟩, ⟨⟨by omega, upto_snoc hIj (by rw [hxj, hyj, hnej])⟩, hS.to (hemp_star _).symm⟩, by omega⟩
                      · have ej : j = s.samples.length := by omega
                        subst ej
                        have hes : s.samples = t.samples := list_same (by omega) hIj
                        refine wpF.sup (L := [(2, _), (3, _), (81, _), (82, _)]) ?_ ⟨rfl, rfl, rfl, rfl, trivial⟩
                        refine F_seq ?_
                        refine F_region (p := ⟨_, [0], []⟩) rfl [0] rfl ?_
                        refine O_cmp rfl rfl rfl rfl rfl rfl rfl ?_
                        refine R_nil ?_
                        refine tn ?_
                        refine F_seq ?_
                        refine F_false rfl (decide_eq_false (by omega)) ?_
                        refine F_exit ?_
                        refine tx ?_
                        refine tx ?_
                        refine Go.Sl.bx rfl ?_
                        refine tn ?_
                        refine F_seq ?_
                        refine F_seq ?_
                        refine F_region (p := ⟨_, [0, 1, 0, 0], []⟩) rfl [0, 1, 2, 3] rfl ?_
                        refine O_fieldAddr rfl rfl rfl rfl rfl Tryd.runUnderlying46 rfl Tryd.sizeOf44 ?_
                        refine O_loadS hS rfl rfl rfl rfl rfl Tryd.isAgg44 (by repeat (first | exact .here rfl | apply CellAt.there)) (by trivial) ?_
                        refine O_lenSl rfl rfl rfl rfl rfl Tryd.runUnderlying44 ?_
                        refine O_move rfl rfl rfl rfl rfl ?_
                        refine R_nil ?_
                        refine tn ?_
                        refine F_block ?_
                        refine F_loopK (α := Nat) [(2, _), (3, _), (81, _), (82, _), (99, _)] (fun (i : Nat) => [(100, (.int .i64 (i : Nat)))]) (fun (i : Nat) => hemp) (fun (i : Nat) => i ≤ s.members.length ∧ (∀ k, k < i → s.members[k]? = t.members[k]?)) (fun (i : Nat) => s.members.length - i) 0 (Sup.app ⟨rfl, rfl, rfl, rfl, rfl, trivial⟩ ⟨rfl, trivial⟩) (hS.to (hemp_star _).symm) ⟨Nat.zero_le _, fun k hk => absurd hk (Nat.not_lt_zero k)⟩ ?_
                        clear hS
                        rintro i w ⟨hji, hIi⟩ hS
                        replace hS := hS.to (hemp_star _)
                        rcases Nat.lt_or_ge i s.members.length with hi2 | hi2
                        · obtain ⟨xi, hxi⟩ : ∃ x, s.members[i]? = some x := ⟨_, List.getElem?_eq_getElem hi2⟩
                          obtain ⟨yi, hyi⟩ : ∃ y, t.members[i]? = some y := ⟨_, List.getElem?_eq_getElem (by omega)⟩
                          refine wpF.sup (L := [(2, _), (3, _), (81, _), (82, _), (99, _), (100, _)]) ?_ ⟨rfl, rfl, rfl, rfl, rfl, rfl, trivial⟩
                          refine F_seq ?_
                          refine F_region (p := ⟨_, [0], []⟩) rfl [0] rfl ?_
                          refine O_cmp rfl rfl rfl rfl rfl rfl rfl ?_
                          refine R_nil ?_
                          refine tn ?_
                          refine F_seq ?_
                          refine F_true rfl (decide_eq_true (by omega)) ?_
                          refine F_skip ?_
                          refine tn ?_
                          refine F_seq ?_
                          refine F_block ?_
                          refine F_seq ?_
                          refine F_region (p := ⟨_, [0, 0], []⟩) rfl [0, 1] rfl ?_
                          refine O_move rfl rfl rfl rfl rfl ?_
                          refine O_assign rfl rfl rfl rfl rfl ?_
                          refine R_nil ?_
                          refine tn ?_
                          refine F_seq ?_
                          refine F_drawnS hS (by kernel_rfl) (p := ⟨_, [0, 1, 0, 0, 1, 0, 1, 0, 0, 1, 0], []⟩) rfl (.ofList [0, 1, 2, 3, 4, 5, 6, 7, 8, 9, 10]) (by kernel_rfl) ?_
                          intro w hS
                          refine O_fieldAddr rfl rfl rfl rfl rfl Tryd.runUnderlying46 rfl Tryd.sizeOf44 ?_
                          refine O_loadS hS rfl rfl rfl rfl rfl Tryd.isAgg44 (by repeat (first | exact .here rfl | apply CellAt.there)) (by trivial) ?_
                          refine O_move rfl rfl rfl rfl rfl ?_
                          obtain ⟨ebq1, eoq1, hadq1⟩ := Rds.ad (k := i) (u := (.string xi)) (h2) (hS.u2) (by simp [hxi])
                          refine O_indexSlE (m := i) rfl rfl rfl rfl Tryd.runUnderlying44 Tryd.sizeOf9 rfl hadq1 rfl rfl (by omega) ?_
                          refine O_load rfl rfl rfl rfl rfl Tryd.isAgg9 (Rds.at (k := i * 1) (u := (.string xi)) (h2) (hS.u2) hadq1 (by simp [hxi])) (by trivial) ?_
                          refine O_fieldAddr rfl rfl rfl rfl rfl Tryd.runUnderlying46 rfl Tryd.sizeOf44 ?_
                          refine O_loadS hS rfl rfl rfl rfl rfl Tryd.isAgg44 (by repeat (first | exact .here rfl | apply CellAt.there)) (by trivial) ?_
                          refine O_move rfl rfl rfl rfl rfl ?_
                          obtain ⟨ebq2, eoq2, hadq2⟩ := Rds.ad (k := i) (u := (.string yi)) (h4) (hS.u2) (by simp [hyi])
                          refine O_indexSlE (m := i) rfl rfl rfl rfl Tryd.runUnderlying44 Tryd.sizeOf9 rfl hadq2 rfl rfl (by omega) ?_
                          refine O_load rfl rfl rfl rfl rfl Tryd.isAgg9 (Rds.at (k := i * 1) (u := (.string yi)) (h4) (hS.u2) hadq2 (by simp [hyi])) (by trivial) ?_
                          refine O_cmpStr rfl rfl rfl rfl rfl rfl rfl ?_
                          refine R_nil ?_
                          refine tn ?_
                          refine F_cond rfl (fun hnei => ?_) (fun hnei => ?_)
                          · try simp only [decide_eq_true_eq, decide_eq_false_iff_not, Bool.not_eq_true', Bool.not_eq_false', Bool.not_true, Bool.not_false, Option.isNone_iff_eq_none, Bool.false_eq_true, Bool.true_eq_false] at hnei
                            refine F_seq ?_
                            refine F_region (p := ⟨_, [0], []⟩) rfl [0] rfl ?_
                            refine O_assign rfl rfl rfl rfl rfl ?_
                            refine R_nil ?_
                            refine tn ?_
                            refine F_ret ?_
                            refine br ?_
                            refine tr ?_
                            refine tr ?_
                            refine br ?_
                            refine tr ?_
                            show endF _ _ _ _ _ _
                            refine end0 trivial rfl rfl rfl hS ?_
                            intro w hS
                            replace hS := (hS).drop
                            exact ⟨by rw [decide_eq_false (fun e => by subst e; rw [hxi] at hyi; exact hnei (Option.some.inj hyi))]; rfl, hS⟩
                          · try simp only [decide_eq_true_eq, decide_eq_false_iff_not, Bool.not_eq_true', Bool.not_eq_false', Bool.not_true, Bool.not_false, Option.isNone_iff_eq_none, Bool.false_eq_true, Bool.true_eq_false] at hnei
                            refine F_skip ?_
                            refine bn ?_
                            refine tn ?_
                            refine F_region (p := ⟨_, [0, 0], []⟩) rfl [0, 1] rfl ?_
                            refine O_addN rfl rfl rfl rfl rfl rfl (by first | omega | (dsimp only; omega)) ?_
                            refine O_move rfl rfl rfl rfl rfl ?_
                            refine R_nil ?_
                            replace hS := hS.lk2.lk2
                            replace hS := hS.u2.u2
                            refine tn ⟨rfl, rfl, i + 1, Sup.app ⟨rfl, rfl, rfl, rfl, rfl, trivial⟩ ⟨rfl, trivial⟩, ⟨⟨by omega, upto_snoc hIi (by rw [hxi, hyi, hnei])⟩, hS.to (hemp_star _).symm⟩, by omega⟩
                        · have ei : i = s.members.length := by omega
                          subst ei
                          have hem : s.members = t.members := list_same (by omega) hIi
                          refine wpF.sup (L := [(2, _), (3, _), (81, _), (82, _), (99, _), (100, _)]) ?_ ⟨rfl, rfl, rfl, rfl, rfl, rfl, trivial⟩
                          refine F_seq ?_
                          refine F_region (p := ⟨_, [0], []⟩) rfl [0] rfl ?_
                          refine O_cmp rfl rfl rfl rfl rfl rfl rfl ?_
                          refine R_nil ?_
                          refine tn ?_
                          refine F_seq ?_
                          refine F_false rfl (decide_eq_false (by omega)) ?_
                          refine F_exit ?_
                          refine tx ?_
                          refine tx ?_
                          refine Go.Sl.bx rfl ?_
                          refine tn ?_
                          refine F_seq ?_
                          refine F_region (p := ⟨_, [0], []⟩) rfl [0] rfl ?_
                          refine O_assign rfl rfl rfl rfl rfl ?_
                          refine R_nil ?_
                          refine tn ?_
                          refine F_ret ?_
                          show endF _ _ _ _ _ _
                          refine end0 trivial rfl rfl rfl hS ?_
                          intro w hS
                          replace hS := (hS).drop
                          exact ⟨by rw [decide_eq_true (by cases s; cases t; simp_all)]; rfl, hS⟩
end Go.Proofs.YtpnigaoibhogfaaDoor
