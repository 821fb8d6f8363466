/- YtpnigaoibhogfaaR19: a part of the proof: walks over the translated code, and plain facts on lists beside. -/
import Derived.Test.YtpnigaoibhogfaaR18
import Derived.Test.YtpnigaoibhogfaaR13
import Derived.Test.YtpnigaoibhogfaaR11
import Derived.Test.YtpnigaoibhogfaaSlX4
set_option linter.all false
namespace Go.Proofs.Ytpnigaoibhogfaa
open Go Go.RowKit Go.Sl
set_option linter.unusedVariables false
theorem seenAllA_iter {sb c1 c2 rb cb : Nat} {A : HProp} {q : PT ByteArray Nat} {d : Int × List (Int × Bool)} {name : ByteArray} (hA : RkR E_sc A rb q) (hs : Srt O_sc q.toList) (hg : Go.Sl.get O_sc name q.toList = some cb) :
    Iter Try.prog (.func (.func 63) #[] #[.pointer (some ⟨c1, 0, none⟩), .pointer (some ⟨c2, 0, none⟩)]) (blks [(c2, .cells #[.string name] 9 (0, 0)), (c1, .cells #[.pointer (some ⟨sb, 0, none⟩)] 48 (0, 0)), (sb, .cells #[.pointer (some ⟨rb, 0, none⟩)] 94 (0, 0))] * (A * cameP E_ib O_ib 103 cb d)) (fun x => [E_ii.k x].toArray) (d.2.map Prod.fst) := by
  intro w0 y J Jx hyf hy R w hS
  obtain ⟨yn, ya, yc, rfl⟩ := hyf
  refine FV.of_list (args := [.func yn ya yc]) (cap := [.pointer (some ⟨c1, 0, none⟩), .pointer (some ⟨c2, 0, none⟩)]) Try.call63 ?_
  replace hS : Sat w0 (blks [(c2, .cells #[.string name] 9 (0, 0)), (c1, .cells #[.pointer (some ⟨sb, 0, none⟩)] 48 (0, 0)), (sb, .cells #[.pointer (some ⟨rb, 0, none⟩)] 94 (0, 0))] * (A * (cameP E_ib O_ib 103 cb d * (J [] * R)))) w := hS.to (by ac_rfl)
  refine enterF (args := [_, _, _]) Try.func63 rfl Try.ntmps63 rfl rfl ?_
  refine F_seq ?_
  refine F_region (p := ⟨_, [2], []⟩) rfl [0] rfl ?_
  refine O_boxS hS rfl rfl rfl rfl rfl (fun _ _ hv => trivial) ?_
  intro b1 w hS
  refine R_nil ?_
  refine tn ?_
  refine F_seq ?_
  refine F_drawnS hS (by kernel_rfl) (p := ⟨_, [1, 0, 0, 1, 1, 2, 0, 0, 0, 0, 0], []⟩) rfl (.ofList [0, 1, 2, 3, 4, 5, 6, 7, 8, 9, 10]) (by kernel_rfl) ?_
  intro w hS
  refine O_loadS hS rfl rfl rfl rfl rfl Try.isAgg48 (by repeat (first | exact .here rfl | apply CellAt.there)) (by trivial) ?_
  refine O_nilCheck rfl rfl rfl rfl rfl ?_
  refine O_fieldAddr rfl rfl rfl rfl rfl Try.runUnderlying94 rfl Try.sizeOf89 ?_
  refine O_loadS hS rfl rfl rfl rfl rfl Try.isAgg89 (by repeat (first | exact .here rfl | apply CellAt.there)) (by trivial) ?_
  refine O_loadS hS rfl rfl rfl rfl rfl Try.isAgg9 (by repeat (first | exact .here rfl | apply CellAt.there)) (by trivial) ?_
  refine O_call rfl rfl rfl rfl Try.call64 rfl (GetA_sc hA hs name (hS.u2)) (fun _ _ hv => trivial) ?_
  rintro _ w ⟨rfl, hS⟩
  rw [hg]
  obtain ⟨rk, hS⟩ := came_open (hS.u3)
  replace hS := hS.u4.u2
  replace hS := hS.jn1
  refine O_move rfl rfl rfl rfl rfl ?_
  refine O_extract rfl rfl rfl rfl rfl rfl ?_
  refine O_extract rfl rfl rfl rfl rfl rfl ?_
  refine O_assign rfl rfl rfl rfl rfl ?_
  refine O_assign rfl rfl rfl rfl rfl ?_
  refine R_nil ?_
  refine tn ?_
  refine F_seq ?_
  refine F_seq ?_
  refine F_region (p := ⟨_, [0, 0], []⟩) rfl [0, 1] rfl ?_
  refine O_move rfl rfl rfl rfl rfl ?_
  refine O_not rfl rfl rfl rfl rfl ?_
  refine R_nil ?_
  refine tn ?_
  refine F_false rfl rfl ?_
  refine F_skip ?_
  refine tn ?_
  refine F_seq ?_
  refine F_region (p := ⟨_, [0, 0, 0, 1, 2], []⟩) rfl [0, 1, 2, 3, 4] rfl ?_
  refine O_move rfl rfl rfl rfl rfl ?_
  refine O_nilCheck rfl rfl rfl rfl rfl ?_
  refine O_fieldAddr rfl rfl rfl rfl rfl Try.runUnderlying103 rfl Try.sizeOf101 ?_
  refine O_loadS hS rfl rfl rfl rfl rfl Try.isAgg101 (by repeat (first | exact .here rfl | apply CellAt.there)) (by trivial) ?_
  refine O_call rfl rfl rfl rfl Try.call65 rfl (All_ib ⟨_, rfl⟩ (hS)) (fun _ _ hv => trivial) ?_
  rintro _ w ⟨bx, rfl, hS⟩
  replace hS := hS.u2
  refine R_nil ?_
  refine tn ?_
  refine F_block ?_
  replace hS := hS
  replace hS := hS.u5
  replace hS := hS.u2.u2
  replace hS := hS.g2
  replace hS := hS.u3.u3.g2
  replace hS := hS.u2.u2
  refine F_rangeK (α := Int × Bool) (gf := 86) (first := #[]) (lb := #[.pointer (some ⟨bx, 0, none⟩)]) rfl Try.call86 (fun x => [E_ib.k x.1, E_ib.v x.2]) (all_ib_iter (rb := rk) (bx := bx) (xs := d.2)) [23, 24] rfl (fun _ => rfl) rfl (fun (pre : List (Int × Bool)) => J (pre.map Prod.fst)) (fun (c : Code) (pre : List (Int × Bool)) => pur (c = Code.ret) * Jx (pre.map Prod.fst)) (w0 := w0) hS ?_ ?_ ?_
  · clear hS
    intro l pre x post R w hx hS
    replace hS := hS.n2
    replace hS := hS
    replace hS := hS.u2
    refine F_region (p := ⟨_, [0], []⟩) rfl [0] rfl ?_
    refine O_assign rfl rfl rfl rfl rfl ?_
    refine R_nil ?_
    refine tn ⟨_, hS.g2, ?_⟩
    clear hS
    intro R w hS
    replace hS := hS.n2
    have hmp : (pre ++ [x]).map Prod.fst = pre.map Prod.fst ++ [x.1] := by simp
    refine F_block ?_
    refine F_seq ?_
    refine F_region (p := ⟨_, [1, 0, 2, 0], []⟩) rfl [0, 1, 2, 3] rfl ?_
    refine O_loadS hS rfl rfl rfl rfl rfl Try.isAgg72 (by repeat (first | exact .here rfl | apply CellAt.there)) (by trivial) ?_
    refine O_move rfl rfl rfl rfl rfl ?_
    refine O_callv rfl rfl rfl rfl rfl rfl (hy _ x.1 (post.map Prod.fst) _ _ (by rw [hx]; simp) (hS.u2)) (fun _ _ hv => trivial) ?_
    rintro _ w (⟨rfl, hS⟩ | ⟨rfl, hS⟩)
    · replace hS := hS.u2
      refine O_not rfl rfl rfl rfl rfl ?_
      refine R_nil ?_
      refine tn ?_
      refine F_false rfl rfl ?_
      refine F_skip ?_
      refine bn ?_
      replace hS := hS.u2
      rw [← hmp] at hS
      replace hS := hS.u2
      replace hS := hS.lk5.lk5.lk5.lk5.lk5
      replace hS := hS.u2
      replace hS := hS.u2
      replace hS := hS.u2
      replace hS := hS.u2.u2
      replace hS := hS.g2
      exact hS
    · replace hS := hS.u2
      refine O_not rfl rfl rfl rfl rfl ?_
      refine R_nil ?_
      refine tn ?_
      refine F_true rfl rfl ?_
      refine F_ret ?_
      refine br ?_
      replace hS := hS.lk5.lk5.lk5.lk5.lk5
      replace hS := hS.u2
      rw [← hmp] at hS
      replace hS := (Sat.mkpure (p := Code.ret = Code.ret) rfl hS).g2
      exact hS.g2
  · clear hS
    intro D1 w hS
    replace hS := hS.u3
    replace hS := hS.n2
    replace hS := hS
    replace hS := hS.u2
    replace hS := hS.u4.n2
    replace hS := hS.u3
    refine bn ?_
    show endF _ _ _ _ _ _
    replace hS := hS.u5
    refine end_sl trivial rfl rfl (marks1 hS) ?_
    intro w hS
    replace hS := hS.lk2
    replace hS := hS.sp1.drop
    replace hS := hS.sp1
    replace hS := hS.u4.u2
    replace hS := came_mk hS
    replace hS := hS.u2
    replace hS := hS.lk3.lk3.lk3
    replace hS := (hS.u3).drop
    replace hS := hS.u3.u3.u4.u4
    replace hS := hS.u4.u4.u4.u4
    exact .inl (hS.to (by ac_rfl))
  · clear hS
    intro D1 c pre w hp hS
    replace hS := hS.u3
    replace hS := hS.n2
    replace hS := hS.u2
    replace hS := hS.u4.n2
    replace hS := hS.u3
    replace hS := hS.u4
    obtain ⟨hc, hS2⟩ := Sat.pure hS.n2
    clear hS
    subst hc
    have hS := hS2
    replace hS := hS.u2
    refine F_ret ?_
    refine br ?_
    show endF _ _ _ _ _ _
    replace hS := hS.u5
    refine end_sl trivial rfl rfl (marks1 hS) ?_
    intro w hS
    replace hS := hS.lk2
    replace hS := hS.sp1.drop
    replace hS := hS.sp1
    replace hS := hS.u5.u2
    replace hS := came_mk hS
    replace hS := hS.u2
    replace hS := hS.lk3.lk3.lk3
    replace hS := (hS.u4).drop
    replace hS := hS.u3.u3.u4.u4
    replace hS := hS.u4.u4.u4.u4
    obtain ⟨z, hz⟩ := hp
    exact .inr ⟨pre.map Prod.fst, ⟨z.map Prod.fst, by rw [← hz]; simp⟩, hS.to (by ac_rfl)⟩
theorem info_src65 : (Try.prog.info? 65).map (fun i => (i.zero, i.size, i.bytes)) = some (some (.agg #[.string ⟨#[]⟩, .int .i64 0, .slice none 0 0]), 3, 48) := by kernel_rfl
theorem seenState {w0 w : World} {R P0 : HProp} {sb : Nat} {L : List (ByteArray × (Int × List (Int × Bool)))} (hb : L.length ≤ 1000) (hb2 : ∀ x ∈ L, x.2.2.length ≤ 1000) (hS : Sat w0 (seenP E_sc O_sc E_ib O_ib 94 103 sb L * R) w) :
    Calls Try.prog 31 #[.pointer (some ⟨sb, 0, none⟩)] w (ret fun u w' => ∃ ad c Q, u = .agg #[.slice ad Q.length c] ∧ Q.map Src.tell = L.map tellL ∧ Sat w0 (sl 65 3 (.slice ad Q.length c) Q.length (Q.flatMap srcE) * (srcP P0 Q * (seenP E_sc O_sc E_ib O_ib 94 103 sb L * R))) w') := by
  obtain ⟨rb, M, hM, hS⟩ := seen_open hS
  obtain ⟨q, hq, hs, hS⟩ := rack_p hS.u2
  have hs2 : Srt O_sc q.toList := by rw [hq]; exact hs
  have hA : RkR E_sc (prack E_sc rb q) rb q := prack_rd
  have hML : M.length = L.length := by rw [← hM, len_mapv]
  replace hS := hS.u2
  refine enterF (args := [_]) Try.func31 rfl Try.ntmps31 rfl rfl ?_
  refine F_seq ?_
  refine F_region (p := ⟨_, [2, 2], []⟩) rfl [0, 1] rfl ?_
  refine O_boxS hS rfl rfl rfl rfl rfl (fun _ _ hv => trivial) ?_
  intro b1 w hS
  refine O_allocS hS rfl rfl rfl rfl Try.zeroValue61 (fun _ _ hv => trivial) ?_
  intro b2 w hS
  refine R_nil ?_
  refine tn ?_
  refine F_seq ?_
  refine F_region (p := ⟨_, [2], []⟩) rfl [0] rfl ?_
  refine O_allocS hS rfl rfl rfl rfl Try.zeroValue61 (fun _ _ hv => trivial) ?_
  intro b3 w hS
  refine R_nil ?_
  refine tn ?_
  refine F_seq ?_
  refine F_seq ?_
  refine F_region (p := ⟨_, [1, 0, 0, 1, 2], []⟩) rfl [0, 1, 2, 3, 4] rfl ?_
  refine O_loadS hS rfl rfl rfl rfl rfl Try.isAgg48 (by repeat (first | exact .here rfl | apply CellAt.there)) (by trivial) ?_
  refine O_nilCheck rfl rfl rfl rfl rfl ?_
  refine O_fieldAddr rfl rfl rfl rfl rfl Try.runUnderlying94 rfl Try.sizeOf89 ?_
  refine O_loadS hS rfl rfl rfl rfl rfl Try.isAgg89 (by repeat (first | exact .here rfl | apply CellAt.there)) (by trivial) ?_
  refine O_call rfl rfl rfl rfl Try.call59 rfl (All_sc ⟨_, rfl⟩ (hS)) (fun _ _ hv => trivial) ?_
  rintro _ w ⟨bx, rfl, hS⟩
  replace hS := hS.u2
  refine R_nil ?_
  refine tn ?_
  refine F_block ?_
  replace hS := hS.sp1
  replace hS := acc_mk (P0 := P0) (Q := []) (l := (M.take 0).map tellD) rfl ((sl_nil (e := 65) (size := 3) (Sat.noS (P0 := P0) hS)).u2)
  replace hS := hS.u2
  replace hS := hS.u5.u2.g2
  replace hS := hS.u2
  replace hS := hS.u2.u2
  replace hS := hS.g2
  replace hS := hS.u3
  replace hS := hS.g2
  replace hS := hS.u2
  replace hS := hS.u2.u2
  refine F_rangeKA (α := ByteArray × Nat) (gf := 79) (first := #[]) (lb := #[.pointer (some ⟨bx, 0, none⟩)]) rfl Try.call79 (fun x => [E_sc.k x.1, E_sc.v x.2]) (allA_sc_iter (bx := bx) hA) [11, 12] rfl (fun _ => rfl) rfl (fun (pre : List (ByteArray × Nat)) => accP P0 b3 61 65 ((M.take pre.length).map tellD)) (fun (c : Code) (pre : List (ByteArray × Nat)) => hbot) (w0 := w0) hS ?_ ?_ ?_
  · clear hS
    intro l pre x post R w hx hS
    replace hS := hS.n2
    replace hS := hS.u2
    replace hS := hS.n2
    replace hS := hS
    replace hS := hS.u2.n2
    refine F_seq ?_
    refine F_region (p := ⟨_, [0], []⟩) rfl [0] rfl ?_
    refine O_assign rfl rfl rfl rfl rfl ?_
    refine R_nil ?_
    refine tn ?_
    refine F_region (p := ⟨_, [0], []⟩) rfl [0] rfl ?_
    refine O_assign rfl rfl rfl rfl rfl ?_
    refine R_nil ?_
    refine tn ⟨_, hS.g4, ?_⟩
    clear hS
    intro R w hS
    replace hS := hS.n4
    obtain ⟨Mp, d, Mq, hMs, hMl, hMp⟩ := mapv_split (hq.symm.trans hx)
    have hg : Go.Sl.get O_sc x.1 q.toList = some x.2 := by rw [hx]; exact get_mid (by rw [← hx]; exact hs2)
    replace hS := hS.u2
    rw [hMs, bigS_app] at hS
    simp only [bigS] at hS
    replace hS := hS.n2
    replace hS := hS.u2
    replace hS := hS.n2
    obtain ⟨rk, hS⟩ := came_open (hS)
    replace hS := hS.u5.u2
    replace hS := hS.jn1
    replace hS := hS.u5
    obtain ⟨ad, c, Q, hQ, hle, hcm, hni, hS⟩ := acc_open hS
    replace hS := hS.u4.u2
    replace hS := hS.jn1
    have htk1 : (Mp ++ (x.1, (x.2, d)) :: Mq).take pre.length = Mp := List.take_left' hMl
    have htk2 : (Mp ++ (x.1, (x.2, d)) :: Mq).take (pre ++ [x]).length = Mp ++ [(x.1, (x.2, d))] := by rw [show Mp ++ (x.1, (x.2, d)) :: Mq = (Mp ++ [(x.1, (x.2, d))]) ++ Mq by simp]; exact List.take_left' (by simp [hMl])
    have hQl : Q.length = pre.length := by rw [← hMl, ← List.length_map (f := Src.tell), hQ, List.length_map, htk1]
    have hMlen : M.length = Mp.length + (Mq.length + 1) := by rw [hMs]; simp
    have hdl : d.2.length ≤ 1000 := by have := hb2 (x.1, d) (by rw [← hM, hMs]; simp [mapv]); exact this
    refine F_block ?_
    refine F_drawnS hS (by kernel_rfl) (p := ⟨_, [0, 1, 0, 0, 0, 0, 1, 1, 0, 2, 2, 0, 2, 2, 0, 2], [(1, 9), (6, 9), (1, 10), (6, 10), (1, 12)]⟩) rfl (.ofList [0, 1, 2, 3, 4, 5, 6, 7, 8, 9, 10, 11, 12, 13, 14, 15]) (by kernel_rfl) ?_
    intro w hS
    refine O_fieldAddr rfl rfl rfl rfl rfl Try.runUnderlying61 rfl Try.sizeOf59 ?_
    refine O_loadS hS rfl rfl rfl rfl rfl Try.isAgg59 (by repeat (first | exact .here rfl | apply CellAt.there)) (by trivial) ?_
    refine O_move rfl rfl rfl rfl rfl ?_
    refine O_move rfl rfl rfl rfl rfl ?_
    refine O_nilCheck rfl rfl rfl rfl rfl ?_
    refine O_fieldAddr rfl rfl rfl rfl rfl Try.runUnderlying103 rfl Try.sizeOf3 ?_
    refine O_loadS hS rfl rfl rfl rfl rfl Try.isAgg3 (by repeat (first | exact .here rfl | apply CellAt.there)) (by trivial) ?_
    refine O_loadS hS rfl rfl rfl rfl rfl Try.isAgg48 (by repeat (first | exact .here rfl | apply CellAt.there)) (by trivial) ?_
    refine O_move rfl rfl rfl rfl rfl ?_
    have hS_9 := hS
    refine O_call rfl rfl rfl rfl Try.call35 rfl (seenAll ⟨_, rfl⟩ (hS)) (fun _ _ hv => by obtain ⟨c1, c2, rfl, hS⟩ := hv; exact ⟨CellAt.cell (by repeat (first | exact .here rfl | apply CellAt.there)) (hS.u2), ⟨CellAt.cell (by repeat (first | exact .here rfl | apply CellAt.there)) (hS.u2), trivial⟩⟩) ?_
    rintro _ w ⟨c1, c2, rfl, hS⟩
    replace hS := hS.u2.u2
    replace hS := hS.jn2
    replace hS := hS.lk7.lk3.lk3
    replace hS := hS.sp3
    replace hS := hS.u2
    replace hS := hS.lk2
    replace hS := hS.sp1
    replace hS := hS.u6.u2
    replace hS := came_mk hS
    replace hS := hS.u2
    replace hS := hS.u2.u8.g2
    replace hS := hS.u3.g2
    replace hS := hS.u2
    have hS_10 := hS
    refine O_call rfl rfl rfl rfl Try.call42 rfl (collect_i Try.call63 (seenAllA_iter (rb := rb) (d := d) hA hs2 hg) (by rw [List.length_map]; omega) (hS.u2)) (fun _ _ hv => by have hS := hv; exact ⟨came_floor ((hS).n2.u2.n2.u2), ⟨CellAt.cell (by repeat (first | exact .here rfl | apply CellAt.there)) (hS.u3), trivial⟩⟩) ?_
    rintro _ w hS
    obtain ⟨adr, cr, rfl, hler, hcmr, _⟩ := sl_form hS.u2
    replace hS := hS.u3
    replace hS := hS.u2.n2
    replace hS := hS.u2.n2
    replace hS := hS.u4.u4
    replace hS := hS.jn3
    replace hS := hS.u4
    replace hS := rd_of_sl (P0 := P0) hS
    replace hS := hS.u2
    refine O_build rfl rfl rfl rfl rfl (run_buildS [_, _, _] Try.zeroValue65 Try.runUnderlying65 (fun _ => 1) ⟨Try.sizeOf9, Try.sizeOf3, Try.sizeOf28, trivial⟩ rfl) ?_
    have hS_12 := hS
    refine O_sliceLit hS rfl rfl rfl rfl Try.runUnderlying59 Try.sizeOf65 Try.zeroValue65 rfl (by decide) rfl rfl rfl (cs := [_, _, _]) rfl rfl (fun _ _ hv => ⟨trivial, ⟨CellAt.cell (by repeat (first | exact .here rfl | apply CellAt.there)) (hv.u2), trivial⟩⟩) ?_
    intro z1 w hS
    replace hS := hS.u2
    have hrdv1 := sl_rd (hS.u2)
    replace hS := hS.u6
    refine O_append (m := 1) (news := (srcE (Src.mk x.1 d.1 (.slice adr (d.2.map Prod.fst).length cr) (d.2.map Prod.fst)))) hS rfl rfl rfl rfl Try.underlying59 info_src65 rfl (by decide) rfl rfl rfl (by intro e; cases e) hrdv1 (by simp [srcE, Value.oneCell']) (by simp only [maxLen]; omega) (by omega) (fun _ _ hv => ⟨trivial, ⟨trivial, trivial⟩⟩) ?_
    intro v1 w hnilv1 hS
    obtain ⟨adv1, capv1, rfl, hlev1, hcapv1, _⟩ := sl_form hS
    replace hS := hS.u2
    refine O_fieldAddr rfl rfl rfl rfl rfl Try.runUnderlying61 rfl Try.sizeOf59 ?_
    refine O_storeS hS rfl rfl rfl rfl rfl rfl rfl Try.sizeOf59 (by repeat (first | exact .here rfl rfl | apply SetAt.there)) (fun w' hv => ⟨trivial, ⟨trivial, trivial⟩⟩) ?_
    intro w hS
    refine R_nil ?_
    refine bn ?_
    replace hS := hS.lk4
    replace hS := hS.sp1
    replace hS := hS.u5.u8
    replace hS := src_snoc (x := Src.mk x.1 d.1 (.slice adr (d.2.map Prod.fst).length cr) (d.2.map Prod.fst)) hS
    replace hS := hS.u4
    replace hS := Sat.slc (n' := (Q ++ [Src.mk x.1 d.1 (.slice adr (d.2.map Prod.fst).length cr) (d.2.map Prod.fst)]).length) (xs' := (Q ++ [Src.mk x.1 d.1 (.slice adr (d.2.map Prod.fst).length cr) (d.2.map Prod.fst)]).flatMap srcE) hS (by simp) (by simp [List.flatMap_append, srcE])
    replace hS := hS.u2.u2.u3
    replace hS := acc_mk (l := (M.take (pre ++ [x]).length).map tellD) (by rw [List.map_append, hQ, hMs, htk1, htk2]; simp [tellD, Src.tell]) hS
    replace hS := hS.u6.u6.u7
    replace hS := hS.g3
    rw [show bigS (cameP E_ib O_ib 103) Mp * (cameP E_ib O_ib 103 x.2 d * bigS (cameP E_ib O_ib 103) Mq) = bigS (cameP E_ib O_ib 103) M by rw [hMs, bigS_app]; rfl] at hS
    replace hS := hS.u3
    replace hS := hS.sp1.drop
    replace hS := hS.sp1.drop
    replace hS := hS.lk3.lk3
    replace hS := (hS.u4).drop
    replace hS := hS.u2.u2.u3.u4
    replace hS := hS.u4.u4.g2
    replace hS := hS.u3
    replace hS := hS.u2.u2
    replace hS := hS.g2
    replace hS := hS.u2
    replace hS := hS.g2
    exact hS
  · clear hS
    intro D1 w hS
    replace hS := hS.u3
    replace hS := hS.n2
    replace hS := hS.u2
    replace hS := hS.n2
    replace hS := hS
    replace hS := hS.u2.n2
    replace hS := hS.u6
    replace hS := hS.u2
    refine bn ?_
    refine tn ?_
    refine F_seq ?_
    refine F_region (p := ⟨_, [1, 2], []⟩) rfl [0, 1] rfl ?_
    replace hS := hS.u4
    obtain ⟨ad, c, Q, hQ, hle, hcm, hni, hS⟩ := acc_open hS
    replace hS := hS.u4.u2
    replace hS := hS.jn1
    refine O_loadAgg [_] rfl rfl rfl rfl rfl Try.isAgg61 Try.sizeOf61 rfl (CellsAt.rd ⟨(by repeat (first | exact .here rfl | apply CellAt.there)), trivial⟩ (hS)) (by trivial) ?_
    replace hS := hS.lk2
    refine O_storeAgg (cs := [_]) hS rfl rfl rfl rfl rfl rfl Try.sizeOf61 rfl (Nat.le_of_ble_eq_true rfl) (by simp [one]) (fun _ hv => trivial) ?_
    intro w hS
    dsimp only [setsL, List.set_cons_zero, List.set_cons_succ, Value.cells] at hS
    refine R_nil ?_
    refine tn ?_
    refine F_ret ?_
    show endF _ _ _ _ _ _
    replace hS := hS.u7
    refine end_in (vs := [.agg #[.slice ad Q.length c]]) trivial rfl (marks1 hS) ?_
    intro w hS
    refine ⟨⟨_, rfl, loadVar_agg [_] Try.isAgg61 Try.sizeOf61 rfl (CellsAt.rd ⟨(by repeat (first | exact .here rfl | apply CellAt.there)), trivial⟩ hS), trivial⟩, ad, c, Q, rfl, ?_, ?_⟩
    · rw [hQ, List.take_of_length_le (by rw [hq, len_mapv]; exact Nat.le_refl _)]; exact tellD_L hM
    ·
      replace hS := hS.sp1.drop
      replace hS := hS.sp1.drop
      replace hS := hS.sp1.drop
      replace hS := (hS.u4).drop
      replace hS := hS.u3.u3.u4.u5.u5
      replace hS := hS.u2
      replace hS := p_rack hq hs hS
      replace hS := hS.u3.u2.u3
      replace hS := seen_mk hM hS
      replace hS := hS.u3.u3
      exact hS
  · intro D c pre w hp hS
    exact hS.botA.elim
end Go.Proofs.Ytpnigaoibhogfaa
