/- YtpnigaoibhogfaaR13: a part of the proof: walks over the translated code, and plain facts on lists beside. -/
import Derived.Test.YtpnigaoibhogfaaR1s
import Derived.Test.YtpnigaoibhogfaaSlPT
set_option linter.all false
namespace Go.Proofs.Ytpnigaoibhogfaa
open Go Go.RowKit Go.Sl
set_option linter.unusedVariables false
theorem GetA_sc {w0 w : World} {R A : HProp} {rb : Nat} {q : PT ByteArray Nat} (hA : RkR E_sc A rb q) (hs : Srt O_sc q.toList) (k : ByteArray) (hS : Sat w0 (A * R) w) :
    Calls Try.prog 64 #[.pointer (some ⟨rb, 0, none⟩), E_sc.k k] w (ret fun u w' => u = getV E_sc (.pointer none) (Go.Sl.get O_sc k q.toList) ∧ Sat w0 (A * R) w') := by
  replace hS := hS.noblks
  refine enterF (args := [_, _]) Try.func64 rfl Try.ntmps64 rfl rfl ?_
  refine F_seq ?_
  refine F_region (p := ⟨_, [0, 0], []⟩) rfl [0, 1] rfl ?_
  refine O_assign rfl rfl rfl rfl rfl ?_
  refine O_assign rfl rfl rfl rfl rfl ?_
  refine R_nil ?_
  refine tn ?_
  refine F_seq ?_
  refine F_seq ?_
  refine F_region (p := ⟨_, [0, 0, 0, 1, 0], []⟩) rfl [0, 1, 2, 3, 4] rfl ?_
  refine O_move rfl rfl rfl rfl rfl ?_
  refine O_nilCheck rfl rfl rfl rfl rfl ?_
  refine O_fieldAddr rfl rfl rfl rfl rfl Try.runUnderlying127 rfl Try.sizeOf125 ?_
  refine O_load rfl rfl rfl rfl rfl Try.isAgg125 ((hA _ _ _ (hS.u2)).1.2) (by trivial) ?_
  refine O_assign rfl rfl rfl rfl rfl ?_
  refine R_nil ?_
  refine tn ?_
  refine F_block ?_
  refine F_loopK (α := PT ByteArray Nat) [(0, _), (1, _)] (fun (x : PT ByteArray Nat) => [(6, (.pointer x.p))]) (fun (x : PT ByteArray Nat) => hemp) (fun (x : PT ByteArray Nat) => RdT E_sc A x ∧ Go.Sl.get O_sc k x.toList = Go.Sl.get O_sc k q.toList ∧ Srt O_sc x.toList) (fun (x : PT ByteArray Nat) => x.sz) (q) (Sup.app ⟨rfl, rfl, trivial⟩ ⟨rfl, trivial⟩) (hS.to (hemp_star _).symm) ⟨hA.t, rfl, hs⟩ ?_
  clear hS
  intro x w hI hS
  replace hS := hS.to (hemp_star _)
  cases x with
  | leaf =>
    refine wpF.sup (L := [(0, _), (1, _), (6, _)]) ?_ ⟨rfl, rfl, rfl, trivial⟩
    refine F_seq ?_
    refine F_seq ?_
    refine F_region (p := ⟨_, [0, 0], []⟩) rfl [0, 1] rfl ?_
    refine O_move rfl rfl rfl rfl rfl ?_
    refine O_neNil rfl rfl rfl rfl rfl rfl Try.runUnderlying125 ?_
    refine R_nil ?_
    refine tn ?_
    refine F_false rfl rfl ?_
    refine F_exit ?_
    refine tx ?_
    refine tx ?_
    refine Go.Sl.bx rfl ?_
    refine tn ?_
    refine F_seq ?_
    refine F_region (p := ⟨_, [0], []⟩) rfl [0] rfl ?_
    refine O_assign rfl rfl rfl rfl rfl ?_
    refine R_nil ?_
    refine tn ?_
    refine F_seq ?_
    refine F_region (p := ⟨_, [0, 0, 0], []⟩) rfl [0, 1, 2] rfl ?_
    refine O_move rfl rfl rfl rfl rfl ?_
    refine O_assign rfl rfl rfl rfl rfl ?_
    refine O_assign rfl rfl rfl rfl rfl ?_
    refine R_nil ?_
    refine tn ?_
    refine F_ret ?_
    show endF _ _ _ _ _ _
    refine end0 trivial rfl rfl rfl hS ?_
    intro w hS
    replace hS := (hS).drop
    refine ⟨?_, hS⟩
    rw [← hI.2.1]; rfl
  | node b l k0 v0 r =>
    obtain ⟨hT, hg, hs'⟩ := hI
    have hI := And.intro hT trivial
    simp only [PT.toList, PT.t, T.toList] at hg hs'
    obtain ⟨s1, s2, s3, s4⟩ := srt_left hs'
    cases e1 : O_sc.lt k k0 with
    | true =>
      have hc : cmpv O_sc k k0 = -1 := by simp [cmpv, e1]
      refine wpF.sup (L := [(0, _), (1, _), (6, _)]) ?_ ⟨rfl, rfl, rfl, trivial⟩
      refine F_seq ?_
      refine F_seq ?_
      refine F_region (p := ⟨_, [0, 0], []⟩) rfl [0, 1] rfl ?_
      refine O_move rfl rfl rfl rfl rfl ?_
      refine O_neNil rfl rfl rfl rfl rfl rfl Try.runUnderlying125 ?_
      refine R_nil ?_
      refine tn ?_
      refine F_true rfl rfl ?_
      refine F_skip ?_
      refine tn ?_
      refine F_block ?_
      refine F_seq ?_
      refine F_drawnS hS (by kernel_rfl) (p := ⟨_, [0, 0, 0, 1, 0, 0, 0, 0, 1, 2, 0], []⟩) rfl (.ofList [0, 1, 2, 3, 4, 5, 6, 7, 8, 9, 10]) (by kernel_rfl) ?_
      intro w hS
      refine O_move rfl rfl rfl rfl rfl ?_
      refine O_nilCheck rfl rfl rfl rfl rfl ?_
      refine O_fieldAddr rfl rfl rfl rfl rfl Try.runUnderlying127 rfl Try.sizeOf92 ?_
      refine O_load rfl rfl rfl rfl rfl Try.isAgg92 ((hA _ _ _ (hS.u2)).1.1) (by trivial) ?_
      refine O_move rfl rfl rfl rfl rfl ?_
      refine O_move rfl rfl rfl rfl rfl ?_
      refine O_nilCheck rfl rfl rfl rfl rfl ?_
      refine O_fieldAddr rfl rfl rfl rfl rfl Try.runUnderlying144 rfl Try.sizeOf9 ?_
      refine O_load rfl rfl rfl rfl rfl Try.isAgg9 ((hI.1 _ _ _ (hS.u2)).1) (by trivial) ?_
      refine O_callv rfl rfl rfl rfl rfl rfl (cmp_sc k k0 (hS)) (fun _ _ hv => trivial) ?_
      rintro _ w ⟨rfl, hS⟩
      refine O_assign rfl rfl rfl rfl rfl ?_
      refine R_nil ?_
      refine tn ?_
      refine F_seq ?_
      refine F_seq ?_
      refine F_region (p := ⟨_, [0, 0], []⟩) rfl [0, 1] rfl ?_
      refine O_move rfl rfl rfl rfl rfl ?_
      refine O_cmp rfl rfl rfl rfl rfl rfl rfl ?_
      refine R_nil ?_
      refine tn ?_
      refine F_false rfl (decide_eq_false (by omega)) ?_
      refine F_skip ?_
      refine tn ?_
      refine F_seq ?_
      refine F_region (p := ⟨_, [0, 0], []⟩) rfl [0, 1] rfl ?_
      refine O_move rfl rfl rfl rfl rfl ?_
      refine O_cmp rfl rfl rfl rfl rfl rfl rfl ?_
      refine R_nil ?_
      refine tn ?_
      refine F_true rfl (decide_eq_true (by omega)) ?_
      refine F_region (p := ⟨_, [0, 0, 0, 1, 0], []⟩) rfl [0, 1, 2, 3, 4] rfl ?_
      refine O_move rfl rfl rfl rfl rfl ?_
      refine O_nilCheck rfl rfl rfl rfl rfl ?_
      refine O_fieldAddr rfl rfl rfl rfl rfl Try.runUnderlying144 rfl Try.sizeOf125 ?_
      refine O_load rfl rfl rfl rfl rfl Try.isAgg125 ((hI.1 _ _ _ (hS.u2)).2.2.1) (by trivial) ?_
      refine O_assign rfl rfl rfl rfl rfl ?_
      refine R_nil ?_
      refine bn ?_
      replace hS := hS.u2.u2
      refine tn ⟨rfl, rfl, l, Sup.app ⟨rfl, rfl, trivial⟩ ⟨rfl, trivial⟩, ⟨⟨hT.l, Eq.trans (by rw [get_lt e1]; rfl) hg, s1⟩, hS.to (hemp_star _).symm⟩, (by simp only [PT.sz]; omega)⟩
    | false =>
      cases e2 : O_sc.lt k0 k with
      | true =>
        have hc : cmpv O_sc k k0 = 1 := by simp [cmpv, e1, e2]
        refine wpF.sup (L := [(0, _), (1, _), (6, _)]) ?_ ⟨rfl, rfl, rfl, trivial⟩
        refine F_seq ?_
        refine F_seq ?_
        refine F_region (p := ⟨_, [0, 0], []⟩) rfl [0, 1] rfl ?_
        refine O_move rfl rfl rfl rfl rfl ?_
        refine O_neNil rfl rfl rfl rfl rfl rfl Try.runUnderlying125 ?_
        refine R_nil ?_
        refine tn ?_
        refine F_true rfl rfl ?_
        refine F_skip ?_
        refine tn ?_
        refine F_block ?_
        refine F_seq ?_
        refine F_drawnS hS (by kernel_rfl) (p := ⟨_, [0, 0, 0, 1, 0, 0, 0, 0, 1, 2, 0], []⟩) rfl (.ofList [0, 1, 2, 3, 4, 5, 6, 7, 8, 9, 10]) (by kernel_rfl) ?_
        intro w hS
        refine O_move rfl rfl rfl rfl rfl ?_
        refine O_nilCheck rfl rfl rfl rfl rfl ?_
        refine O_fieldAddr rfl rfl rfl rfl rfl Try.runUnderlying127 rfl Try.sizeOf92 ?_
        refine O_load rfl rfl rfl rfl rfl Try.isAgg92 ((hA _ _ _ (hS.u2)).1.1) (by trivial) ?_
        refine O_move rfl rfl rfl rfl rfl ?_
        refine O_move rfl rfl rfl rfl rfl ?_
        refine O_nilCheck rfl rfl rfl rfl rfl ?_
        refine O_fieldAddr rfl rfl rfl rfl rfl Try.runUnderlying144 rfl Try.sizeOf9 ?_
        refine O_load rfl rfl rfl rfl rfl Try.isAgg9 ((hI.1 _ _ _ (hS.u2)).1) (by trivial) ?_
        refine O_callv rfl rfl rfl rfl rfl rfl (cmp_sc k k0 (hS)) (fun _ _ hv => trivial) ?_
        rintro _ w ⟨rfl, hS⟩
        refine O_assign rfl rfl rfl rfl rfl ?_
        refine R_nil ?_
        refine tn ?_
        refine F_seq ?_
        refine F_seq ?_
        refine F_region (p := ⟨_, [0, 0], []⟩) rfl [0, 1] rfl ?_
        refine O_move rfl rfl rfl rfl rfl ?_
        refine O_cmp rfl rfl rfl rfl rfl rfl rfl ?_
        refine R_nil ?_
        refine tn ?_
        refine F_false rfl (decide_eq_false (by omega)) ?_
        refine F_skip ?_
        refine tn ?_
        refine F_seq ?_
        refine F_region (p := ⟨_, [0, 0], []⟩) rfl [0, 1] rfl ?_
        refine O_move rfl rfl rfl rfl rfl ?_
        refine O_cmp rfl rfl rfl rfl rfl rfl rfl ?_
        refine R_nil ?_
        refine tn ?_
        refine F_false rfl (decide_eq_false (by omega)) ?_
        refine F_region (p := ⟨_, [0, 0, 0, 1, 0], []⟩) rfl [0, 1, 2, 3, 4] rfl ?_
        refine O_move rfl rfl rfl rfl rfl ?_
        refine O_nilCheck rfl rfl rfl rfl rfl ?_
        refine O_fieldAddr rfl rfl rfl rfl rfl Try.runUnderlying144 rfl Try.sizeOf125 ?_
        refine O_load rfl rfl rfl rfl rfl Try.isAgg125 ((hI.1 _ _ _ (hS.u2)).2.2.2.1) (by trivial) ?_
        refine O_assign rfl rfl rfl rfl rfl ?_
        refine R_nil ?_
        refine bn ?_
        replace hS := hS.u2.u2
        refine tn ⟨rfl, rfl, r, Sup.app ⟨rfl, rfl, trivial⟩ ⟨rfl, trivial⟩, ⟨⟨hT.r, Eq.trans (by rw [get_gt_ e2 s3]; rfl) hg, s2⟩, hS.to (hemp_star _).symm⟩, (by simp only [PT.sz]; omega)⟩
      | false =>
        have hc : cmpv O_sc k k0 = 0 := by simp [cmpv, e1, e2]
        refine wpF.sup (L := [(0, _), (1, _), (6, _)]) ?_ ⟨rfl, rfl, rfl, trivial⟩
        refine F_seq ?_
        refine F_seq ?_
        refine F_region (p := ⟨_, [0, 0], []⟩) rfl [0, 1] rfl ?_
        refine O_move rfl rfl rfl rfl rfl ?_
        refine O_neNil rfl rfl rfl rfl rfl rfl Try.runUnderlying125 ?_
        refine R_nil ?_
        refine tn ?_
        refine F_true rfl rfl ?_
        refine F_skip ?_
        refine tn ?_
        refine F_block ?_
        refine F_seq ?_
        refine F_drawnS hS (by kernel_rfl) (p := ⟨_, [0, 0, 0, 1, 0, 0, 0, 0, 1, 2, 0], []⟩) rfl (.ofList [0, 1, 2, 3, 4, 5, 6, 7, 8, 9, 10]) (by kernel_rfl) ?_
        intro w hS
        refine O_move rfl rfl rfl rfl rfl ?_
        refine O_nilCheck rfl rfl rfl rfl rfl ?_
        refine O_fieldAddr rfl rfl rfl rfl rfl Try.runUnderlying127 rfl Try.sizeOf92 ?_
        refine O_load rfl rfl rfl rfl rfl Try.isAgg92 ((hA _ _ _ (hS.u2)).1.1) (by trivial) ?_
        refine O_move rfl rfl rfl rfl rfl ?_
        refine O_move rfl rfl rfl rfl rfl ?_
        refine O_nilCheck rfl rfl rfl rfl rfl ?_
        refine O_fieldAddr rfl rfl rfl rfl rfl Try.runUnderlying144 rfl Try.sizeOf9 ?_
        refine O_load rfl rfl rfl rfl rfl Try.isAgg9 ((hI.1 _ _ _ (hS.u2)).1) (by trivial) ?_
        refine O_callv rfl rfl rfl rfl rfl rfl (cmp_sc k k0 (hS)) (fun _ _ hv => trivial) ?_
        rintro _ w ⟨rfl, hS⟩
        refine O_assign rfl rfl rfl rfl rfl ?_
        refine R_nil ?_
        refine tn ?_
        refine F_seq ?_
        refine F_seq ?_
        refine F_region (p := ⟨_, [0, 0], []⟩) rfl [0, 1] rfl ?_
        refine O_move rfl rfl rfl rfl rfl ?_
        refine O_cmp rfl rfl rfl rfl rfl rfl rfl ?_
        refine R_nil ?_
        refine tn ?_
        refine F_true rfl (decide_eq_true (by omega)) ?_
        refine F_seq ?_
        refine F_region (p := ⟨_, [0, 0, 0, 1, 0, 0], []⟩) rfl [0, 1, 2, 3, 4, 5] rfl ?_
        refine O_move rfl rfl rfl rfl rfl ?_
        refine O_nilCheck rfl rfl rfl rfl rfl ?_
        refine O_fieldAddr rfl rfl rfl rfl rfl Try.runUnderlying144 rfl Try.sizeOf91 ?_
        refine O_load rfl rfl rfl rfl rfl Try.isAgg91 ((hI.1 _ _ _ (hS.u2)).2.1) (by trivial) ?_
        refine O_assign rfl rfl rfl rfl rfl ?_
        refine O_assign rfl rfl rfl rfl rfl ?_
        refine R_nil ?_
        refine tn ?_
        refine F_ret ?_
        refine tr ?_
        refine br ?_
        refine tr ?_
        refine br ?_
        refine tr ?_
        show endF _ _ _ _ _ _
        refine end0 trivial rfl rfl rfl hS ?_
        intro w hS
        replace hS := (hS).drop
        refine ⟨?_, hS⟩
        refine Eq.trans ?_ (congrArg (getV E_sc (.pointer none)) hg); rw [get_eq e1 e2 s3]; rfl
theorem upA_sc {w0 : World} {A : HProp} {y : Value} {J Jx : List (ByteArray × Nat) → HProp} {xs : List (ByteArray × Nat)}
    (hy : ∀ pre x post R w, xs = pre ++ x :: post → Sat w0 (A * (J pre * R)) w → FV Try.prog y [E_sc.k x.1, E_sc.v x.2].toArray w (fun r w' => (r = .bool true ∧ Sat w0 (A * (J (pre ++ [x]) * R)) w') ∨ (r = .bool false ∧ Sat w0 (A * (Jx (pre ++ [x]) * R)) w')))
    (q : PT ByteArray Nat) : ∀ {w : World} {R : HProp} {pre post : List (ByteArray × Nat)} (hA : RdT E_sc A q) (hx : xs = pre ++ (q.toList ++ post)) (hS : Sat w0 (A * (J pre * R)) w),
    Calls Try.prog 80 #[.pointer q.p, .func (.func 81) #[] #[], y] w (ret fun u w' => (u = .bool true ∧ Sat w0 (A * (J (pre ++ q.toList) * R)) w') ∨ (u = .bool false ∧ ∃ p, p <+: q.toList ∧ Sat w0 (A * (Jx (pre ++ p) * R)) w')) := by
  induction q with
  | leaf =>
    intro w R pre post hA hx hS
    replace hS := hS.noblks
    refine enterF (args := [_, _, _]) Try.func80 rfl Try.ntmps80 rfl rfl ?_
    refine F_seq ?_
    refine F_region (p := ⟨_, [0], []⟩) rfl [0] rfl ?_
    refine O_assign rfl rfl rfl rfl rfl ?_
    refine R_nil ?_
    refine tn ?_
    refine F_seq ?_
    refine F_seq ?_
    refine F_region (p := ⟨_, [0, 0], []⟩) rfl [0, 1] rfl ?_
    refine O_move rfl rfl rfl rfl rfl ?_
    refine O_eqNil rfl rfl rfl rfl rfl rfl Try.runUnderlying125 ?_
    refine R_nil ?_
    refine tn ?_
    refine F_true rfl rfl ?_
    refine F_seq ?_
    refine F_region (p := ⟨_, [0], []⟩) rfl [0] rfl ?_
    refine O_assign rfl rfl rfl rfl rfl ?_
    refine R_nil ?_
    refine tn ?_
    refine F_ret ?_
    refine tr ?_
    show endF _ _ _ _ _ _
    refine end0 trivial rfl rfl rfl hS ?_
    intro w hS
    replace hS := (hS).drop
    replace hS := hS.u2.u2
    exact .inl ⟨rfl, by simpa [PT.toList, PT.t, T.toList] using hS⟩
  | node b l k v r ihl ihr =>
    intro w R pre post hA hx hS
    simp only [PT.toList, PT.t, T.toList, List.append_assoc, List.cons_append] at hx ihl ihr ⊢
    replace hS := hS.noblks
    refine enterF (args := [_, _, _]) Try.func80 rfl Try.ntmps80 rfl rfl ?_
    refine F_seq ?_
    refine F_region (p := ⟨_, [0], []⟩) rfl [0] rfl ?_
    refine O_assign rfl rfl rfl rfl rfl ?_
    refine R_nil ?_
    refine tn ?_
    refine F_seq ?_
    refine F_seq ?_
    refine F_region (p := ⟨_, [0, 0], []⟩) rfl [0, 1] rfl ?_
    refine O_move rfl rfl rfl rfl rfl ?_
    refine O_eqNil rfl rfl rfl rfl rfl rfl Try.runUnderlying125 ?_
    refine R_nil ?_
    refine tn ?_
    refine F_false rfl rfl ?_
    refine F_skip ?_
    refine tn ?_
    refine F_seq ?_
    refine F_seq ?_
    refine F_region (p := ⟨_, [0, 0, 0, 0, 1, 2], []⟩) rfl [0, 1, 2, 3, 4, 5] rfl ?_
    refine O_move rfl rfl rfl rfl rfl ?_
    refine O_move rfl rfl rfl rfl rfl ?_
    refine O_nilCheck rfl rfl rfl rfl rfl ?_
    refine O_fieldAddr rfl rfl rfl rfl rfl Try.runUnderlying144 rfl Try.sizeOf9 ?_
    refine O_load rfl rfl rfl rfl rfl Try.isAgg9 ((hA _ _ _ (hS.u2)).1) (by trivial) ?_
    refine O_callv rfl rfl rfl rfl rfl rfl (ahead_sc k (hS)) (fun _ _ hv => trivial) ?_
    rintro _ w ⟨rfl, hS⟩
    refine R_nil ?_
    refine tn ?_
    refine F_false rfl rfl ?_
    refine F_skip ?_
    refine tn ?_
    refine F_seq ?_
    refine F_drawnS hS (by kernel_rfl) (p := ⟨_, [0, 0, 0, 1, 0, 0, 2, 0, 0, 0, 0, 0, 1, 0, 0, 0, 1, 2, 0, 0, 0, 0, 0, 1, 0, 0, 2, 0, 0], []⟩) rfl (.ofList [0, 1, 2, 3, 4, 5, 6, 7, 8, 9, 10, 11, 12, 13, 14, 15, 16, 17, 18, 19, 20, 21, 22, 23, 24, 25, 26, 27, 28]) (by kernel_rfl) ?_
    intro w hS
    refine O_move rfl rfl rfl rfl rfl ?_
    refine O_nilCheck rfl rfl rfl rfl rfl ?_
    refine O_fieldAddr rfl rfl rfl rfl rfl Try.runUnderlying144 rfl Try.sizeOf125 ?_
    refine O_load rfl rfl rfl rfl rfl Try.isAgg125 ((hA _ _ _ (hS.u2)).2.2.1) (by trivial) ?_
    refine O_move rfl rfl rfl rfl rfl ?_
    refine O_move rfl rfl rfl rfl rfl ?_
    refine O_call rfl rfl rfl rfl Try.call80 rfl (ihl (post := (k, v) :: (r.t.toList ++ post)) hA.l hx (hS.u3.u3)) (fun _ _ hv => trivial) ?_
    rintro _ w (⟨rfl, hS⟩ | ⟨rfl, q, hq, hS⟩)
    · replace hS := hS.u3
      refine O_move rfl rfl rfl rfl rfl ?_
      refine O_move rfl rfl rfl rfl rfl ?_
      refine O_move rfl rfl rfl rfl rfl ?_
      refine O_nilCheck rfl rfl rfl rfl rfl ?_
      refine O_fieldAddr rfl rfl rfl rfl rfl Try.runUnderlying144 rfl Try.sizeOf9 ?_
      refine O_load rfl rfl rfl rfl rfl Try.isAgg9 ((hA _ _ _ (hS.u2)).1) (by trivial) ?_
      refine O_move rfl rfl rfl rfl rfl ?_
      refine O_nilCheck rfl rfl rfl rfl rfl ?_
      refine O_fieldAddr rfl rfl rfl rfl rfl Try.runUnderlying144 rfl Try.sizeOf91 ?_
      refine O_load rfl rfl rfl rfl rfl Try.isAgg91 ((hA _ _ _ (hS.u2)).2.1) (by trivial) ?_
      refine O_callv rfl rfl rfl rfl rfl rfl (hy (pre ++ l.t.toList) (k, v) (r.t.toList ++ post) _ _ (by simpa using hx) (hS.u3.u3)) (fun _ _ hv => trivial) ?_
      rintro _ w (⟨rfl, hS⟩ | ⟨rfl, hS⟩)
      · replace hS := hS.u3
        refine O_pickT rfl rfl rfl rfl rfl rfl ?_
        refine O_move rfl rfl rfl rfl rfl ?_
        refine O_move rfl rfl rfl rfl rfl ?_
        refine O_nilCheck rfl rfl rfl rfl rfl ?_
        refine O_fieldAddr rfl rfl rfl rfl rfl Try.runUnderlying144 rfl Try.sizeOf125 ?_
        refine O_load rfl rfl rfl rfl rfl Try.isAgg125 ((hA _ _ _ (hS.u2)).2.2.2.1) (by trivial) ?_
        refine O_move rfl rfl rfl rfl rfl ?_
        refine O_move rfl rfl rfl rfl rfl ?_
        refine O_call rfl rfl rfl rfl Try.call80 rfl (ihr (pre := pre ++ l.t.toList ++ [(k, v)]) (post := post) hA.r (by simpa using hx) (hS.u3.u3)) (fun _ _ hv => trivial) ?_
        rintro _ w (⟨rfl, hS⟩ | ⟨rfl, q, hq, hS⟩)
        · replace hS := hS.u3
          refine O_pickT rfl rfl rfl rfl rfl rfl ?_
          refine O_assign rfl rfl rfl rfl rfl ?_
          refine R_nil ?_
          refine tn ?_
          refine F_ret ?_
          show endF _ _ _ _ _ _
          refine end0 trivial rfl rfl rfl hS ?_
          intro w hS
          replace hS := (hS).drop
          replace hS := hS.u2.u2
          exact .inl ⟨rfl, by simpa [List.append_assoc] using hS⟩
        · replace hS := hS.u3
          refine O_pickT rfl rfl rfl rfl rfl rfl ?_
          refine O_assign rfl rfl rfl rfl rfl ?_
          refine R_nil ?_
          refine tn ?_
          refine F_ret ?_
          show endF _ _ _ _ _ _
          refine end0 trivial rfl rfl rfl hS ?_
          intro w hS
          replace hS := (hS).drop
          replace hS := hS.u2.u2
          obtain ⟨z, hz⟩ := hq
          exact .inr ⟨rfl, l.t.toList ++ (k, v) :: q, ⟨z, by simp [← hz]⟩, by simpa [List.append_assoc] using hS⟩
      · replace hS := hS.u3
        refine O_pickT rfl rfl rfl rfl rfl rfl ?_
        refine O_move rfl rfl rfl rfl rfl ?_
        refine R_skip rfl rfl rfl rfl ?_
        refine R_skip rfl rfl rfl rfl ?_
        refine R_skip rfl rfl rfl rfl ?_
        refine R_skip rfl rfl rfl rfl ?_
        refine R_skip rfl rfl rfl rfl ?_
        refine R_skip rfl rfl rfl rfl ?_
        refine R_skip rfl rfl rfl rfl ?_
        refine O_pickF rfl rfl rfl rfl rfl rfl ?_
        refine O_assign rfl rfl rfl rfl rfl ?_
        refine R_nil ?_
        refine tn ?_
        refine F_ret ?_
        show endF _ _ _ _ _ _
        refine end0 trivial rfl rfl rfl hS ?_
        intro w hS
        replace hS := (hS).drop
        replace hS := hS.u2.u2
        exact .inr ⟨rfl, l.t.toList ++ [(k, v)], ⟨r.t.toList, by simp⟩, by simpa [List.append_assoc] using hS⟩
    · replace hS := hS.u3
      refine O_move rfl rfl rfl rfl rfl ?_
      refine R_skip rfl rfl rfl rfl ?_
      refine R_skip rfl rfl rfl rfl ?_
      refine R_skip rfl rfl rfl rfl ?_
      refine R_skip rfl rfl rfl rfl ?_
      refine R_skip rfl rfl rfl rfl ?_
      refine R_skip rfl rfl rfl rfl ?_
      refine R_skip rfl rfl rfl rfl ?_
      refine R_skip rfl rfl rfl rfl ?_
      refine R_skip rfl rfl rfl rfl ?_
      refine R_skip rfl rfl rfl rfl ?_
      refine O_pickF rfl rfl rfl rfl rfl rfl ?_
      refine O_move rfl rfl rfl rfl rfl ?_
      refine R_skip rfl rfl rfl rfl ?_
      refine R_skip rfl rfl rfl rfl ?_
      refine R_skip rfl rfl rfl rfl ?_
      refine R_skip rfl rfl rfl rfl ?_
      refine R_skip rfl rfl rfl rfl ?_
      refine R_skip rfl rfl rfl rfl ?_
      refine R_skip rfl rfl rfl rfl ?_
      refine O_pickF rfl rfl rfl rfl rfl rfl ?_
      refine O_assign rfl rfl rfl rfl rfl ?_
      refine R_nil ?_
      refine tn ?_
      refine F_ret ?_
      show endF _ _ _ _ _ _
      refine end0 trivial rfl rfl rfl hS ?_
      intro w hS
      replace hS := (hS).drop
      replace hS := hS.u2.u2
      exact .inr ⟨rfl, q, hq.trans (by simp), hS⟩
theorem allA_sc_iter {rb bx : Nat} {A : HProp} {q : PT ByteArray Nat} (hA : RkR E_sc A rb q) : IterA Try.prog (.func (.func 79) #[] #[.pointer (some ⟨bx, 0, none⟩)]) A (pt bx (.cells #[.pointer (some ⟨rb, 0, none⟩)] 89)) (fun x => [E_sc.k x.1, E_sc.v x.2].toArray) q.toList := by
  intro w0 y J Jx hyf hy R w hS
  obtain ⟨yn, ya, yc, rfl⟩ := hyf
  refine FV.of_list (args := [.func yn ya yc]) (cap := [.pointer (some ⟨bx, 0, none⟩)]) Try.call79 ?_
  replace hS : Sat w0 (blks [(bx, .cells #[.pointer (some ⟨rb, 0, none⟩)] 89 (0, 0))] * (A * (J [] * R))) w := hS.to (by simp only [blks]; ac_rfl)
  refine enterF (args := [_, _]) Try.func79 rfl Try.ntmps79 rfl rfl ?_
  refine F_region (p := ⟨_, [1, 0, 0, 1, 0, 2], []⟩) rfl [0, 1, 2, 3, 4, 5] rfl ?_
  refine O_loadS hS rfl rfl rfl rfl rfl Try.isAgg89 (by repeat (first | exact .here rfl | apply CellAt.there)) (by trivial) ?_
  refine O_nilCheck rfl rfl rfl rfl rfl ?_
  refine O_fieldAddr rfl rfl rfl rfl rfl Try.runUnderlying127 rfl Try.sizeOf125 ?_
  refine O_load rfl rfl rfl rfl rfl Try.isAgg125 ((hA _ _ _ (hS.u2)).1.2) (by trivial) ?_
  refine O_move rfl rfl rfl rfl rfl ?_
  refine O_call rfl rfl rfl rfl Try.call80 rfl (upA_sc (xs := q.toList) hy q (pre := []) (post := []) hA.t (by simp) (hS.u3.u3)) (fun _ _ hv => trivial) ?_
  rintro _ w (⟨rfl, hS⟩ | ⟨rfl, p, hp, hS⟩)
  · replace hS := hS.u3
    refine R_nil ?_
    show endF _ _ _ _ _ _
    refine end0 trivial rfl rfl rfl hS ?_
    intro w hS
    replace hS := hS.u3.u3.u3
    exact .inl (hS.to (by simp only [blks, List.nil_append]; ac_rfl))
  · replace hS := hS.u3
    refine R_nil ?_
    show endF _ _ _ _ _ _
    refine end0 trivial rfl rfl rfl hS ?_
    intro w hS
    replace hS := hS.u3.u3.u3
    exact .inr ⟨p, hp, hS.to (by simp only [blks, List.nil_append]; ac_rfl)⟩
end Go.Proofs.Ytpnigaoibhogfaa
