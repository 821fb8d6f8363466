/- YtpnigaoibhogfaaR3: a part of the proof: walks over the translated code, and plain facts on lists beside. -/
import Derived.Test.YtpnigaoibhogfaaProg
import Derived.Test.YtpnigaoibhogfaaSlSack
import Derived.KernelRfl
set_option linter.all false
namespace Go.Proofs.Ytpnigaoibhogfaa
open Go Go.RowKit Go.Sl
set_option linter.unusedVariables false
abbrev eI (n : Int) : Value := .int .i64 n
theorem info_i : (Try.prog.info? 3).map (fun i => (i.zero, i.size, i.bytes)) = some (some (.int .i64 0), 1, 8) := by kernel_rfl
theorem appendSeq_i {w0 w : World} {R It : HProp} {gf : Nat} {first lb : Array Value} {xs : List Int} (eg : ∀ args w, (callFunc gf args).run Try.prog w = .ok (.enter gf args) w) (hit : Iter Try.prog (.func (.func gf) first lb) It (fun x => [eI x].toArray) xs)
    (hb : xs.length * 8 ≤ 140737488355328) (hS : Sat w0 (It * R) w) : Calls Try.prog 69 #[.slice none 0 0, .func (.func gf) first lb] w (ret fun u w' => Sat w0 (It * (sl 3 1 u (xs).length ((xs).map eI) * R)) w') := by
  replace hS := hS.noblks
  refine enterF (args := [_, _]) Try.func69 rfl Try.ntmps69 rfl rfl ?_
  refine F_seq ?_
  refine F_region (p := ⟨_, [2, 0], []⟩) rfl [0, 1] rfl ?_
  refine O_boxS hS rfl rfl rfl rfl rfl (fun _ _ hv => trivial) ?_
  intro b1 w hS
  refine O_assign rfl rfl rfl rfl rfl ?_
  refine R_nil ?_
  refine tn ?_
  refine F_seq ?_
  refine F_seq ?_
  refine F_region (p := ⟨_, [0], []⟩) rfl [0] rfl ?_
  refine O_move rfl rfl rfl rfl rfl ?_
  refine R_nil ?_
  refine tn ?_
  refine F_block ?_
  replace hS : Sat w0 (blks [(b1, .cells #[.slice none 0 0] 28 (0, 0))] * (It * R)) w := hS
  refine F_range (gf := gf) (first := first) (lb := lb) rfl eg (fun x => [eI x]) hit [7] rfl (fun _ => rfl) rfl (fun pre => hex fun v => blks [(b1, .cells #[v] 28 (0, 0))] * sl 3 1 v (pre).length ((pre).map eI)) (fun _ _ => hbot) (R0 := R) (w0 := w0) ?_ ?_ ?_ ?_
  · exact ((Sat.mkex (f := fun v => blks [(b1, .cells #[v] 28 (0, 0))] * sl 3 1 v (([] : List Int)).length ((([] : List Int)).map eI)) (.slice none 0 0) ((sl_nil (e := 3) (size := 1) hS).to (by simp only [List.length_nil, List.map_nil]; ac_rfl)) : Sat w0 ((hex fun v => blks [(b1, .cells #[v] 28 (0, 0))] * sl 3 1 v (([] : List Int)).length ((([] : List Int)).map eI)) * (It * R)) w)).to (by ac_rfl)
  · clear hS
    intro l pre x post R w hx hS
    have hlt : pre.length + 1 ≤ xs.length := by rw [hx, List.length_append, List.length_cons]; omega
    refine F_region (p := ⟨_, [0], []⟩) rfl [0] rfl ?_
    refine O_assign rfl rfl rfl rfl rfl ?_
    refine R_nil ?_
    refine tn ⟨_, hS, ?_⟩
    clear hS
    intro R w hS
    obtain ⟨v, hS⟩ := hS.ex
    replace hS : Sat w0 (sl 3 1 v (pre).length ((pre).map eI) * (blks [(b1, .cells #[v] 28 (0, 0))] * R)) w := hS.to (by ac_rfl)
    obtain ⟨ad, cap, rfl, hle, hcap, _⟩ := sl_form hS
    replace hS := hS.b2
    refine F_block ?_
    refine F_region (p := ⟨_, [1, 0, 2, 2, 2], []⟩) rfl [0, 1, 2, 3, 4] rfl ?_
    refine O_loadS hS rfl rfl rfl rfl rfl Try.isAgg28 (by repeat (first | exact .here rfl | apply CellAt.there)) (by trivial) ?_
    refine O_move rfl rfl rfl rfl rfl ?_
    refine O_sliceLit hS rfl rfl rfl rfl Try.runUnderlying28 Try.sizeOf3 Try.zeroValue3 rfl (by decide) rfl rfl rfl (cs := [_]) rfl rfl (fun _ _ _ => trivial) ?_
    intro bt w hS
    have hrd := sl_rd hS
    replace hS : Sat w0 (sl 3 1 (.slice ad pre.length cap) (pre).length ((pre).map eI) * (blks [(b1, .cells #[.slice ad pre.length cap] 28 (0, 0))] * (sl 3 1 (.slice (some ⟨bt, 0, none⟩) 1 1) 1 [eI x] * R))) w := hS.to (by ac_rfl)
    refine O_append (m := 1) (news := [eI x]) hS rfl rfl rfl rfl Try.underlying28 info_i rfl (by decide) rfl rfl rfl (by simp) hrd (by simp [Value.oneCell']) (by simp only [maxLen]; omega) (by omega) (fun _ _ _ => trivial) ?_
    intro v' w _ hS
    obtain ⟨ad', cap', rfl, hle', hcap', _⟩ := sl_form hS
    replace hS : Sat w0 (blks [(b1, .cells #[.slice ad pre.length cap] 28 (0, 0))] * (sl 3 1 (.slice ad' (pre.length + 1) cap') (pre.length + 1) (pre.map eI ++ [eI x]) * (sl 3 1 (.slice (some ⟨bt, 0, none⟩) 1 1) 1 [eI x] * R))) w := hS.to (by ac_rfl)
    replace hS : Sat w0 (blks [(b1, .cells #[.slice ad pre.length cap] 28 (0, 0))] * (sl 3 1 (.slice ad' (pre.length + 1) cap') (pre.length + 1) (pre.map eI ++ [eI x]) * R)) w := Sat.drop (A := sl 3 1 (.slice (some ⟨bt, 0, none⟩) 1 1) 1 [eI x]) (hS.to (by ac_rfl))
    refine O_storeS hS rfl rfl rfl rfl rfl rfl rfl Try.sizeOf28 (by repeat (first | exact .here rfl rfl | apply SetAt.there)) (fun w' hv => trivial) ?_
    intro w hS
    refine R_nil ?_
    refine bn ?_
    show Sat w0 ((hex fun v => blks [(b1, .cells #[v] 28 (0, 0))] * sl 3 1 v ((pre ++ [x])).length (((pre ++ [x])).map eI)) * R) w
    have h2 : Sat w0 (blks [(b1, .cells #[.slice ad' (pre.length + 1) cap'] 28 (0, 0))] * (sl 3 1 (.slice ad' (pre.length + 1) cap') (pre.length + 1) (pre.map eI ++ [eI x]) * R)) w := hS
    refine Sat.mkex (.slice ad' (pre.length + 1) cap') (h2.to ?_)
    simp only [List.map_append, List.map_cons, List.map_nil, List.length_append, List.length_cons, List.length_nil]; ac_rfl
  · clear hS
    intro D w hS
    replace hS : Sat w0 ((hex fun v => blks [(b1, .cells #[v] 28 (0, 0))] * sl 3 1 v (xs).length ((xs).map eI)) * (pt D (.deferred (some [])) * (It * R))) w := hS.to (by ac_rfl)
    obtain ⟨v, hS⟩ := hS.ex
    replace hS : Sat w0 (sl 3 1 v (xs).length ((xs).map eI) * (blks [(b1, .cells #[v] 28 (0, 0))] * (pt D (.deferred (some [])) * (It * R)))) w := hS.to (by ac_rfl)
    obtain ⟨ad, cap, rfl, hle, hcap, _⟩ := sl_form hS
    replace hS := hS.b2
    refine bn ?_
    refine tn ?_
    refine F_seq ?_
    refine F_region (p := ⟨_, [1, 0], []⟩) rfl [0, 1] rfl ?_
    refine O_loadS hS rfl rfl rfl rfl rfl Try.isAgg28 (by repeat (first | exact .here rfl | apply CellAt.there)) (by trivial) ?_
    refine O_assign rfl rfl rfl rfl rfl ?_
    refine R_nil ?_
    refine tn ?_
    refine F_ret ?_
    show endF _ _ _ _ _ _
    refine end_sl (A := It * (sl 3 1 (.slice ad xs.length cap) (xs).length ((xs).map eI) * R)) trivial rfl rfl ?_ (fun w' h => h)
    exact marks1 (D := D) (Sat.drop (A := blks [(b1, .cells #[.slice ad xs.length cap] 28 (0, 0))]) (hS.to (by ac_rfl)))
  · intro D c pre w hp hS
    exact hS.bot.elim
theorem collect_i {w0 w : World} {R It : HProp} {gf : Nat} {first lb : Array Value} {xs : List Int} (eg : ∀ args w, (callFunc gf args).run Try.prog w = .ok (.enter gf args) w) (hit : Iter Try.prog (.func (.func gf) first lb) It (fun x => [eI x].toArray) xs)
    (hb : xs.length * 8 ≤ 140737488355328) (hS : Sat w0 (It * R) w) : Calls Try.prog 42 #[.func (.func gf) first lb] w (ret fun u w' => Sat w0 (It * (sl 3 1 u (xs).length ((xs).map eI) * R)) w') := by
  refine enterF (args := [_]) Try.func42 rfl Try.ntmps42 rfl rfl ?_
  refine F_seq ?_
  refine F_region (p := ⟨_, [0], []⟩) rfl [0] rfl ?_
  refine O_assign rfl rfl rfl rfl rfl ?_
  refine R_nil ?_
  refine tn ?_
  refine F_seq ?_
  refine F_region (p := ⟨_, [0, 2, 0], []⟩) rfl [0, 1, 2] rfl ?_
  refine O_move rfl rfl rfl rfl rfl ?_
  refine O_call rfl rfl rfl rfl Try.call69 rfl (appendSeq_i eg hit hb hS) (fun _ _ hv => trivial) ?_
  rintro _ w hS
  refine O_assign rfl rfl rfl rfl rfl ?_
  refine R_nil ?_
  refine tn ?_
  refine F_ret ?_
  show endF _ _ _ _ _ _
  refine end0 trivial rfl rfl rfl hS ?_
  intro w hS
  exact hS
end Go.Proofs.Ytpnigaoibhogfaa
