/- YtpnigaoibhogfaaDoorV3: a part of the proof: walks over the translated code, and plain facts on lists beside. -/
import Derived.Test.YtpnigaoibhogfaaDoorProg
import Derived.Test.YtpnigaoibhogfaaDoorSlSack
import Derived.KernelRfl
set_option linter.all false
namespace Go.Proofs.YtpnigaoibhogfaaDoor
open Go Go.RowKit Go.Sl
set_option linter.unusedVariables false
abbrev eI (n : Int) : Value := .int .i64 n
abbrev eS (s : ByteArray) : Value := .string s
theorem info_i : (Tryd.prog.info? 3).map (fun i => (i.zero, i.size, i.bytes)) = some (some (.int .i64 0), 1, 8) := by kernel_rfl
theorem appendSeq_i {w0 w : World} {R It : HProp} {gf : Nat} {first lb : Array Value} {xs : List Int} (eg : ∀ args w, (callFunc gf args).run Tryd.prog w = .ok (.enter gf args) w) (hit : Iter Tryd.prog (.func (.func gf) first lb) It (fun x => [eI x].toArray) xs)
    (hb : xs.length * 8 ≤ 140737488355328) (hS : Sat w0 (It * R) w) : Calls Tryd.prog 67 #[.slice none 0 0, .func (.func gf) first lb] w (ret fun u w' => Sat w0 (It * (sl 3 1 u (xs).length ((xs).map eI) * R)) w') := by
  replace hS := hS.noblks
  refine enterF (args := [_, _]) Tryd.func67 rfl Tryd.ntmps67 rfl rfl ?_
  refine F_seq ?_
  refine F_region (p := ⟨_, [2, 0], []⟩) rfl [0, 1] rfl ?_
  refine O_boxS hS rfl rfl rfl rfl rfl (fun _ _ hv => trivial) ?_
  intro b1 w hS
  refine O_assign rfl rfl rfl rfl rfl ?_
  refine R_nil ?_
  refine tn ?_
  refine F_seq ?_
  refine F_seq ?_
  refine F_region (p := ⟨_, [0], []⟩) rfl [0] rfl ?_
  refine O_move rfl rfl rfl rfl rfl ?_
  refine R_nil ?_
  refine tn ?_
  refine F_block ?_
  replace hS : Sat w0 (blks [(b1, .cells #[.slice none 0 0] 43 (0, 0))] * (It * R)) w := hS
  refine F_range (gf := gf) (first := first) (lb := lb) rfl eg (fun x => [eI x]) hit [7] rfl (fun _ => rfl) rfl (fun pre => hex fun v => blks [(b1, .cells #[v] 43 (0, 0))] * sl 3 1 v (pre).length ((pre).map eI)) (fun _ _ => hbot) (R0 := R) (w0 := w0) ?_ ?_ ?_ ?_
  · exact ((Sat.mkex (f := fun v => blks [(b1, .cells #[v] 43 (0, 0))] * sl 3 1 v (([] : List Int)).length ((([] : List Int)).map eI)) (.slice none 0 0) ((sl_nil (e := 3) (size := 1) hS).to (by simp only [List.length_nil, List.map_nil]; ac_rfl)) : Sat w0 ((hex fun v => blks [(b1, .cells #[v] 43 (0, 0))] * sl 3 1 v (([] : List Int)).length ((([] : List Int)).map eI)) * (It * R)) w)).to (by ac_rfl)
  · clear hS
    intro l pre x post R w hx hS
    have hlt : pre.length + 1 ≤ xs.length := by rw [hx, List.length_append, List.length_cons]; omega
    refine F_region (p := ⟨_, [0], []⟩) rfl [0] rfl ?_
    refine O_assign rfl rfl rfl rfl rfl ?_
    refine R_nil ?_
    refine tn ⟨_, hS, ?_⟩
    clear hS
    intro R w hS
    obtain ⟨v, hS⟩ := hS.ex
    replace hS : Sat w0 (sl 3 1 v (pre).length ((pre).map eI) * (blks [(b1, .cells #[v] 43 (0, 0))] * R)) w := hS.to (by ac_rfl)
    obtain ⟨ad, cap, rfl, hle, hcap, _⟩ := sl_form hS
    replace hS := hS.b2
    refine F_block ?_
    refine F_region (p := ⟨_, [1, 0, 2, 2, 2], []⟩) rfl [0, 1, 2, 3, 4] rfl ?_
    refine O_loadS hS rfl rfl rfl rfl rfl Tryd.isAgg43 (by repeat (first | exact .here rfl | apply CellAt.there)) (by trivial) ?_
    refine O_move rfl rfl rfl rfl rfl ?_
    refine O_sliceLit hS rfl rfl rfl rfl Tryd.runUnderlying43 Tryd.sizeOf3 Tryd.zeroValue3 rfl (by decide) rfl rfl rfl (cs := [_]) rfl rfl (fun _ _ _ => trivial) ?_
    intro bt w hS
    have hrd := sl_rd hS
    replace hS : Sat w0 (sl 3 1 (.slice ad pre.length cap) (pre).length ((pre).map eI) * (blks [(b1, .cells #[.slice ad pre.length cap] 43 (0, 0))] * (sl 3 1 (.slice (some ⟨bt, 0, none⟩) 1 1) 1 [eI x] * R))) w := hS.to (by ac_rfl)
    refine O_append (m := 1) (news := [eI x]) hS rfl rfl rfl rfl Tryd.underlying43 info_i rfl (by decide) rfl rfl rfl (by simp) hrd (by simp [Value.oneCell']) (by simp only [maxLen]; omega) (by omega) (fun _ _ _ => trivial) ?_
    intro v' w _ hS
    obtain ⟨ad', cap', rfl, hle', hcap', _⟩ := sl_form hS
    replace hS : Sat w0 (blks [(b1, .cells #[.slice ad pre.length cap] 43 (0, 0))] * (sl 3 1 (.slice ad' (pre.length + 1) cap') (pre.length + 1) (pre.map eI ++ [eI x]) * (sl 3 1 (.slice (some ⟨bt, 0, none⟩) 1 1) 1 [eI x] * R))) w := hS.to (by ac_rfl)
    replace hS : Sat w0 (blks [(b1, .cells #[.slice ad pre.length cap] 43 (0, 0))] * (sl 3 1 (.slice ad' (pre.length + 1) cap') (pre.length + 1) (pre.map eI ++ [eI x]) * R)) w := Sat.drop (A := sl 3 1 (.slice (some ⟨bt, 0, none⟩) 1 1) 1 [eI x]) (hS.to (by ac_rfl))
    refine O_storeS hS rfl rfl rfl rfl rfl rfl rfl Tryd.sizeOf43 (by repeat (first | exact .here rfl rfl | apply SetAt.there)) (fun w' hv => trivial) ?_
    intro w hS
    refine R_nil ?_
    refine bn ?_
    show Sat w0 ((hex fun v => blks [(b1, .cells #[v] 43 (0, 0))] * sl 3 1 v ((pre ++ [x])).length (((pre ++ [x])).map eI)) * R) w
    have h2 : Sat w0 (blks [(b1, .cells #[.slice ad' (pre.length + 1) cap'] 43 (0, 0))] * (sl 3 1 (.slice ad' (pre.length + 1) cap') (pre.length + 1) (pre.map eI ++ [eI x]) * R)) w := hS
    refine Sat.mkex (.slice ad' (pre.length + 1) cap') (h2.to ?_)
    simp only [List.map_append, List.map_cons, List.map_nil, List.length_append, List.length_cons, List.length_nil]; ac_rfl
  · clear hS
    intro D w hS
    replace hS : Sat w0 ((hex fun v => blks [(b1, .cells #[v] 43 (0, 0))] * sl 3 1 v (xs).length ((xs).map eI)) * (pt D (.deferred (some [])) * (It * R))) w := hS.to (by ac_rfl)
    obtain ⟨v, hS⟩ := hS.ex
    replace hS : Sat w0 (sl 3 1 v (xs).length ((xs).map eI) * (blks [(b1, .cells #[v] 43 (0, 0))] * (pt D (.deferred (some [])) * (It * R)))) w := hS.to (by ac_rfl)
    obtain ⟨ad, cap, rfl, hle, hcap, _⟩ := sl_form hS
    replace hS := hS.b2
    refine bn ?_
    refine tn ?_
    refine F_seq ?_
    refine F_region (p := ⟨_, [1, 0], []⟩) rfl [0, 1] rfl ?_
    refine O_loadS hS rfl rfl rfl rfl rfl Tryd.isAgg43 (by repeat (first | exact .here rfl | apply CellAt.there)) (by trivial) ?_
    refine O_assign rfl rfl rfl rfl rfl ?_
    refine R_nil ?_
    refine tn ?_
    refine F_ret ?_
    show endF _ _ _ _ _ _
    refine end_sl (A := It * (sl 3 1 (.slice ad xs.length cap) (xs).length ((xs).map eI) * R)) trivial rfl rfl ?_ (fun w' h => h)
    exact marks1 (D := D) (Sat.drop (A := blks [(b1, .cells #[.slice ad xs.length cap] 43 (0, 0))]) (hS.to (by ac_rfl)))
  · intro D c pre w hp hS
    exact hS.bot.elim
theorem collect_i {w0 w : World} {R It : HProp} {gf : Nat} {first lb : Array Value} {xs : List Int} (eg : ∀ args w, (callFunc gf args).run Tryd.prog w = .ok (.enter gf args) w) (hit : Iter Tryd.prog (.func (.func gf) first lb) It (fun x => [eI x].toArray) xs)
    (hb : xs.length * 8 ≤ 140737488355328) (hS : Sat w0 (It * R) w) : Calls Tryd.prog 42 #[.func (.func gf) first lb] w (ret fun u w' => Sat w0 (It * (sl 3 1 u (xs).length ((xs).map eI) * R)) w') := by
  refine enterF (args := [_]) Tryd.func42 rfl Tryd.ntmps42 rfl rfl ?_
  refine F_seq ?_
  refine F_region (p := ⟨_, [0], []⟩) rfl [0] rfl ?_
  refine O_assign rfl rfl rfl rfl rfl ?_
  refine R_nil ?_
  refine tn ?_
  refine F_seq ?_
  refine F_region (p := ⟨_, [0, 2, 0], []⟩) rfl [0, 1, 2] rfl ?_
  refine O_move rfl rfl rfl rfl rfl ?_
  refine O_call rfl rfl rfl rfl Tryd.call67 rfl (appendSeq_i eg hit hb hS) (fun _ _ hv => trivial) ?_
  rintro _ w hS
  refine O_assign rfl rfl rfl rfl rfl ?_
  refine R_nil ?_
  refine tn ?_
  refine F_ret ?_
  show endF _ _ _ _ _ _
  refine end0 trivial rfl rfl rfl hS ?_
  intro w hS
  exact hS
theorem info_s : (Tryd.prog.info? 9).map (fun i => (i.zero, i.size, i.bytes)) = some (some (.string ⟨#[]⟩), 1, 16) := by kernel_rfl
theorem appendSeq_s {w0 w : World} {R It : HProp} {gf : Nat} {first lb : Array Value} {xs : List ByteArray} (eg : ∀ args w, (callFunc gf args).run Tryd.prog w = .ok (.enter gf args) w) (hit : Iter Tryd.prog (.func (.func gf) first lb) It (fun x => [eS x].toArray) xs)
    (hb : xs.length * 16 ≤ 140737488355328) (hS : Sat w0 (It * R) w) : Calls Tryd.prog 69 #[.slice none 0 0, .func (.func gf) first lb] w (ret fun u w' => Sat w0 (It * (sl 9 1 u (xs).length ((xs).map eS) * R)) w') := by
  replace hS := hS.noblks
  refine enterF (args := [_, _]) Tryd.func69 rfl Tryd.ntmps69 rfl rfl ?_
  refine F_seq ?_
  refine F_region (p := ⟨_, [2, 0], []⟩) rfl [0, 1] rfl ?_
  refine O_boxS hS rfl rfl rfl rfl rfl (fun _ _ hv => trivial) ?_
  intro b1 w hS
  refine O_assign rfl rfl rfl rfl rfl ?_
  refine R_nil ?_
  refine tn ?_
  refine F_seq ?_
  refine F_seq ?_
  refine F_region (p := ⟨_, [0], []⟩) rfl [0] rfl ?_
  refine O_move rfl rfl rfl rfl rfl ?_
  refine R_nil ?_
  refine tn ?_
  refine F_block ?_
  replace hS : Sat w0 (blks [(b1, .cells #[.slice none 0 0] 44 (0, 0))] * (It * R)) w := hS
  refine F_range (gf := gf) (first := first) (lb := lb) rfl eg (fun x => [eS x]) hit [7] rfl (fun _ => rfl) rfl (fun pre => hex fun v => blks [(b1, .cells #[v] 44 (0, 0))] * sl 9 1 v (pre).length ((pre).map eS)) (fun _ _ => hbot) (R0 := R) (w0 := w0) ?_ ?_ ?_ ?_
  · exact ((Sat.mkex (f := fun v => blks [(b1, .cells #[v] 44 (0, 0))] * sl 9 1 v (([] : List ByteArray)).length ((([] : List ByteArray)).map eS)) (.slice none 0 0) ((sl_nil (e := 9) (size := 1) hS).to (by simp only [List.length_nil, List.map_nil]; ac_rfl)) : Sat w0 ((hex fun v => blks [(b1, .cells #[v] 44 (0, 0))] * sl 9 1 v (([] : List ByteArray)).length ((([] : List ByteArray)).map eS)) * (It * R)) w)).to (by ac_rfl)
  · clear hS
    intro l pre x post R w hx hS
    have hlt : pre.length + 1 ≤ xs.length := by rw [hx, List.length_append, List.length_cons]; omega
    refine F_region (p := ⟨_, [0], []⟩) rfl [0] rfl ?_
    refine O_assign rfl rfl rfl rfl rfl ?_
    refine R_nil ?_
    refine tn ⟨_, hS, ?_⟩
    clear hS
    intro R w hS
    obtain ⟨v, hS⟩ := hS.ex
    replace hS : Sat w0 (sl 9 1 v (pre).length ((pre).map eS) * (blks [(b1, .cells #[v] 44 (0, 0))] * R)) w := hS.to (by ac_rfl)
    obtain ⟨ad, cap, rfl, hle, hcap, _⟩ := sl_form hS
    replace hS := hS.b2
    refine F_block ?_
    refine F_region (p := ⟨_, [1, 0, 2, 2, 2], []⟩) rfl [0, 1, 2, 3, 4] rfl ?_
    refine O_loadS hS rfl rfl rfl rfl rfl Tryd.isAgg44 (by repeat (first | exact .here rfl | apply CellAt.there)) (by trivial) ?_
    refine O_move rfl rfl rfl rfl rfl ?_
    refine O_sliceLit hS rfl rfl rfl rfl Tryd.runUnderlying44 Tryd.sizeOf9 Tryd.zeroValue9 rfl (by decide) rfl rfl rfl (cs := [_]) rfl rfl (fun _ _ _ => trivial) ?_
    intro bt w hS
    have hrd := sl_rd hS
    replace hS : Sat w0 (sl 9 1 (.slice ad pre.length cap) (pre).length ((pre).map eS) * (blks [(b1, .cells #[.slice ad pre.length cap] 44 (0, 0))] * (sl 9 1 (.slice (some ⟨bt, 0, none⟩) 1 1) 1 [eS x] * R))) w := hS.to (by ac_rfl)
    refine O_append (m := 1) (news := [eS x]) hS rfl rfl rfl rfl Tryd.underlying44 info_s rfl (by decide) rfl rfl rfl (by simp) hrd (by simp [Value.oneCell']) (by simp only [maxLen]; omega) (by omega) (fun _ _ _ => trivial) ?_
    intro v' w _ hS
    obtain ⟨ad', cap', rfl, hle', hcap', _⟩ := sl_form hS
    replace hS : Sat w0 (blks [(b1, .cells #[.slice ad pre.length cap] 44 (0, 0))] * (sl 9 1 (.slice ad' (pre.length + 1) cap') (pre.length + 1) (pre.map eS ++ [eS x]) * (sl 9 1 (.slice (some ⟨bt, 0, none⟩) 1 1) 1 [eS x] * R))) w := hS.to (by ac_rfl)
    replace hS : Sat w0 (blks [(b1, .cells #[.slice ad pre.length cap] 44 (0, 0))] * (sl 9 1 (.slice ad' (pre.length + 1) cap') (pre.length + 1) (pre.map eS ++ [eS x]) * R)) w := Sat.drop (A := sl 9 1 (.slice (some ⟨bt, 0, none⟩) 1 1) 1 [eS x]) (hS.to (by ac_rfl))
    refine O_storeS hS rfl rfl rfl rfl rfl rfl rfl Tryd.sizeOf44 (by repeat (first | exact .here rfl rfl | apply SetAt.there)) (fun w' hv => trivial) ?_
    intro w hS
    refine R_nil ?_
    refine bn ?_
    show Sat w0 ((hex fun v => blks [(b1, .cells #[v] 44 (0, 0))] * sl 9 1 v ((pre ++ [x])).length (((pre ++ [x])).map eS)) * R) w
    have h2 : Sat w0 (blks [(b1, .cells #[.slice ad' (pre.length + 1) cap'] 44 (0, 0))] * (sl 9 1 (.slice ad' (pre.length + 1) cap') (pre.length + 1) (pre.map eS ++ [eS x]) * R)) w := hS
    refine Sat.mkex (.slice ad' (pre.length + 1) cap') (h2.to ?_)
    simp only [List.map_append, List.map_cons, List.map_nil, List.length_append, List.length_cons, List.length_nil]; ac_rfl
  · clear hS
    intro D w hS
    replace hS : Sat w0 ((hex fun v => blks [(b1, .cells #[v] 44 (0, 0))] * sl 9 1 v (xs).length ((xs).map eS)) * (pt D (.deferred (some [])) * (It * R))) w := hS.to (by ac_rfl)
    obtain ⟨v, hS⟩ := hS.ex
    replace hS : Sat w0 (sl 9 1 v (xs).length ((xs).map eS) * (blks [(b1, .cells #[v] 44 (0, 0))] * (pt D (.deferred (some [])) * (It * R)))) w := hS.to (by ac_rfl)
    obtain ⟨ad, cap, rfl, hle, hcap, _⟩ := sl_form hS
    replace hS := hS.b2
    refine bn ?_
    refine tn ?_
    refine F_seq ?_
    refine F_region (p := ⟨_, [1, 0], []⟩) rfl [0, 1] rfl ?_
    refine O_loadS hS rfl rfl rfl rfl rfl Tryd.isAgg44 (by repeat (first | exact .here rfl | apply CellAt.there)) (by trivial) ?_
    refine O_assign rfl rfl rfl rfl rfl ?_
    refine R_nil ?_
    refine tn ?_
    refine F_ret ?_
    show endF _ _ _ _ _ _
    refine end_sl (A := It * (sl 9 1 (.slice ad xs.length cap) (xs).length ((xs).map eS) * R)) trivial rfl rfl ?_ (fun w' h => h)
    exact marks1 (D := D) (Sat.drop (A := blks [(b1, .cells #[.slice ad xs.length cap] 44 (0, 0))]) (hS.to (by ac_rfl)))
  · intro D c pre w hp hS
    exact hS.bot.elim
theorem collect_s {w0 w : World} {R It : HProp} {gf : Nat} {first lb : Array Value} {xs : List ByteArray} (eg : ∀ args w, (callFunc gf args).run Tryd.prog w = .ok (.enter gf args) w) (hit : Iter Tryd.prog (.func (.func gf) first lb) It (fun x => [eS x].toArray) xs)
    (hb : xs.length * 16 ≤ 140737488355328) (hS : Sat w0 (It * R) w) : Calls Tryd.prog 44 #[.func (.func gf) first lb] w (ret fun u w' => Sat w0 (It * (sl 9 1 u (xs).length ((xs).map eS) * R)) w') := by
  refine enterF (args := [_]) Tryd.func44 rfl Tryd.ntmps44 rfl rfl ?_
  refine F_seq ?_
  refine F_region (p := ⟨_, [0], []⟩) rfl [0] rfl ?_
  refine O_assign rfl rfl rfl rfl rfl ?_
  refine R_nil ?_
  refine tn ?_
  refine F_seq ?_
  refine F_region (p := ⟨_, [0, 2, 0], []⟩) rfl [0, 1, 2] rfl ?_
  refine O_move rfl rfl rfl rfl rfl ?_
  refine O_call rfl rfl rfl rfl Tryd.call69 rfl (appendSeq_s eg hit hb hS) (fun _ _ hv => trivial) ?_
  rintro _ w hS
  refine O_assign rfl rfl rfl rfl rfl ?_
  refine R_nil ?_
  refine tn ?_
  refine F_ret ?_
  show endF _ _ _ _ _ _
  refine end0 trivial rfl rfl rfl hS ?_
  intro w hS
  exact hS
end Go.Proofs.YtpnigaoibhogfaaDoor
