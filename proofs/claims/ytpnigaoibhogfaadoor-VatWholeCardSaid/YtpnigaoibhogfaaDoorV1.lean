/- YtpnigaoibhogfaaDoorV1: a part of the proof: walks over the translated code, and plain facts on lists beside. -/
import Derived.Test.YtpnigaoibhogfaaDoorProg
import Derived.Test.YtpnigaoibhogfaaDoorSlRack
import Derived.Test.YtpnigaoibhogfaaDoorSlStr
import Derived.Test.YtpnigaoibhogfaaDoorSlX
import Derived.KernelRfl
set_option linter.all false
namespace Go.Proofs.YtpnigaoibhogfaaDoor
open Go Go.RowKit Go.Sl
set_option linter.unusedVariables false
abbrev E_ii : Enc Int Int := ⟨fun n => .int .i64 n, fun n => .int .i64 n, 153, 135, .func (.func 51) #[] #[]⟩
def O_ii : Lo Int := ⟨fun a b => decide (a < b), by simp, by simp; omega, by simp; omega⟩
theorem isnan_ii {w0 w : World} {A : HProp} {a : Int} (hS : Sat w0 A w) : Calls Tryd.prog 72 #[.int .i64 a] w (ret fun v w' => v = .bool false ∧ Sat w0 A w') := by
  refine enterF (args := [_]) Tryd.func72 rfl Tryd.ntmps72 rfl rfl ?_
  refine F_seq ?_
  refine F_region (p := ⟨_, [0], []⟩) rfl [0] rfl ?_
  refine O_assign rfl rfl rfl rfl rfl ?_
  refine R_nil ?_
  refine tn ?_
  refine F_seq ?_
  refine F_region (p := ⟨_, [0, 0, 0, 0], []⟩) rfl [0, 1, 2, 3] rfl ?_
  refine O_move rfl rfl rfl rfl rfl ?_
  refine O_move rfl rfl rfl rfl rfl ?_
  refine O_cmp rfl rfl rfl rfl rfl rfl rfl ?_
  refine O_assign rfl rfl rfl rfl rfl ?_
  refine R_nil ?_
  refine tn ?_
  refine F_ret ?_
  show endF _ _ _ _ _ _
  refine end0 trivial rfl rfl rfl hS ?_
  intro w hS
  exact ⟨by simp [oneRes], hS⟩
theorem compare_ii {w0 w : World} {A : HProp} (a b : Int) (hS : Sat w0 A w) : Calls Tryd.prog 51 #[.int .i64 a, .int .i64 b] w (ret fun v w' => v = .int .i64 (cmpv O_ii a b) ∧ Sat w0 A w') := by
  refine enterF (args := [_, _]) Tryd.func51 rfl Tryd.ntmps51 rfl rfl ?_
  refine F_seq ?_
  refine F_region (p := ⟨_, [0], []⟩) rfl [0] rfl ?_
  refine O_assign rfl rfl rfl rfl rfl ?_
  refine R_nil ?_
  refine tn ?_
  refine F_seq ?_
  refine F_region (p := ⟨_, [0, 2, 0], []⟩) rfl [0, 1, 2] rfl ?_
  refine O_move rfl rfl rfl rfl rfl ?_
  refine O_call rfl rfl rfl rfl Tryd.call72 rfl (isnan_ii hS) (fun _ _ hv => trivial) ?_
  rintro _ w ⟨rfl, hS⟩
  refine O_assign rfl rfl rfl rfl rfl ?_
  refine R_nil ?_
  refine tn ?_
  refine F_seq ?_
  refine F_region (p := ⟨_, [0, 2, 0], []⟩) rfl [0, 1, 2] rfl ?_
  refine O_move rfl rfl rfl rfl rfl ?_
  refine O_call rfl rfl rfl rfl Tryd.call72 rfl (isnan_ii hS) (fun _ _ hv => trivial) ?_
  rintro _ w ⟨rfl, hS⟩
  refine O_assign rfl rfl rfl rfl rfl ?_
  refine R_nil ?_
  refine tn ?_
  refine F_seq ?_
  refine F_seq ?_
  refine F_region (p := ⟨_, [0], []⟩) rfl [0] rfl ?_
  refine O_move rfl rfl rfl rfl rfl ?_
  refine R_nil ?_
  refine tn ?_
  refine F_false rfl rfl ?_
  refine F_skip ?_
  refine tn ?_
  refine F_seq ?_
  refine F_seq ?_
  refine F_region (p := ⟨_, [0], []⟩) rfl [0] rfl ?_
  refine O_move rfl rfl rfl rfl rfl ?_
  refine R_nil ?_
  refine tn ?_
  refine F_false rfl rfl ?_
  refine F_skip ?_
  refine tn ?_
  refine F_seq ?_
  refine F_seq ?_
  refine F_region (p := ⟨_, [0, 0, 0], []⟩) rfl [0, 1, 2] rfl ?_
  refine O_move rfl rfl rfl rfl rfl ?_
  refine O_move rfl rfl rfl rfl rfl ?_
  refine O_cmp rfl rfl rfl rfl rfl rfl rfl ?_
  refine R_nil ?_
  refine tn ?_
  refine F_cond rfl (fun hc52 => ?_) (fun hc52 => ?_)
  · try simp only [decide_eq_true_eq, decide_eq_false_iff_not, Bool.not_eq_true', Bool.not_eq_false', Bool.not_true, Bool.not_false, Option.isNone_iff_eq_none, Bool.false_eq_true, Bool.true_eq_false] at hc52
    refine F_seq ?_
    refine F_region (p := ⟨_, [0], []⟩) rfl [0] rfl ?_
    refine O_assign rfl rfl rfl rfl rfl ?_
    refine R_nil ?_
    refine tn ?_
    refine F_ret ?_
    refine tr ?_
    show endF _ _ _ _ _ _
    refine end0 trivial rfl rfl rfl hS ?_
    intro w hS
    exact ⟨by simp only [oneRes, cmpv, O_ii, decide_eq_true_eq]; split <;> (try split) <;> first | rfl | omega, hS⟩
  · try simp only [decide_eq_true_eq, decide_eq_false_iff_not, Bool.not_eq_true', Bool.not_eq_false', Bool.not_true, Bool.not_false, Option.isNone_iff_eq_none, Bool.false_eq_true, Bool.true_eq_false] at hc52
    refine F_skip ?_
    refine tn ?_
    refine F_seq ?_
    refine F_seq ?_
    refine F_region (p := ⟨_, [0, 0, 0], []⟩) rfl [0, 1, 2] rfl ?_
    refine O_move rfl rfl rfl rfl rfl ?_
    refine O_move rfl rfl rfl rfl rfl ?_
    refine O_cmp rfl rfl rfl rfl rfl rfl rfl ?_
    refine R_nil ?_
    refine tn ?_
    refine F_cond rfl (fun hc55 => ?_) (fun hc55 => ?_)
    · try simp only [decide_eq_true_eq, decide_eq_false_iff_not, Bool.not_eq_true', Bool.not_eq_false', Bool.not_true, Bool.not_false, Option.isNone_iff_eq_none, Bool.false_eq_true, Bool.true_eq_false] at hc55
      refine F_seq ?_
      refine F_region (p := ⟨_, [0], []⟩) rfl [0] rfl ?_
      refine O_assign rfl rfl rfl rfl rfl ?_
      refine R_nil ?_
      refine tn ?_
      refine F_ret ?_
      refine tr ?_
      show endF _ _ _ _ _ _
      refine end0 trivial rfl rfl rfl hS ?_
      intro w hS
      exact ⟨by simp only [oneRes, cmpv, O_ii, decide_eq_true_eq]; split <;> (try split) <;> first | rfl | omega, hS⟩
    · try simp only [decide_eq_true_eq, decide_eq_false_iff_not, Bool.not_eq_true', Bool.not_eq_false', Bool.not_true, Bool.not_false, Option.isNone_iff_eq_none, Bool.false_eq_true, Bool.true_eq_false] at hc55
      refine F_skip ?_
      refine tn ?_
      refine F_seq ?_
      refine F_region (p := ⟨_, [0], []⟩) rfl [0] rfl ?_
      refine O_assign rfl rfl rfl rfl rfl ?_
      refine R_nil ?_
      refine tn ?_
      refine F_ret ?_
      show endF _ _ _ _ _ _
      refine end0 trivial rfl rfl rfl hS ?_
      intro w hS
      exact ⟨by simp only [oneRes, cmpv, O_ii, decide_eq_true_eq]; split <;> (try split) <;> first | rfl | omega, hS⟩
theorem cmp_ii {w0 w : World} {A : HProp} (a b : Int) (hS : Sat w0 A w) : FV Tryd.prog E_ii.cv [E_ii.k a, E_ii.k b].toArray w (fun v w' => v = .int .i64 (cmpv O_ii a b) ∧ Sat w0 A w') :=
  FV.of_calls Tryd.call51 (by simpa using compare_ii a b hS)
theorem height_ii_nil {w0 w : World} {R : HProp} (hS : Sat w0 R w) : Calls Tryd.prog 93 #[.pointer none] w (ret fun v w' => v = .int .i64 0 ∧ Sat w0 R w') := by
  refine enterF (args := [_]) Tryd.func93 rfl Tryd.ntmps93 rfl rfl ?_
  refine F_seq ?_
  refine F_region (p := ⟨_, [0], []⟩) rfl [0] rfl ?_
  refine O_assign rfl rfl rfl rfl rfl ?_
  refine R_nil ?_
  refine tn ?_
  refine F_seq ?_
  refine F_seq ?_
  refine F_region (p := ⟨_, [0, 0], []⟩) rfl [0, 1] rfl ?_
  refine O_move rfl rfl rfl rfl rfl ?_
  refine O_eqNil rfl rfl rfl rfl rfl rfl Tryd.runUnderlying133 ?_
  refine R_nil ?_
  refine tn ?_
  refine F_true rfl rfl ?_
  refine F_seq ?_
  refine F_region (p := ⟨_, [0], []⟩) rfl [0] rfl ?_
  refine O_assign rfl rfl rfl rfl rfl ?_
  refine R_nil ?_
  refine tn ?_
  refine F_ret ?_
  refine tr ?_
  show endF _ _ _ _ _ _
  refine end0 trivial rfl rfl rfl hS ?_
  intro w hS
  exact ⟨rfl, hS⟩
theorem height_ii_at {w0 w : World} {R : HProp} {b : Nat} {x0 x1 x2 x3 : Value} {h m : Int} (hS : Sat w0 (blks [(b, .cells #[x0, x1, x2, x3, .int .i64 h, .int .i64 m] 153 (0, 0))] * R) w) :
    Calls Tryd.prog 93 #[.pointer (some ⟨b, 0, none⟩)] w (ret fun v w' => v = .int .i64 h ∧ Sat w0 (blks [(b, .cells #[x0, x1, x2, x3, .int .i64 h, .int .i64 m] 153 (0, 0))] * R) w') := by
  refine enterF (args := [_]) Tryd.func93 rfl Tryd.ntmps93 rfl rfl ?_
  refine F_seq ?_
  refine F_region (p := ⟨_, [0], []⟩) rfl [0] rfl ?_
  refine O_assign rfl rfl rfl rfl rfl ?_
  refine R_nil ?_
  refine tn ?_
  refine F_seq ?_
  refine F_seq ?_
  refine F_region (p := ⟨_, [0, 0], []⟩) rfl [0, 1] rfl ?_
  refine O_move rfl rfl rfl rfl rfl ?_
  refine O_eqNil rfl rfl rfl rfl rfl rfl Tryd.runUnderlying133 ?_
  refine R_nil ?_
  refine tn ?_
  refine F_false rfl rfl ?_
  refine F_skip ?_
  refine tn ?_
  refine F_seq ?_
  refine F_region (p := ⟨_, [0, 0, 0, 1, 0], []⟩) rfl [0, 1, 2, 3, 4] rfl ?_
  refine O_move rfl rfl rfl rfl rfl ?_
  refine O_nilCheck rfl rfl rfl rfl rfl ?_
  refine O_fieldAddr rfl rfl rfl rfl rfl Tryd.runUnderlying153 rfl Tryd.sizeOf3 ?_
  refine O_loadS hS rfl rfl rfl rfl rfl Tryd.isAgg3 (by repeat (first | exact .here rfl | apply CellAt.there)) (by trivial) ?_
  refine O_assign rfl rfl rfl rfl rfl ?_
  refine R_nil ?_
  refine tn ?_
  refine F_ret ?_
  show endF _ _ _ _ _ _
  refine end0 trivial rfl rfl rfl hS ?_
  intro w hS
  exact ⟨rfl, hS⟩
theorem size_ii_nil {w0 w : World} {R : HProp} (hS : Sat w0 R w) : Calls Tryd.prog 94 #[.pointer none] w (ret fun v w' => v = .int .i64 0 ∧ Sat w0 R w') := by
  refine enterF (args := [_]) Tryd.func94 rfl Tryd.ntmps94 rfl rfl ?_
  refine F_seq ?_
  refine F_region (p := ⟨_, [0], []⟩) rfl [0] rfl ?_
  refine O_assign rfl rfl rfl rfl rfl ?_
  refine R_nil ?_
  refine tn ?_
  refine F_seq ?_
  refine F_seq ?_
  refine F_region (p := ⟨_, [0, 0], []⟩) rfl [0, 1] rfl ?_
  refine O_move rfl rfl rfl rfl rfl ?_
  refine O_eqNil rfl rfl rfl rfl rfl rfl Tryd.runUnderlying133 ?_
  refine R_nil ?_
  refine tn ?_
  refine F_true rfl rfl ?_
  refine F_seq ?_
  refine F_region (p := ⟨_, [0], []⟩) rfl [0] rfl ?_
  refine O_assign rfl rfl rfl rfl rfl ?_
  refine R_nil ?_
  refine tn ?_
  refine F_ret ?_
  refine tr ?_
  show endF _ _ _ _ _ _
  refine end0 trivial rfl rfl rfl hS ?_
  intro w hS
  exact ⟨rfl, hS⟩
theorem size_ii_at {w0 w : World} {R : HProp} {b : Nat} {x0 x1 x2 x3 : Value} {h m : Int} (hS : Sat w0 (blks [(b, .cells #[x0, x1, x2, x3, .int .i64 h, .int .i64 m] 153 (0, 0))] * R) w) :
    Calls Tryd.prog 94 #[.pointer (some ⟨b, 0, none⟩)] w (ret fun v w' => v = .int .i64 m ∧ Sat w0 (blks [(b, .cells #[x0, x1, x2, x3, .int .i64 h, .int .i64 m] 153 (0, 0))] * R) w') := by
  refine enterF (args := [_]) Tryd.func94 rfl Tryd.ntmps94 rfl rfl ?_
  refine F_seq ?_
  refine F_region (p := ⟨_, [0], []⟩) rfl [0] rfl ?_
  refine O_assign rfl rfl rfl rfl rfl ?_
  refine R_nil ?_
  refine tn ?_
  refine F_seq ?_
  refine F_seq ?_
  refine F_region (p := ⟨_, [0, 0], []⟩) rfl [0, 1] rfl ?_
  refine O_move rfl rfl rfl rfl rfl ?_
  refine O_eqNil rfl rfl rfl rfl rfl rfl Tryd.runUnderlying133 ?_
  refine R_nil ?_
  refine tn ?_
  refine F_false rfl rfl ?_
  refine F_skip ?_
  refine tn ?_
  refine F_seq ?_
  refine F_region (p := ⟨_, [0, 0, 0, 1, 0], []⟩) rfl [0, 1, 2, 3, 4] rfl ?_
  refine O_move rfl rfl rfl rfl rfl ?_
  refine O_nilCheck rfl rfl rfl rfl rfl ?_
  refine O_fieldAddr rfl rfl rfl rfl rfl Tryd.runUnderlying153 rfl Tryd.sizeOf3 ?_
  refine O_loadS hS rfl rfl rfl rfl rfl Tryd.isAgg3 (by repeat (first | exact .here rfl | apply CellAt.there)) (by trivial) ?_
  refine O_assign rfl rfl rfl rfl rfl ?_
  refine R_nil ?_
  refine tn ?_
  refine F_ret ?_
  show endF _ _ _ _ _ _
  refine end0 trivial rfl rfl rfl hS ?_
  intro w hS
  exact ⟨rfl, hS⟩
/-- What stands at p, of this height and size. -/
def Ht_ii (A : HProp) (p : Option Addr) (h m : Int) : Prop := ∀ w0 R w, Sat w0 (A * R) w →
  Calls Tryd.prog 93 #[.pointer p] w (ret fun v w' => v = .int .i64 h ∧ Sat w0 (A * R) w') ∧ Calls Tryd.prog 94 #[.pointer p] w (ret fun v w' => v = .int .i64 m ∧ Sat w0 (A * R) w')
theorem ht_ii_at {A : HProp} {b : Nat} {x0 x1 x2 x3 : Value} {h m : Int} : Ht_ii (blks [(b, .cells #[x0, x1, x2, x3, .int .i64 h, .int .i64 m] 153 (0, 0))] * A) (some ⟨b, 0, none⟩) h m := fun w0 R w hS =>
  ⟨Calls.mono' (height_ii_at (hS.to (star_assoc _ _ _))) (fun e w' ⟨v, he, hv, hS⟩ => ⟨v, he, hv, hS.to (star_assoc _ _ _).symm⟩), Calls.mono' (size_ii_at (hS.to (star_assoc _ _ _))) (fun e w' ⟨v, he, hv, hS⟩ => ⟨v, he, hv, hS.to (star_assoc _ _ _).symm⟩)⟩
theorem ht_ii {p : Option Addr} {t : T _ _} : Ht_ii (tree E_ii p t) p t.h t.m := fun w0 R w hS => by
  cases t with
  | leaf =>
    obtain ⟨rfl, _⟩ := tree_leaf hS
    exact ⟨height_ii_nil hS, size_ii_nil hS⟩
  | node l k v r =>
    obtain ⟨b, pl, pr, rfl, hN⟩ := tree_node hS
    refine ⟨Calls.mono' (height_ii_at hN) ?_, Calls.mono' (size_ii_at hN) ?_⟩
    all_goals (rintro e w' ⟨v, he, hv, hS⟩; exact ⟨v, he, hv, tree_node_mk rfl rfl hS⟩)
theorem count_ii {w0 w : World} {A B R : HProp} {b : Nat} {pl pr : Option Addr} {x0 x1 x4 x5 : Value} {hl hr ml mr : Int} (hA : Ht_ii A pl hl ml) (hB : Ht_ii B pr hr mr)
    (b1 : 0 ≤ hl ∧ 0 ≤ hr ∧ 0 ≤ ml ∧ 0 ≤ mr ∧ hl ≤ ml ∧ hr ≤ mr ∧ ml + mr ≤ 4611686018427387904) (hS : Sat w0 (blks [(b, .cells #[x0, x1, .pointer pl, .pointer pr, x4, x5] 153 (0, 0))] * (A * (B * R))) w) :
    Calls Tryd.prog 83 #[.pointer (some ⟨b, 0, none⟩)] w (ret fun v w' => v = .pointer (some ⟨b, 0, none⟩) ∧ Sat w0 (blks [(b, .cells #[x0, x1, .pointer pl, .pointer pr, .int .i64 (1 + max hl hr), .int .i64 (1 + ml + mr)] 153 (0, 0))] * (A * (B * R))) w') := by
  refine enterF (args := [_]) Tryd.func83 rfl Tryd.ntmps83 rfl rfl ?_
  refine F_seq ?_
  refine F_region (p := ⟨_, [0], []⟩) rfl [0] rfl ?_
  refine O_assign rfl rfl rfl rfl rfl ?_
  refine R_nil ?_
  refine tn ?_
  refine F_seq ?_
  refine F_drawnS hS (by kernel_rfl) (p := ⟨_, [0, 0, 0, 0, 1, 2, 0, 0, 0, 1, 2, 0, 0, 0, 0, 2], [(5, 9)]⟩) rfl (.ofList [0, 1, 2, 3, 4, 5, 6, 7, 8, 9, 10, 11, 12, 13, 14, 15]) (by kernel_rfl) ?_
  intro w hS
  refine O_move rfl rfl rfl rfl rfl ?_
  refine O_move rfl rfl rfl rfl rfl ?_
  refine O_nilCheck rfl rfl rfl rfl rfl ?_
  refine O_fieldAddr rfl rfl rfl rfl rfl Tryd.runUnderlying153 rfl Tryd.sizeOf133 ?_
  refine O_loadS hS rfl rfl rfl rfl rfl Tryd.isAgg133 (by repeat (first | exact .here rfl | apply CellAt.there)) (by trivial) ?_
  have hS_5 := hS
  refine O_call rfl rfl rfl rfl Tryd.call93 rfl ((hA _ _ _ hS.b2).1) (fun _ _ hv => trivial) ?_
  rintro _ w ⟨rfl, hS⟩
  replace hS := hS.b2
  refine O_move rfl rfl rfl rfl rfl ?_
  refine O_nilCheck rfl rfl rfl rfl rfl ?_
  refine O_fieldAddr rfl rfl rfl rfl rfl Tryd.runUnderlying153 rfl Tryd.sizeOf133 ?_
  refine O_loadS hS rfl rfl rfl rfl rfl Tryd.isAgg133 (by repeat (first | exact .here rfl | apply CellAt.there)) (by exact ⟨CellAt.cell (by repeat (first | exact .here rfl | apply CellAt.there)) hS_5, trivial⟩) ?_
  refine O_call rfl rfl rfl rfl Tryd.call93 rfl ((hB _ _ _ hS.b3).1) (fun _ _ hv => ⟨trivial, trivial⟩) ?_
  rintro _ w ⟨rfl, hS⟩
  replace hS := hS.f3
  refine O_max2 rfl rfl rfl rfl rfl rfl ?_
  refine O_addN rfl rfl rfl rfl rfl rfl (by first | omega | (dsimp only; omega)) ?_
  refine O_nilCheck rfl rfl rfl rfl rfl ?_
  refine O_fieldAddr rfl rfl rfl rfl rfl Tryd.runUnderlying153 rfl Tryd.sizeOf3 ?_
  refine O_storeS hS rfl rfl rfl rfl rfl rfl rfl Tryd.sizeOf3 (by repeat (first | exact .here rfl rfl | apply SetAt.there)) (fun w' hv => ⟨trivial, trivial⟩) ?_
  intro w hS
  refine R_nil ?_
  refine tn ?_
  refine F_seq ?_
  refine F_drawnS hS (by kernel_rfl) (p := ⟨_, [0, 0, 0, 0, 1, 2, 0, 0, 0, 0, 1, 2, 0, 0, 0, 2], [(5, 10)]⟩) rfl (.ofList [0, 1, 2, 3, 4, 5, 6, 7, 8, 9, 10, 11, 12, 13, 14, 15]) (by kernel_rfl) ?_
  intro w hS
  refine O_move rfl rfl rfl rfl rfl ?_
  refine O_move rfl rfl rfl rfl rfl ?_
  refine O_nilCheck rfl rfl rfl rfl rfl ?_
  refine O_fieldAddr rfl rfl rfl rfl rfl Tryd.runUnderlying153 rfl Tryd.sizeOf133 ?_
  refine O_loadS hS rfl rfl rfl rfl rfl Tryd.isAgg133 (by repeat (first | exact .here rfl | apply CellAt.there)) (by trivial) ?_
  have hS_5 := hS
  refine O_call rfl rfl rfl rfl Tryd.call94 rfl ((hA _ _ _ hS.b2).2) (fun _ _ hv => trivial) ?_
  rintro _ w ⟨rfl, hS⟩
  replace hS := hS.b2
  refine O_addN rfl rfl rfl rfl rfl rfl (by first | omega | (dsimp only; omega)) ?_
  refine O_move rfl rfl rfl rfl rfl ?_
  refine O_nilCheck rfl rfl rfl rfl rfl ?_
  refine O_fieldAddr rfl rfl rfl rfl rfl Tryd.runUnderlying153 rfl Tryd.sizeOf133 ?_
  refine O_loadS hS rfl rfl rfl rfl rfl Tryd.isAgg133 (by repeat (first | exact .here rfl | apply CellAt.there)) (by exact ⟨CellAt.cell (by repeat (first | exact .here rfl | apply CellAt.there)) hS_5, trivial⟩) ?_
  refine O_call rfl rfl rfl rfl Tryd.call94 rfl ((hB _ _ _ hS.b3).2) (fun _ _ hv => ⟨trivial, trivial⟩) ?_
  rintro _ w ⟨rfl, hS⟩
  replace hS := hS.f3
  refine O_addN rfl rfl rfl rfl rfl rfl (by first | omega | (dsimp only; omega)) ?_
  refine O_nilCheck rfl rfl rfl rfl rfl ?_
  refine O_fieldAddr rfl rfl rfl rfl rfl Tryd.runUnderlying153 rfl Tryd.sizeOf3 ?_
  refine O_storeS hS rfl rfl rfl rfl rfl rfl rfl Tryd.sizeOf3 (by repeat (first | exact .here rfl rfl | apply SetAt.there)) (fun w' hv => ⟨trivial, trivial⟩) ?_
  intro w hS
  refine R_nil ?_
  refine tn ?_
  refine F_seq ?_
  refine F_region (p := ⟨_, [0, 0], []⟩) rfl [0, 1] rfl ?_
  refine O_move rfl rfl rfl rfl rfl ?_
  refine O_assign rfl rfl rfl rfl rfl ?_
  refine R_nil ?_
  refine tn ?_
  refine F_ret ?_
  show endF _ _ _ _ _ _
  refine end0 trivial rfl rfl rfl hS ?_
  intro w hS
  exact ⟨rfl, hS⟩
theorem toRight_ii {w0 w : World} {R : HProp} {b : Nat} {pc po : Option Addr} {k k' : _} {v v' : _} {x4 x5 : Value} {c1 c2 o : T _ _} (hm : c1.m + c2.m + o.m ≤ 4611686018427387000)
    (hS : Sat w0 (blks [(b, .cells #[E_ii.k k, E_ii.v v, .pointer pc, .pointer po, x4, x5] 153 (0, 0))] * (tree E_ii pc (.node c1 k' v' c2) * (tree E_ii po o * R))) w) :
    Calls Tryd.prog 96 #[.pointer (some ⟨b, 0, none⟩)] w (ret fun u w' => ∃ p', u = .pointer p' ∧ Sat w0 (tree E_ii p' (.node c1 k' v' (.node c2 k v o)) * R) w') := by
  have d1 := c1.bd
  have d2 := c2.bd
  have d3 := o.bd
  obtain ⟨bc, p1, p2, rfl, hS⟩ := tree_node hS.b2
  replace hS : Sat w0 (blks [(b, .cells #[E_ii.k k, E_ii.v v, .pointer (some ⟨bc, 0, none⟩), .pointer po, x4, x5] 153 (0, 0)), (bc, .cells #[E_ii.k k', E_ii.v v', .pointer p1, .pointer p2, .int .i64 (1 + max c1.h c2.h), .int .i64 (1 + c1.m + c2.m)] 153 (0, 0))] * (tree E_ii p1 c1 * (tree E_ii p2 c2 * (tree E_ii po o * R)))) w := hS.to (by simp only [blks]; ac_rfl)
  refine enterF (args := [_]) Tryd.func96 rfl Tryd.ntmps96 rfl rfl ?_
  refine F_seq ?_
  refine F_region (p := ⟨_, [0], []⟩) rfl [0] rfl ?_
  refine O_assign rfl rfl rfl rfl rfl ?_
  refine R_nil ?_
  refine tn ?_
  refine F_seq ?_
  refine F_region (p := ⟨_, [0, 0, 0, 1, 0], []⟩) rfl [0, 1, 2, 3, 4] rfl ?_
  refine O_move rfl rfl rfl rfl rfl ?_
  refine O_nilCheck rfl rfl rfl rfl rfl ?_
  refine O_fieldAddr rfl rfl rfl rfl rfl Tryd.runUnderlying153 rfl Tryd.sizeOf133 ?_
  refine O_loadS hS rfl rfl rfl rfl rfl Tryd.isAgg133 (by repeat (first | exact .here rfl | apply CellAt.there)) (by trivial) ?_
  refine O_assign rfl rfl rfl rfl rfl ?_
  refine R_nil ?_
  refine tn ?_
  refine F_seq ?_
  refine F_drawnS hS (by kernel_rfl) (p := ⟨_, [0, 0, 0, 0, 0, 1, 0, 2, 0, 0, 2, 0, 0, 2], [(5, 7)]⟩) rfl (.ofList [0, 1, 2, 3, 4, 5, 6, 7, 8, 9, 10, 11, 12, 13]) (by kernel_rfl) ?_
  intro w hS
  refine O_move rfl rfl rfl rfl rfl ?_
  refine O_move rfl rfl rfl rfl rfl ?_
  refine O_move rfl rfl rfl rfl rfl ?_
  refine O_nilCheck rfl rfl rfl rfl rfl ?_
  refine O_fieldAddr rfl rfl rfl rfl rfl Tryd.runUnderlying153 rfl Tryd.sizeOf133 ?_
  refine O_loadS hS rfl rfl rfl rfl rfl Tryd.isAgg133 (by repeat (first | exact .here rfl | apply CellAt.there)) (by trivial) ?_
  refine O_move rfl rfl rfl rfl rfl ?_
  have hQ : Sat w0 (blks [(b, .cells #[E_ii.k k, E_ii.v v, .pointer (some ⟨bc, 0, none⟩), .pointer po, x4, x5] 153 (0, 0))] * ((blks [(bc, .cells #[E_ii.k k', E_ii.v v', .pointer p1, .pointer p2, .int .i64 (1 + max c1.h c2.h), .int .i64 (1 + c1.m + c2.m)] 153 (0, 0))] * (tree E_ii p1 c1 * tree E_ii p2 c2)) * (tree E_ii po o * R))) w := hS.to (by simp only [blks]; ac_rfl)
  have hS_7 := hS
  refine O_call rfl rfl rfl rfl Tryd.call83 rfl (count_ii ht_ii_at ht_ii (by omega) hQ) (fun _ _ hv => ⟨CellAt.cell (by repeat (first | exact .here rfl | apply CellAt.there)) (Sat.i2 hv.2), trivial⟩) ?_
  rintro _ w ⟨rfl, hS⟩
  replace hS : Sat w0 (blks [(b, .cells #[E_ii.k k, E_ii.v v, .pointer (some ⟨bc, 0, none⟩), .pointer po, .int .i64 (1 + max (1 + max c1.h c2.h) o.h), .int .i64 (1 + (1 + c1.m + c2.m) + o.m)] 153 (0, 0)), (bc, .cells #[E_ii.k k', E_ii.v v', .pointer p1, .pointer p2, .int .i64 (1 + max c1.h c2.h), .int .i64 (1 + c1.m + c2.m)] 153 (0, 0))] * (tree E_ii p1 c1 * (tree E_ii p2 c2 * (tree E_ii po o * R)))) w := hS.to (by simp only [blks]; ac_rfl)
  refine O_nilCheck rfl rfl rfl rfl rfl ?_
  refine O_fieldAddr rfl rfl rfl rfl rfl Tryd.runUnderlying153 rfl Tryd.sizeOf133 ?_
  refine O_storeS hS rfl rfl rfl rfl rfl rfl rfl Tryd.sizeOf133 (by repeat (first | exact .here rfl rfl | apply SetAt.there)) (fun w' hv => ⟨trivial, trivial⟩) ?_
  intro w hS
  refine O_nilCheck rfl rfl rfl rfl rfl ?_
  refine O_fieldAddr rfl rfl rfl rfl rfl Tryd.runUnderlying153 rfl Tryd.sizeOf133 ?_
  refine O_storeS hS rfl rfl rfl rfl rfl rfl rfl Tryd.sizeOf133 (by repeat (first | exact .here rfl rfl | apply SetAt.there)) (fun w' hv => ⟨trivial, trivial⟩) ?_
  intro w hS
  refine R_nil ?_
  refine tn ?_
  refine F_seq ?_
  refine F_region (p := ⟨_, [0, 2], []⟩) rfl [0, 1] rfl ?_
  refine O_move rfl rfl rfl rfl rfl ?_
  replace hS : Sat w0 (blks [(b, .cells #[E_ii.k k, E_ii.v v, .pointer p2, .pointer po, .int .i64 (1 + max (1 + max c1.h c2.h) o.h), .int .i64 (1 + (1 + c1.m + c2.m) + o.m)] 153 (0, 0)), (bc, .cells #[E_ii.k k', E_ii.v v', .pointer p1, .pointer (some ⟨b, 0, none⟩), .int .i64 (1 + max c1.h c2.h), .int .i64 (1 + c1.m + c2.m)] 153 (0, 0))] * (tree E_ii p1 c1 * (tree E_ii p2 c2 * (tree E_ii po o * R)))) w := hS
  replace hS : Sat w0 (blks [(b, .cells #[E_ii.k k, E_ii.v v, .pointer p2, .pointer po, .int .i64 (1 + max (1 + max c1.h c2.h) o.h), .int .i64 (1 + (1 + c1.m + c2.m) + o.m)] 153 (0, 0))] * (tree E_ii p2 c2 * (tree E_ii po o * (blks [(bc, .cells #[E_ii.k k', E_ii.v v', .pointer p1, .pointer (some ⟨b, 0, none⟩), .int .i64 (1 + max c1.h c2.h), .int .i64 (1 + c1.m + c2.m)] 153 (0, 0))] * (tree E_ii p1 c1 * R))))) w := hS.to (by simp only [blks]; ac_rfl)
  refine O_call rfl rfl rfl rfl Tryd.call83 rfl (count_ii ht_ii ht_ii (by omega) hS) (fun _ _ hv => trivial) ?_
  rintro _ w ⟨rfl, hS⟩
  replace hS : Sat w0 (blks [(bc, .cells #[E_ii.k k', E_ii.v v', .pointer p1, .pointer (some ⟨b, 0, none⟩), .int .i64 (1 + max c1.h c2.h), .int .i64 (1 + c1.m + c2.m)] 153 (0, 0))] * (tree E_ii p1 c1 * ((blks [(b, .cells #[E_ii.k k, E_ii.v v, .pointer p2, .pointer po, .int .i64 (1 + max c2.h o.h), .int .i64 (1 + c2.m + o.m)] 153 (0, 0))] * (tree E_ii p2 c2 * tree E_ii po o)) * R))) w := hS.to (by simp only [blks]; ac_rfl)
  refine R_nil ?_
  refine tn ?_
  refine F_seq ?_
  refine F_region (p := ⟨_, [0, 2, 0], []⟩) rfl [0, 1, 2] rfl ?_
  refine O_move rfl rfl rfl rfl rfl ?_
  refine O_call rfl rfl rfl rfl Tryd.call83 rfl (count_ii ht_ii ht_ii_at (by omega) hS) (fun _ _ hv => trivial) ?_
  rintro _ w ⟨rfl, hS⟩
  refine O_assign rfl rfl rfl rfl rfl ?_
  refine R_nil ?_
  refine tn ?_
  refine F_ret ?_
  show endF _ _ _ _ _ _
  refine end0 trivial rfl rfl rfl hS ?_
  intro w hS
  have hq : Sat w0 (blks [(b, .cells #[E_ii.k k, E_ii.v v, .pointer p2, .pointer po, .int .i64 (1 + max c2.h o.h), .int .i64 (1 + c2.m + o.m)] 153 (0, 0))] * (tree E_ii p2 c2 * (tree E_ii po o * (blks [(bc, .cells #[E_ii.k k', E_ii.v v', .pointer p1, .pointer (some ⟨b, 0, none⟩), .int .i64 (1 + max c1.h (1 + max c2.h o.h)), .int .i64 (1 + c1.m + (1 + c2.m + o.m))] 153 (0, 0))] * (tree E_ii p1 c1 * R))))) w := hS.to (by simp only [blks]; ac_rfl)
  have hq := tree_node_mk rfl rfl hq
  replace hq : Sat w0 (blks [(bc, .cells #[E_ii.k k', E_ii.v v', .pointer p1, .pointer (some ⟨b, 0, none⟩), .int .i64 (1 + max c1.h (1 + max c2.h o.h)), .int .i64 (1 + c1.m + (1 + c2.m + o.m))] 153 (0, 0))] * (tree E_ii p1 c1 * (tree E_ii (some ⟨b, 0, none⟩) (.node c2 k v o) * R))) w := hq.to (by ac_rfl)
  exact ⟨_, rfl, tree_node_mk rfl rfl hq⟩
theorem toLeft_ii {w0 w : World} {R : HProp} {b : Nat} {pc po : Option Addr} {k k' : _} {v v' : _} {x4 x5 : Value} {c1 c2 o : T _ _} (hm : c1.m + c2.m + o.m ≤ 4611686018427387000)
    (hS : Sat w0 (blks [(b, .cells #[E_ii.k k, E_ii.v v, .pointer po, .pointer pc, x4, x5] 153 (0, 0))] * (tree E_ii po o * (tree E_ii pc (.node c1 k' v' c2) * R))) w) :
    Calls Tryd.prog 95 #[.pointer (some ⟨b, 0, none⟩)] w (ret fun u w' => ∃ p', u = .pointer p' ∧ Sat w0 (tree E_ii p' (.node (.node o k v c1) k' v' c2) * R) w') := by
  have d1 := c1.bd
  have d2 := c2.bd
  have d3 := o.bd
  obtain ⟨bc, p1, p2, rfl, hS⟩ := tree_node hS.b3
  replace hS : Sat w0 (blks [(b, .cells #[E_ii.k k, E_ii.v v, .pointer po, .pointer (some ⟨bc, 0, none⟩), x4, x5] 153 (0, 0)), (bc, .cells #[E_ii.k k', E_ii.v v', .pointer p1, .pointer p2, .int .i64 (1 + max c1.h c2.h), .int .i64 (1 + c1.m + c2.m)] 153 (0, 0))] * (tree E_ii p1 c1 * (tree E_ii p2 c2 * (tree E_ii po o * R)))) w := hS.to (by simp only [blks]; ac_rfl)
  refine enterF (args := [_]) Tryd.func95 rfl Tryd.ntmps95 rfl rfl ?_
  refine F_seq ?_
  refine F_region (p := ⟨_, [0], []⟩) rfl [0] rfl ?_
  refine O_assign rfl rfl rfl rfl rfl ?_
  refine R_nil ?_
  refine tn ?_
  refine F_seq ?_
  refine F_region (p := ⟨_, [0, 0, 0, 1, 0], []⟩) rfl [0, 1, 2, 3, 4] rfl ?_
  refine O_move rfl rfl rfl rfl rfl ?_
  refine O_nilCheck rfl rfl rfl rfl rfl ?_
  refine O_fieldAddr rfl rfl rfl rfl rfl Tryd.runUnderlying153 rfl Tryd.sizeOf133 ?_
  refine O_loadS hS rfl rfl rfl rfl rfl Tryd.isAgg133 (by repeat (first | exact .here rfl | apply CellAt.there)) (by trivial) ?_
  refine O_assign rfl rfl rfl rfl rfl ?_
  refine R_nil ?_
  refine tn ?_
  refine F_seq ?_
  refine F_drawnS hS (by kernel_rfl) (p := ⟨_, [0, 0, 0, 0, 0, 1, 0, 2, 0, 0, 2, 0, 0, 2], [(5, 7)]⟩) rfl (.ofList [0, 1, 2, 3, 4, 5, 6, 7, 8, 9, 10, 11, 12, 13]) (by kernel_rfl) ?_
  intro w hS
  refine O_move rfl rfl rfl rfl rfl ?_
  refine O_move rfl rfl rfl rfl rfl ?_
  refine O_move rfl rfl rfl rfl rfl ?_
  refine O_nilCheck rfl rfl rfl rfl rfl ?_
  refine O_fieldAddr rfl rfl rfl rfl rfl Tryd.runUnderlying153 rfl Tryd.sizeOf133 ?_
  refine O_loadS hS rfl rfl rfl rfl rfl Tryd.isAgg133 (by repeat (first | exact .here rfl | apply CellAt.there)) (by trivial) ?_
  refine O_move rfl rfl rfl rfl rfl ?_
  have hQ : Sat w0 (blks [(b, .cells #[E_ii.k k, E_ii.v v, .pointer po, .pointer (some ⟨bc, 0, none⟩), x4, x5] 153 (0, 0))] * (tree E_ii po o * ((blks [(bc, .cells #[E_ii.k k', E_ii.v v', .pointer p1, .pointer p2, .int .i64 (1 + max c1.h c2.h), .int .i64 (1 + c1.m + c2.m)] 153 (0, 0))] * (tree E_ii p1 c1 * tree E_ii p2 c2)) * R))) w := hS.to (by simp only [blks]; ac_rfl)
  have hS_7 := hS
  refine O_call rfl rfl rfl rfl Tryd.call83 rfl (count_ii ht_ii ht_ii_at (by omega) hQ) (fun _ _ hv => ⟨CellAt.cell (by repeat (first | exact .here rfl | apply CellAt.there)) (Sat.i3 hv.2), trivial⟩) ?_
  rintro _ w ⟨rfl, hS⟩
  replace hS : Sat w0 (blks [(b, .cells #[E_ii.k k, E_ii.v v, .pointer po, .pointer (some ⟨bc, 0, none⟩), .int .i64 (1 + max o.h (1 + max c1.h c2.h)), .int .i64 (1 + o.m + (1 + c1.m + c2.m))] 153 (0, 0)), (bc, .cells #[E_ii.k k', E_ii.v v', .pointer p1, .pointer p2, .int .i64 (1 + max c1.h c2.h), .int .i64 (1 + c1.m + c2.m)] 153 (0, 0))] * (tree E_ii p1 c1 * (tree E_ii p2 c2 * (tree E_ii po o * R)))) w := hS.to (by simp only [blks]; ac_rfl)
  refine O_nilCheck rfl rfl rfl rfl rfl ?_
  refine O_fieldAddr rfl rfl rfl rfl rfl Tryd.runUnderlying153 rfl Tryd.sizeOf133 ?_
  refine O_storeS hS rfl rfl rfl rfl rfl rfl rfl Tryd.sizeOf133 (by repeat (first | exact .here rfl rfl | apply SetAt.there)) (fun w' hv => ⟨trivial, trivial⟩) ?_
  intro w hS
  refine O_nilCheck rfl rfl rfl rfl rfl ?_
  refine O_fieldAddr rfl rfl rfl rfl rfl Tryd.runUnderlying153 rfl Tryd.sizeOf133 ?_
  refine O_storeS hS rfl rfl rfl rfl rfl rfl rfl Tryd.sizeOf133 (by repeat (first | exact .here rfl rfl | apply SetAt.there)) (fun w' hv => ⟨trivial, trivial⟩) ?_
  intro w hS
  refine R_nil ?_
  refine tn ?_
  refine F_seq ?_
  refine F_region (p := ⟨_, [0, 2], []⟩) rfl [0, 1] rfl ?_
  refine O_move rfl rfl rfl rfl rfl ?_
  replace hS : Sat w0 (blks [(b, .cells #[E_ii.k k, E_ii.v v, .pointer po, .pointer p1, .int .i64 (1 + max o.h (1 + max c1.h c2.h)), .int .i64 (1 + o.m + (1 + c1.m + c2.m))] 153 (0, 0)), (bc, .cells #[E_ii.k k', E_ii.v v', .pointer (some ⟨b, 0, none⟩), .pointer p2, .int .i64 (1 + max c1.h c2.h), .int .i64 (1 + c1.m + c2.m)] 153 (0, 0))] * (tree E_ii p1 c1 * (tree E_ii p2 c2 * (tree E_ii po o * R)))) w := hS
  replace hS : Sat w0 (blks [(b, .cells #[E_ii.k k, E_ii.v v, .pointer po, .pointer p1, .int .i64 (1 + max o.h (1 + max c1.h c2.h)), .int .i64 (1 + o.m + (1 + c1.m + c2.m))] 153 (0, 0))] * (tree E_ii po o * (tree E_ii p1 c1 * (blks [(bc, .cells #[E_ii.k k', E_ii.v v', .pointer (some ⟨b, 0, none⟩), .pointer p2, .int .i64 (1 + max c1.h c2.h), .int .i64 (1 + c1.m + c2.m)] 153 (0, 0))] * (tree E_ii p2 c2 * R))))) w := hS.to (by simp only [blks]; ac_rfl)
  refine O_call rfl rfl rfl rfl Tryd.call83 rfl (count_ii ht_ii ht_ii (by omega) hS) (fun _ _ hv => trivial) ?_
  rintro _ w ⟨rfl, hS⟩
  replace hS : Sat w0 (blks [(bc, .cells #[E_ii.k k', E_ii.v v', .pointer (some ⟨b, 0, none⟩), .pointer p2, .int .i64 (1 + max c1.h c2.h), .int .i64 (1 + c1.m + c2.m)] 153 (0, 0))] * ((blks [(b, .cells #[E_ii.k k, E_ii.v v, .pointer po, .pointer p1, .int .i64 (1 + max o.h c1.h), .int .i64 (1 + o.m + c1.m)] 153 (0, 0))] * (tree E_ii po o * tree E_ii p1 c1)) * (tree E_ii p2 c2 * R))) w := hS.to (by simp only [blks]; ac_rfl)
  refine R_nil ?_
  refine tn ?_
  refine F_seq ?_
  refine F_region (p := ⟨_, [0, 2, 0], []⟩) rfl [0, 1, 2] rfl ?_
  refine O_move rfl rfl rfl rfl rfl ?_
  refine O_call rfl rfl rfl rfl Tryd.call83 rfl (count_ii ht_ii_at ht_ii (by omega) hS) (fun _ _ hv => trivial) ?_
  rintro _ w ⟨rfl, hS⟩
  refine O_assign rfl rfl rfl rfl rfl ?_
  refine R_nil ?_
  refine tn ?_
  refine F_ret ?_
  show endF _ _ _ _ _ _
  refine end0 trivial rfl rfl rfl hS ?_
  intro w hS
  have hq : Sat w0 (blks [(b, .cells #[E_ii.k k, E_ii.v v, .pointer po, .pointer p1, .int .i64 (1 + max o.h c1.h), .int .i64 (1 + o.m + c1.m)] 153 (0, 0))] * (tree E_ii po o * (tree E_ii p1 c1 * (blks [(bc, .cells #[E_ii.k k', E_ii.v v', .pointer (some ⟨b, 0, none⟩), .pointer p2, .int .i64 (1 + max (1 + max o.h c1.h) c2.h), .int .i64 (1 + (1 + o.m + c1.m) + c2.m)] 153 (0, 0))] * (tree E_ii p2 c2 * R))))) w := hS.to (by simp only [blks]; ac_rfl)
  have hq := tree_node_mk rfl rfl hq
  replace hq : Sat w0 (blks [(bc, .cells #[E_ii.k k', E_ii.v v', .pointer (some ⟨b, 0, none⟩), .pointer p2, .int .i64 (1 + max (1 + max o.h c1.h) c2.h), .int .i64 (1 + (1 + o.m + c1.m) + c2.m)] 153 (0, 0))] * (tree E_ii (some ⟨b, 0, none⟩) (.node o k v c1) * (tree E_ii p2 c2 * R))) w := hq.to (by ac_rfl)
  exact ⟨_, rfl, tree_node_mk rfl rfl hq⟩
theorem even_ii {w0 w : World} {R : HProp} {b : Nat} {pl pr : Option Addr} {k : _} {v : _} {x4 x5 : Value} {l r : T _ _} (hm : l.m + r.m ≤ 4611686018427380000)
    (hS : Sat w0 (blks [(b, .cells #[E_ii.k k, E_ii.v v, .pointer pl, .pointer pr, x4, x5] 153 (0, 0))] * (tree E_ii pl l * (tree E_ii pr r * R))) w) :
    Calls Tryd.prog 84 #[.pointer (some ⟨b, 0, none⟩)] w (ret fun u w' => ∃ p' t', u = .pointer p' ∧ t'.toList = l.toList ++ (k, v) :: r.toList ∧ Sat w0 (tree E_ii p' t' * R) w') := by
  have d1 := l.bd
  have d2 := r.bd
  by_cases cL : 1 < l.h - r.h
  · obtain ⟨c1, k', v', c2, rfl⟩ := T.h0 (t := l) (by omega)
    have d3 := c1.bd
    have d4 := c2.bd
    simp only [T.h, T.m] at cL d1 d2 hm
    obtain ⟨bc, p1, p2, rfl, hS⟩ := tree_node hS.b2
    replace hS : Sat w0 (blks [(b, .cells #[E_ii.k k, E_ii.v v, .pointer (some ⟨bc, 0, none⟩), .pointer pr, x4, x5] 153 (0, 0)), (bc, .cells #[E_ii.k k', E_ii.v v', .pointer p1, .pointer p2, .int .i64 (1 + max c1.h c2.h), .int .i64 (1 + c1.m + c2.m)] 153 (0, 0))] * (tree E_ii p1 c1 * (tree E_ii p2 c2 * (tree E_ii pr r * R)))) w := hS.to (by simp only [blks]; ac_rfl)
    by_cases cd : c1.h < c2.h
    · obtain ⟨d1', k2, v2, d2', rfl⟩ := T.h0 (t := c2) (by omega)
      refine enterF (args := [_]) Tryd.func84 rfl Tryd.ntmps84 rfl rfl ?_
      refine F_seq ?_
      refine F_region (p := ⟨_, [0], []⟩) rfl [0] rfl ?_
      refine O_assign rfl rfl rfl rfl rfl ?_
      refine R_nil ?_
      refine tn ?_
      refine F_seq ?_
      refine F_seq ?_
      refine F_drawnS hS (by kernel_rfl) (p := ⟨_, [0, 0, 0, 1, 2, 0, 0, 0, 1, 2, 0, 0], [(4, 8)]⟩) rfl (.ofList [0, 1, 2, 3, 4, 5, 6, 7, 8, 9, 10, 11]) (by kernel_rfl) ?_
      intro w hS
      refine O_move rfl rfl rfl rfl rfl ?_
      refine O_nilCheck rfl rfl rfl rfl rfl ?_
      refine O_fieldAddr rfl rfl rfl rfl rfl Tryd.runUnderlying153 rfl Tryd.sizeOf133 ?_
      refine O_loadS hS rfl rfl rfl rfl rfl Tryd.isAgg133 (by repeat (first | exact .here rfl | apply CellAt.there)) (by trivial) ?_
      have hQ : Sat w0 ((blks [(bc, .cells #[E_ii.k k', E_ii.v v', .pointer p1, .pointer p2, .int .i64 (1 + max c1.h (T.node d1' k2 v2 d2').h), .int .i64 (1 + c1.m + (T.node d1' k2 v2 d2').m)] 153 (0, 0))] * (tree E_ii p1 c1 * tree E_ii p2 (T.node d1' k2 v2 d2'))) * (blks [(b, .cells #[E_ii.k k, E_ii.v v, .pointer (some ⟨bc, 0, none⟩), .pointer pr, x4, x5] 153 (0, 0))] * (tree E_ii pr r * R))) w := hS.to (by simp only [blks]; ac_rfl)
      have hS_4 := hS
      refine O_call rfl rfl rfl rfl Tryd.call93 rfl ((ht_ii_at _ _ _ hQ).1) (fun _ _ hv => trivial) ?_
      rintro _ w ⟨rfl, hS⟩
      replace hS : Sat w0 (blks [(b, .cells #[E_ii.k k, E_ii.v v, .pointer (some ⟨bc, 0, none⟩), .pointer pr, x4, x5] 153 (0, 0)), (bc, .cells #[E_ii.k k', E_ii.v v', .pointer p1, .pointer p2, .int .i64 (1 + max c1.h (T.node d1' k2 v2 d2').h), .int .i64 (1 + c1.m + (T.node d1' k2 v2 d2').m)] 153 (0, 0))] * (tree E_ii p1 c1 * (tree E_ii p2 (T.node d1' k2 v2 d2') * (tree E_ii pr r * R)))) w := hS.to (by simp only [blks]; ac_rfl)
      refine O_move rfl rfl rfl rfl rfl ?_
      refine O_nilCheck rfl rfl rfl rfl rfl ?_
      refine O_fieldAddr rfl rfl rfl rfl rfl Tryd.runUnderlying153 rfl Tryd.sizeOf133 ?_
      refine O_loadS hS rfl rfl rfl rfl rfl Tryd.isAgg133 (by repeat (first | exact .here rfl | apply CellAt.there)) (by exact ⟨CellAt.cell (by repeat (first | exact .here rfl | apply CellAt.there)) hS_4, trivial⟩) ?_
      have hQ : Sat w0 (tree E_ii pr r * (blks [(b, .cells #[E_ii.k k, E_ii.v v, .pointer (some ⟨bc, 0, none⟩), .pointer pr, x4, x5] 153 (0, 0))] * ((blks [(bc, .cells #[E_ii.k k', E_ii.v v', .pointer p1, .pointer p2, .int .i64 (1 + max c1.h (T.node d1' k2 v2 d2').h), .int .i64 (1 + c1.m + (T.node d1' k2 v2 d2').m)] 153 (0, 0))] * (tree E_ii p1 c1 * tree E_ii p2 (T.node d1' k2 v2 d2'))) * R))) w := hS.to (by simp only [blks]; ac_rfl)
      refine O_call rfl rfl rfl rfl Tryd.call93 rfl ((ht_ii _ _ _ hQ).1) (fun _ _ hv => ⟨trivial, trivial⟩) ?_
      rintro _ w ⟨rfl, hS⟩
      replace hS : Sat w0 (blks [(b, .cells #[E_ii.k k, E_ii.v v, .pointer (some ⟨bc, 0, none⟩), .pointer pr, x4, x5] 153 (0, 0)), (bc, .cells #[E_ii.k k', E_ii.v v', .pointer p1, .pointer p2, .int .i64 (1 + max c1.h (T.node d1' k2 v2 d2').h), .int .i64 (1 + c1.m + (T.node d1' k2 v2 d2').m)] 153 (0, 0))] * (tree E_ii p1 c1 * (tree E_ii p2 (T.node d1' k2 v2 d2') * (tree E_ii pr r * R)))) w := hS.to (by simp only [blks]; ac_rfl)
      refine O_subN rfl rfl rfl rfl rfl rfl (by first | omega | (dsimp only; omega)) ?_
      refine O_assign rfl rfl rfl rfl rfl ?_
      refine R_nil ?_
      refine tn ?_
      refine F_block ?_
      refine F_seq ?_
      refine F_region (p := ⟨_, [0, 0, 0], []⟩) rfl [0, 1, 2] rfl ?_
      refine O_move rfl rfl rfl rfl rfl ?_
      refine O_cmp rfl rfl rfl rfl rfl rfl rfl ?_
      refine O_assign rfl rfl rfl rfl rfl ?_
      refine R_nil ?_
      refine tn ?_
      refine F_true rfl (decide_eq_true (by omega)) ?_
      refine F_seq ?_
      refine F_seq ?_
      refine F_drawnS hS (by kernel_rfl) (p := ⟨_, [0, 0, 0, 1, 0, 0, 1, 2, 0, 0, 0, 1, 0, 0, 1, 2, 0], [(7, 11), (7, 14)]⟩) rfl (.ofList [0, 1, 2, 3, 4, 5, 6, 7, 8, 9, 10, 11, 12, 13, 14, 15, 16]) (by kernel_rfl) ?_
      intro w hS
      refine O_move rfl rfl rfl rfl rfl ?_
      refine O_nilCheck rfl rfl rfl rfl rfl ?_
      refine O_fieldAddr rfl rfl rfl rfl rfl Tryd.runUnderlying153 rfl Tryd.sizeOf133 ?_
      refine O_loadS hS rfl rfl rfl rfl rfl Tryd.isAgg133 (by repeat (first | exact .here rfl | apply CellAt.there)) (by trivial) ?_
      refine O_nilCheck rfl rfl rfl rfl rfl ?_
      refine O_fieldAddr rfl rfl rfl rfl rfl Tryd.runUnderlying153 rfl Tryd.sizeOf133 ?_
      refine O_loadS hS rfl rfl rfl rfl rfl Tryd.isAgg133 (by repeat (first | exact .here rfl | apply CellAt.there)) (by trivial) ?_
      have hQ : Sat w0 (tree E_ii p1 c1 * (blks [(b, .cells #[E_ii.k k, E_ii.v v, .pointer (some ⟨bc, 0, none⟩), .pointer pr, x4, x5] 153 (0, 0)), (bc, .cells #[E_ii.k k', E_ii.v v', .pointer p1, .pointer p2, .int .i64 (1 + max c1.h (T.node d1' k2 v2 d2').h), .int .i64 (1 + c1.m + (T.node d1' k2 v2 d2').m)] 153 (0, 0))] * (tree E_ii p2 (T.node d1' k2 v2 d2') * (tree E_ii pr r * R)))) w := hS.to (by simp only [blks]; ac_rfl)
      have hS_7 := hS
      refine O_call rfl rfl rfl rfl Tryd.call93 rfl ((ht_ii _ _ _ hQ).1) (fun _ _ hv => trivial) ?_
      rintro _ w ⟨rfl, hS⟩
      replace hS : Sat w0 (blks [(b, .cells #[E_ii.k k, E_ii.v v, .pointer (some ⟨bc, 0, none⟩), .pointer pr, x4, x5] 153 (0, 0)), (bc, .cells #[E_ii.k k', E_ii.v v', .pointer p1, .pointer p2, .int .i64 (1 + max c1.h (T.node d1' k2 v2 d2').h), .int .i64 (1 + c1.m + (T.node d1' k2 v2 d2').m)] 153 (0, 0))] * (tree E_ii p1 c1 * (tree E_ii p2 (T.node d1' k2 v2 d2') * (tree E_ii pr r * R)))) w := hS.to (by simp only [blks]; ac_rfl)
      refine O_move rfl rfl rfl rfl rfl ?_
      refine O_nilCheck rfl rfl rfl rfl rfl ?_
      refine O_fieldAddr rfl rfl rfl rfl rfl Tryd.runUnderlying153 rfl Tryd.sizeOf133 ?_
      refine O_loadS hS rfl rfl rfl rfl rfl Tryd.isAgg133 (by repeat (first | exact .here rfl | apply CellAt.there)) (by exact ⟨CellAt.cell (by repeat (first | exact .here rfl | apply CellAt.there)) hS_7, trivial⟩) ?_
      refine O_nilCheck rfl rfl rfl rfl rfl ?_
      refine O_fieldAddr rfl rfl rfl rfl rfl Tryd.runUnderlying153 rfl Tryd.sizeOf133 ?_
      refine O_loadS hS rfl rfl rfl rfl rfl Tryd.isAgg133 (by repeat (first | exact .here rfl | apply CellAt.there)) (by exact ⟨CellAt.cell (by repeat (first | exact .here rfl | apply CellAt.there)) hS_7, trivial⟩) ?_
      have hQ : Sat w0 (tree E_ii p2 (T.node d1' k2 v2 d2') * (blks [(b, .cells #[E_ii.k k, E_ii.v v, .pointer (some ⟨bc, 0, none⟩), .pointer pr, x4, x5] 153 (0, 0)), (bc, .cells #[E_ii.k k', E_ii.v v', .pointer p1, .pointer p2, .int .i64 (1 + max c1.h (T.node d1' k2 v2 d2').h), .int .i64 (1 + c1.m + (T.node d1' k2 v2 d2').m)] 153 (0, 0))] * (tree E_ii p1 c1 * (tree E_ii pr r * R)))) w := hS.to (by simp only [blks]; ac_rfl)
      refine O_call rfl rfl rfl rfl Tryd.call93 rfl ((ht_ii _ _ _ hQ).1) (fun _ _ hv => ⟨trivial, ⟨trivial, trivial⟩⟩) ?_
      rintro _ w ⟨rfl, hS⟩
      replace hS : Sat w0 (blks [(b, .cells #[E_ii.k k, E_ii.v v, .pointer (some ⟨bc, 0, none⟩), .pointer pr, x4, x5] 153 (0, 0)), (bc, .cells #[E_ii.k k', E_ii.v v', .pointer p1, .pointer p2, .int .i64 (1 + max c1.h (T.node d1' k2 v2 d2').h), .int .i64 (1 + c1.m + (T.node d1' k2 v2 d2').m)] 153 (0, 0))] * (tree E_ii p1 c1 * (tree E_ii p2 (T.node d1' k2 v2 d2') * (tree E_ii pr r * R)))) w := hS.to (by simp only [blks]; ac_rfl)
      refine O_cmp rfl rfl rfl rfl rfl rfl rfl ?_
      refine R_nil ?_
      refine tn ?_
      refine F_true rfl (decide_eq_true (by omega)) ?_
      refine F_region (p := ⟨_, [0, 0, 0, 0, 1, 2, 0, 0, 2], []⟩) rfl [0, 1, 2, 3, 4, 5, 6, 7, 8] rfl ?_
      refine O_move rfl rfl rfl rfl rfl ?_
      refine O_move rfl rfl rfl rfl rfl ?_
      refine O_nilCheck rfl rfl rfl rfl rfl ?_
      refine O_fieldAddr rfl rfl rfl rfl rfl Tryd.runUnderlying153 rfl Tryd.sizeOf133 ?_
      refine O_loadS hS rfl rfl rfl rfl rfl Tryd.isAgg133 (by repeat (first | exact .here rfl | apply CellAt.there)) (by trivial) ?_
      have hQ : Sat w0 (blks [(bc, .cells #[E_ii.k k', E_ii.v v', .pointer p1, .pointer p2, .int .i64 (1 + max c1.h (T.node d1' k2 v2 d2').h), .int .i64 (1 + c1.m + (T.node d1' k2 v2 d2').m)] 153 (0, 0))] * (tree E_ii p1 c1 * (tree E_ii p2 (T.node d1' k2 v2 d2') * ((blks [(b, .cells #[E_ii.k k, E_ii.v v, .pointer (some ⟨bc, 0, none⟩), .pointer pr, x4, x5] 153 (0, 0))] * tree E_ii pr r) * R)))) w := hS.to (by simp only [blks]; ac_rfl)
      refine O_call rfl rfl rfl rfl Tryd.call95 rfl (toLeft_ii (by simp only [T.m] at *; omega) hQ) (fun _ _ hv => trivial) ?_
      rintro _ w ⟨pn, rfl, hS⟩
      replace hS : Sat w0 (blks [(b, .cells #[E_ii.k k, E_ii.v v, .pointer (some ⟨bc, 0, none⟩), .pointer pr, x4, x5] 153 (0, 0))] * (tree E_ii pn (.node (.node c1 k' v' d1') k2 v2 d2') * (tree E_ii pr r * R))) w := hS.to (by simp only [blks]; ac_rfl)
      refine O_nilCheck rfl rfl rfl rfl rfl ?_
      refine O_fieldAddr rfl rfl rfl rfl rfl Tryd.runUnderlying153 rfl Tryd.sizeOf133 ?_
      refine O_storeS hS rfl rfl rfl rfl rfl rfl rfl Tryd.sizeOf133 (by repeat (first | exact .here rfl rfl | apply SetAt.there)) (fun w' hv => trivial) ?_
      intro w hS
      refine R_nil ?_
      refine tn ?_
      refine F_seq ?_
      refine F_region (p := ⟨_, [0, 2, 0], []⟩) rfl [0, 1, 2] rfl ?_
      refine O_move rfl rfl rfl rfl rfl ?_
      replace hS : Sat w0 (blks [(b, .cells #[E_ii.k k, E_ii.v v, .pointer pn, .pointer pr, x4, x5] 153 (0, 0))] * (tree E_ii pn (.node (.node c1 k' v' d1') k2 v2 d2') * (tree E_ii pr r * R))) w := hS
      refine O_call rfl rfl rfl rfl Tryd.call96 rfl (toRight_ii (by simp only [T.m] at *; omega) hS) (fun _ _ hv => trivial) ?_
      rintro _ w ⟨pe, rfl, hS⟩
      refine O_assign rfl rfl rfl rfl rfl ?_
      refine R_nil ?_
      refine tn ?_
      refine F_ret ?_
      refine br ?_
      refine tr ?_
      show endF _ _ _ _ _ _
      refine end0 trivial rfl rfl rfl hS ?_
      intro w hS
      exact ⟨_, _, rfl, by simp [T.toList, List.append_assoc], hS⟩
    ·
      refine enterF (args := [_]) Tryd.func84 rfl Tryd.ntmps84 rfl rfl ?_
      refine F_seq ?_
      refine F_region (p := ⟨_, [0], []⟩) rfl [0] rfl ?_
      refine O_assign rfl rfl rfl rfl rfl ?_
      refine R_nil ?_
      refine tn ?_
      refine F_seq ?_
      refine F_seq ?_
      refine F_drawnS hS (by kernel_rfl) (p := ⟨_, [0, 0, 0, 1, 2, 0, 0, 0, 1, 2, 0, 0], [(4, 8)]⟩) rfl (.ofList [0, 1, 2, 3, 4, 5, 6, 7, 8, 9, 10, 11]) (by kernel_rfl) ?_
      intro w hS
      refine O_move rfl rfl rfl rfl rfl ?_
      refine O_nilCheck rfl rfl rfl rfl rfl ?_
      refine O_fieldAddr rfl rfl rfl rfl rfl Tryd.runUnderlying153 rfl Tryd.sizeOf133 ?_
      refine O_loadS hS rfl rfl rfl rfl rfl Tryd.isAgg133 (by repeat (first | exact .here rfl | apply CellAt.there)) (by trivial) ?_
      have hQ : Sat w0 ((blks [(bc, .cells #[E_ii.k k', E_ii.v v', .pointer p1, .pointer p2, .int .i64 (1 + max c1.h c2.h), .int .i64 (1 + c1.m + c2.m)] 153 (0, 0))] * (tree E_ii p1 c1 * tree E_ii p2 c2)) * (blks [(b, .cells #[E_ii.k k, E_ii.v v, .pointer (some ⟨bc, 0, none⟩), .pointer pr, x4, x5] 153 (0, 0))] * (tree E_ii pr r * R))) w := hS.to (by simp only [blks]; ac_rfl)
      have hS_4 := hS
      refine O_call rfl rfl rfl rfl Tryd.call93 rfl ((ht_ii_at _ _ _ hQ).1) (fun _ _ hv => trivial) ?_
      rintro _ w ⟨rfl, hS⟩
      replace hS : Sat w0 (blks [(b, .cells #[E_ii.k k, E_ii.v v, .pointer (some ⟨bc, 0, none⟩), .pointer pr, x4, x5] 153 (0, 0)), (bc, .cells #[E_ii.k k', E_ii.v v', .pointer p1, .pointer p2, .int .i64 (1 + max c1.h c2.h), .int .i64 (1 + c1.m + c2.m)] 153 (0, 0))] * (tree E_ii p1 c1 * (tree E_ii p2 c2 * (tree E_ii pr r * R)))) w := hS.to (by simp only [blks]; ac_rfl)
      refine O_move rfl rfl rfl rfl rfl ?_
      refine O_nilCheck rfl rfl rfl rfl rfl ?_
      refine O_fieldAddr rfl rfl rfl rfl rfl Tryd.runUnderlying153 rfl Tryd.sizeOf133 ?_
      refine O_loadS hS rfl rfl rfl rfl rfl Tryd.isAgg133 (by repeat (first | exact .here rfl | apply CellAt.there)) (by exact ⟨CellAt.cell (by repeat (first | exact .here rfl | apply CellAt.there)) hS_4, trivial⟩) ?_
      have hQ : Sat w0 (tree E_ii pr r * (blks [(b, .cells #[E_ii.k k, E_ii.v v, .pointer (some ⟨bc, 0, none⟩), .pointer pr, x4, x5] 153 (0, 0))] * ((blks [(bc, .cells #[E_ii.k k', E_ii.v v', .pointer p1, .pointer p2, .int .i64 (1 + max c1.h c2.h), .int .i64 (1 + c1.m + c2.m)] 153 (0, 0))] * (tree E_ii p1 c1 * tree E_ii p2 c2)) * R))) w := hS.to (by simp only [blks]; ac_rfl)
      refine O_call rfl rfl rfl rfl Tryd.call93 rfl ((ht_ii _ _ _ hQ).1) (fun _ _ hv => ⟨trivial, trivial⟩) ?_
      rintro _ w ⟨rfl, hS⟩
      replace hS : Sat w0 (blks [(b, .cells #[E_ii.k k, E_ii.v v, .pointer (some ⟨bc, 0, none⟩), .pointer pr, x4, x5] 153 (0, 0)), (bc, .cells #[E_ii.k k', E_ii.v v', .pointer p1, .pointer p2, .int .i64 (1 + max c1.h c2.h), .int .i64 (1 + c1.m + c2.m)] 153 (0, 0))] * (tree E_ii p1 c1 * (tree E_ii p2 c2 * (tree E_ii pr r * R)))) w := hS.to (by simp only [blks]; ac_rfl)
      refine O_subN rfl rfl rfl rfl rfl rfl (by first | omega | (dsimp only; omega)) ?_
      refine O_assign rfl rfl rfl rfl rfl ?_
      refine R_nil ?_
      refine tn ?_
      refine F_block ?_
      refine F_seq ?_
      refine F_region (p := ⟨_, [0, 0, 0], []⟩) rfl [0, 1, 2] rfl ?_
      refine O_move rfl rfl rfl rfl rfl ?_
      refine O_cmp rfl rfl rfl rfl rfl rfl rfl ?_
      refine O_assign rfl rfl rfl rfl rfl ?_
      refine R_nil ?_
      refine tn ?_
      refine F_true rfl (decide_eq_true (by omega)) ?_
      refine F_seq ?_
      refine F_seq ?_
      refine F_drawnS hS (by kernel_rfl) (p := ⟨_, [0, 0, 0, 1, 0, 0, 1, 2, 0, 0, 0, 1, 0, 0, 1, 2, 0], [(7, 11), (7, 14)]⟩) rfl (.ofList [0, 1, 2, 3, 4, 5, 6, 7, 8, 9, 10, 11, 12, 13, 14, 15, 16]) (by kernel_rfl) ?_
      intro w hS
      refine O_move rfl rfl rfl rfl rfl ?_
      refine O_nilCheck rfl rfl rfl rfl rfl ?_
      refine O_fieldAddr rfl rfl rfl rfl rfl Tryd.runUnderlying153 rfl Tryd.sizeOf133 ?_
      refine O_loadS hS rfl rfl rfl rfl rfl Tryd.isAgg133 (by repeat (first | exact .here rfl | apply CellAt.there)) (by trivial) ?_
      refine O_nilCheck rfl rfl rfl rfl rfl ?_
      refine O_fieldAddr rfl rfl rfl rfl rfl Tryd.runUnderlying153 rfl Tryd.sizeOf133 ?_
      refine O_loadS hS rfl rfl rfl rfl rfl Tryd.isAgg133 (by repeat (first | exact .here rfl | apply CellAt.there)) (by trivial) ?_
      have hQ : Sat w0 (tree E_ii p1 c1 * (blks [(b, .cells #[E_ii.k k, E_ii.v v, .pointer (some ⟨bc, 0, none⟩), .pointer pr, x4, x5] 153 (0, 0)), (bc, .cells #[E_ii.k k', E_ii.v v', .pointer p1, .pointer p2, .int .i64 (1 + max c1.h c2.h), .int .i64 (1 + c1.m + c2.m)] 153 (0, 0))] * (tree E_ii p2 c2 * (tree E_ii pr r * R)))) w := hS.to (by simp only [blks]; ac_rfl)
      have hS_7 := hS
      refine O_call rfl rfl rfl rfl Tryd.call93 rfl ((ht_ii _ _ _ hQ).1) (fun _ _ hv => trivial) ?_
      rintro _ w ⟨rfl, hS⟩
      replace hS : Sat w0 (blks [(b, .cells #[E_ii.k k, E_ii.v v, .pointer (some ⟨bc, 0, none⟩), .pointer pr, x4, x5] 153 (0, 0)), (bc, .cells #[E_ii.k k', E_ii.v v', .pointer p1, .pointer p2, .int .i64 (1 + max c1.h c2.h), .int .i64 (1 + c1.m + c2.m)] 153 (0, 0))] * (tree E_ii p1 c1 * (tree E_ii p2 c2 * (tree E_ii pr r * R)))) w := hS.to (by simp only [blks]; ac_rfl)
      refine O_move rfl rfl rfl rfl rfl ?_
      refine O_nilCheck rfl rfl rfl rfl rfl ?_
      refine O_fieldAddr rfl rfl rfl rfl rfl Tryd.runUnderlying153 rfl Tryd.sizeOf133 ?_
      refine O_loadS hS rfl rfl rfl rfl rfl Tryd.isAgg133 (by repeat (first | exact .here rfl | apply CellAt.there)) (by exact ⟨CellAt.cell (by repeat (first | exact .here rfl | apply CellAt.there)) hS_7, trivial⟩) ?_
      refine O_nilCheck rfl rfl rfl rfl rfl ?_
      refine O_fieldAddr rfl rfl rfl rfl rfl Tryd.runUnderlying153 rfl Tryd.sizeOf133 ?_
      refine O_loadS hS rfl rfl rfl rfl rfl Tryd.isAgg133 (by repeat (first | exact .here rfl | apply CellAt.there)) (by exact ⟨CellAt.cell (by repeat (first | exact .here rfl | apply CellAt.there)) hS_7, trivial⟩) ?_
      have hQ : Sat w0 (tree E_ii p2 c2 * (blks [(b, .cells #[E_ii.k k, E_ii.v v, .pointer (some ⟨bc, 0, none⟩), .pointer pr, x4, x5] 153 (0, 0)), (bc, .cells #[E_ii.k k', E_ii.v v', .pointer p1, .pointer p2, .int .i64 (1 + max c1.h c2.h), .int .i64 (1 + c1.m + c2.m)] 153 (0, 0))] * (tree E_ii p1 c1 * (tree E_ii pr r * R)))) w := hS.to (by simp only [blks]; ac_rfl)
      refine O_call rfl rfl rfl rfl Tryd.call93 rfl ((ht_ii _ _ _ hQ).1) (fun _ _ hv => ⟨trivial, ⟨trivial, trivial⟩⟩) ?_
      rintro _ w ⟨rfl, hS⟩
      replace hS : Sat w0 (blks [(b, .cells #[E_ii.k k, E_ii.v v, .pointer (some ⟨bc, 0, none⟩), .pointer pr, x4, x5] 153 (0, 0)), (bc, .cells #[E_ii.k k', E_ii.v v', .pointer p1, .pointer p2, .int .i64 (1 + max c1.h c2.h), .int .i64 (1 + c1.m + c2.m)] 153 (0, 0))] * (tree E_ii p1 c1 * (tree E_ii p2 c2 * (tree E_ii pr r * R)))) w := hS.to (by simp only [blks]; ac_rfl)
      refine O_cmp rfl rfl rfl rfl rfl rfl rfl ?_
      refine R_nil ?_
      refine tn ?_
      refine F_false rfl (decide_eq_false (by omega)) ?_
      refine F_skip ?_
      refine tn ?_
      refine F_seq ?_
      refine F_region (p := ⟨_, [0, 2, 0], []⟩) rfl [0, 1, 2] rfl ?_
      refine O_move rfl rfl rfl rfl rfl ?_
      have hQ : Sat w0 (blks [(bc, .cells #[E_ii.k k', E_ii.v v', .pointer p1, .pointer p2, .int .i64 (1 + max c1.h c2.h), .int .i64 (1 + c1.m + c2.m)] 153 (0, 0))] * (tree E_ii p1 c1 * (tree E_ii p2 c2 * ((blks [(b, .cells #[E_ii.k k, E_ii.v v, .pointer (some ⟨bc, 0, none⟩), .pointer pr, x4, x5] 153 (0, 0))] * tree E_ii pr r) * R)))) w := hS.to (by simp only [blks]; ac_rfl)
      replace hQ := tree_node_mk rfl rfl hQ
      replace hQ : Sat w0 (blks [(b, .cells #[E_ii.k k, E_ii.v v, .pointer (some ⟨bc, 0, none⟩), .pointer pr, x4, x5] 153 (0, 0))] * (tree E_ii (some ⟨bc, 0, none⟩) (.node c1 k' v' c2) * (tree E_ii pr r * R))) w := hQ.to (by ac_rfl)
      refine O_call rfl rfl rfl rfl Tryd.call96 rfl (toRight_ii (by simp only [T.m] at *; omega) hQ) (fun _ _ hv => trivial) ?_
      rintro _ w ⟨pe, rfl, hS⟩
      refine O_assign rfl rfl rfl rfl rfl ?_
      refine R_nil ?_
      refine tn ?_
      refine F_ret ?_
      refine br ?_
      refine tr ?_
      show endF _ _ _ _ _ _
      refine end0 trivial rfl rfl rfl hS ?_
      intro w hS
      exact ⟨_, _, rfl, by simp [T.toList, List.append_assoc], hS⟩
  by_cases cR : l.h - r.h < -1
  · obtain ⟨c1, k', v', c2, rfl⟩ := T.h0 (t := r) (by omega)
    have d3 := c1.bd
    have d4 := c2.bd
    simp only [T.h, T.m] at cR d1 d2 hm cL
    obtain ⟨bc, p1, p2, rfl, hS⟩ := tree_node hS.b3
    replace hS : Sat w0 (blks [(b, .cells #[E_ii.k k, E_ii.v v, .pointer pl, .pointer (some ⟨bc, 0, none⟩), x4, x5] 153 (0, 0)), (bc, .cells #[E_ii.k k', E_ii.v v', .pointer p1, .pointer p2, .int .i64 (1 + max c1.h c2.h), .int .i64 (1 + c1.m + c2.m)] 153 (0, 0))] * (tree E_ii p1 c1 * (tree E_ii p2 c2 * (tree E_ii pl l * R)))) w := hS.to (by simp only [blks]; ac_rfl)
    by_cases cd : c2.h < c1.h
    · obtain ⟨d1', k2, v2, d2', rfl⟩ := T.h0 (t := c1) (by omega)
      refine enterF (args := [_]) Tryd.func84 rfl Tryd.ntmps84 rfl rfl ?_
      refine F_seq ?_
      refine F_region (p := ⟨_, [0], []⟩) rfl [0] rfl ?_
      refine O_assign rfl rfl rfl rfl rfl ?_
      refine R_nil ?_
      refine tn ?_
      refine F_seq ?_
      refine F_seq ?_
      refine F_drawnS hS (by kernel_rfl) (p := ⟨_, [0, 0, 0, 1, 2, 0, 0, 0, 1, 2, 0, 0], [(4, 8)]⟩) rfl (.ofList [0, 1, 2, 3, 4, 5, 6, 7, 8, 9, 10, 11]) (by kernel_rfl) ?_
      intro w hS
      refine O_move rfl rfl rfl rfl rfl ?_
      refine O_nilCheck rfl rfl rfl rfl rfl ?_
      refine O_fieldAddr rfl rfl rfl rfl rfl Tryd.runUnderlying153 rfl Tryd.sizeOf133 ?_
      refine O_loadS hS rfl rfl rfl rfl rfl Tryd.isAgg133 (by repeat (first | exact .here rfl | apply CellAt.there)) (by trivial) ?_
      have hQ : Sat w0 (tree E_ii pl l * (blks [(b, .cells #[E_ii.k k, E_ii.v v, .pointer pl, .pointer (some ⟨bc, 0, none⟩), x4, x5] 153 (0, 0))] * ((blks [(bc, .cells #[E_ii.k k', E_ii.v v', .pointer p1, .pointer p2, .int .i64 (1 + max (T.node d1' k2 v2 d2').h c2.h), .int .i64 (1 + (T.node d1' k2 v2 d2').m + c2.m)] 153 (0, 0))] * (tree E_ii p1 (T.node d1' k2 v2 d2') * tree E_ii p2 c2)) * R))) w := hS.to (by simp only [blks]; ac_rfl)
      have hS_4 := hS
      refine O_call rfl rfl rfl rfl Tryd.call93 rfl ((ht_ii _ _ _ hQ).1) (fun _ _ hv => trivial) ?_
      rintro _ w ⟨rfl, hS⟩
      replace hS : Sat w0 (blks [(b, .cells #[E_ii.k k, E_ii.v v, .pointer pl, .pointer (some ⟨bc, 0, none⟩), x4, x5] 153 (0, 0)), (bc, .cells #[E_ii.k k', E_ii.v v', .pointer p1, .pointer p2, .int .i64 (1 + max (T.node d1' k2 v2 d2').h c2.h), .int .i64 (1 + (T.node d1' k2 v2 d2').m + c2.m)] 153 (0, 0))] * (tree E_ii p1 (T.node d1' k2 v2 d2') * (tree E_ii p2 c2 * (tree E_ii pl l * R)))) w := hS.to (by simp only [blks]; ac_rfl)
      refine O_move rfl rfl rfl rfl rfl ?_
      refine O_nilCheck rfl rfl rfl rfl rfl ?_
      refine O_fieldAddr rfl rfl rfl rfl rfl Tryd.runUnderlying153 rfl Tryd.sizeOf133 ?_
      refine O_loadS hS rfl rfl rfl rfl rfl Tryd.isAgg133 (by repeat (first | exact .here rfl | apply CellAt.there)) (by exact ⟨CellAt.cell (by repeat (first | exact .here rfl | apply CellAt.there)) hS_4, trivial⟩) ?_
      have hQ : Sat w0 ((blks [(bc, .cells #[E_ii.k k', E_ii.v v', .pointer p1, .pointer p2, .int .i64 (1 + max (T.node d1' k2 v2 d2').h c2.h), .int .i64 (1 + (T.node d1' k2 v2 d2').m + c2.m)] 153 (0, 0))] * (tree E_ii p1 (T.node d1' k2 v2 d2') * tree E_ii p2 c2)) * (blks [(b, .cells #[E_ii.k k, E_ii.v v, .pointer pl, .pointer (some ⟨bc, 0, none⟩), x4, x5] 153 (0, 0))] * (tree E_ii pl l * R))) w := hS.to (by simp only [blks]; ac_rfl)
      refine O_call rfl rfl rfl rfl Tryd.call93 rfl ((ht_ii_at _ _ _ hQ).1) (fun _ _ hv => ⟨trivial, trivial⟩) ?_
      rintro _ w ⟨rfl, hS⟩
      replace hS : Sat w0 (blks [(b, .cells #[E_ii.k k, E_ii.v v, .pointer pl, .pointer (some ⟨bc, 0, none⟩), x4, x5] 153 (0, 0)), (bc, .cells #[E_ii.k k', E_ii.v v', .pointer p1, .pointer p2, .int .i64 (1 + max (T.node d1' k2 v2 d2').h c2.h), .int .i64 (1 + (T.node d1' k2 v2 d2').m + c2.m)] 153 (0, 0))] * (tree E_ii p1 (T.node d1' k2 v2 d2') * (tree E_ii p2 c2 * (tree E_ii pl l * R)))) w := hS.to (by simp only [blks]; ac_rfl)
      refine O_subN rfl rfl rfl rfl rfl rfl (by first | omega | (dsimp only; omega)) ?_
      refine O_assign rfl rfl rfl rfl rfl ?_
      refine R_nil ?_
      refine tn ?_
      refine F_block ?_
      refine F_seq ?_
      refine F_region (p := ⟨_, [0, 0, 0], []⟩) rfl [0, 1, 2] rfl ?_
      refine O_move rfl rfl rfl rfl rfl ?_
      refine O_cmp rfl rfl rfl rfl rfl rfl rfl ?_
      refine O_assign rfl rfl rfl rfl rfl ?_
      refine R_nil ?_
      refine tn ?_
      refine F_false rfl (decide_eq_false (by omega)) ?_
      refine F_seq ?_
      refine F_region (p := ⟨_, [0, 0, 0], []⟩) rfl [0, 1, 2] rfl ?_
      refine O_move rfl rfl rfl rfl rfl ?_
      refine O_cmp rfl rfl rfl rfl rfl rfl rfl ?_
      refine O_assign rfl rfl rfl rfl rfl ?_
      refine R_nil ?_
      refine tn ?_
      refine F_true rfl (decide_eq_true (by omega)) ?_
      refine F_seq ?_
      refine F_seq ?_
      refine F_drawnS hS (by kernel_rfl) (p := ⟨_, [0, 0, 0, 1, 0, 0, 1, 2, 0, 0, 0, 1, 0, 0, 1, 2, 0], [(7, 11), (7, 14)]⟩) rfl (.ofList [0, 1, 2, 3, 4, 5, 6, 7, 8, 9, 10, 11, 12, 13, 14, 15, 16]) (by kernel_rfl) ?_
      intro w hS
      refine O_move rfl rfl rfl rfl rfl ?_
      refine O_nilCheck rfl rfl rfl rfl rfl ?_
      refine O_fieldAddr rfl rfl rfl rfl rfl Tryd.runUnderlying153 rfl Tryd.sizeOf133 ?_
      refine O_loadS hS rfl rfl rfl rfl rfl Tryd.isAgg133 (by repeat (first | exact .here rfl | apply CellAt.there)) (by trivial) ?_
      refine O_nilCheck rfl rfl rfl rfl rfl ?_
      refine O_fieldAddr rfl rfl rfl rfl rfl Tryd.runUnderlying153 rfl Tryd.sizeOf133 ?_
      refine O_loadS hS rfl rfl rfl rfl rfl Tryd.isAgg133 (by repeat (first | exact .here rfl | apply CellAt.there)) (by trivial) ?_
      have hQ : Sat w0 (tree E_ii p2 c2 * (blks [(b, .cells #[E_ii.k k, E_ii.v v, .pointer pl, .pointer (some ⟨bc, 0, none⟩), x4, x5] 153 (0, 0)), (bc, .cells #[E_ii.k k', E_ii.v v', .pointer p1, .pointer p2, .int .i64 (1 + max (T.node d1' k2 v2 d2').h c2.h), .int .i64 (1 + (T.node d1' k2 v2 d2').m + c2.m)] 153 (0, 0))] * (tree E_ii p1 (T.node d1' k2 v2 d2') * (tree E_ii pl l * R)))) w := hS.to (by simp only [blks]; ac_rfl)
      have hS_7 := hS
      refine O_call rfl rfl rfl rfl Tryd.call93 rfl ((ht_ii _ _ _ hQ).1) (fun _ _ hv => trivial) ?_
      rintro _ w ⟨rfl, hS⟩
      replace hS : Sat w0 (blks [(b, .cells #[E_ii.k k, E_ii.v v, .pointer pl, .pointer (some ⟨bc, 0, none⟩), x4, x5] 153 (0, 0)), (bc, .cells #[E_ii.k k', E_ii.v v', .pointer p1, .pointer p2, .int .i64 (1 + max (T.node d1' k2 v2 d2').h c2.h), .int .i64 (1 + (T.node d1' k2 v2 d2').m + c2.m)] 153 (0, 0))] * (tree E_ii p1 (T.node d1' k2 v2 d2') * (tree E_ii p2 c2 * (tree E_ii pl l * R)))) w := hS.to (by simp only [blks]; ac_rfl)
      refine O_move rfl rfl rfl rfl rfl ?_
      refine O_nilCheck rfl rfl rfl rfl rfl ?_
      refine O_fieldAddr rfl rfl rfl rfl rfl Tryd.runUnderlying153 rfl Tryd.sizeOf133 ?_
      refine O_loadS hS rfl rfl rfl rfl rfl Tryd.isAgg133 (by repeat (first | exact .here rfl | apply CellAt.there)) (by exact ⟨CellAt.cell (by repeat (first | exact .here rfl | apply CellAt.there)) hS_7, trivial⟩) ?_
      refine O_nilCheck rfl rfl rfl rfl rfl ?_
      refine O_fieldAddr rfl rfl rfl rfl rfl Tryd.runUnderlying153 rfl Tryd.sizeOf133 ?_
      refine O_loadS hS rfl rfl rfl rfl rfl Tryd.isAgg133 (by repeat (first | exact .here rfl | apply CellAt.there)) (by exact ⟨CellAt.cell (by repeat (first | exact .here rfl | apply CellAt.there)) hS_7, trivial⟩) ?_
      have hQ : Sat w0 (tree E_ii p1 (T.node d1' k2 v2 d2') * (blks [(b, .cells #[E_ii.k k, E_ii.v v, .pointer pl, .pointer (some ⟨bc, 0, none⟩), x4, x5] 153 (0, 0)), (bc, .cells #[E_ii.k k', E_ii.v v', .pointer p1, .pointer p2, .int .i64 (1 + max (T.node d1' k2 v2 d2').h c2.h), .int .i64 (1 + (T.node d1' k2 v2 d2').m + c2.m)] 153 (0, 0))] * (tree E_ii p2 c2 * (tree E_ii pl l * R)))) w := hS.to (by simp only [blks]; ac_rfl)
      refine O_call rfl rfl rfl rfl Tryd.call93 rfl ((ht_ii _ _ _ hQ).1) (fun _ _ hv => ⟨trivial, ⟨trivial, trivial⟩⟩) ?_
      rintro _ w ⟨rfl, hS⟩
      replace hS : Sat w0 (blks [(b, .cells #[E_ii.k k, E_ii.v v, .pointer pl, .pointer (some ⟨bc, 0, none⟩), x4, x5] 153 (0, 0)), (bc, .cells #[E_ii.k k', E_ii.v v', .pointer p1, .pointer p2, .int .i64 (1 + max (T.node d1' k2 v2 d2').h c2.h), .int .i64 (1 + (T.node d1' k2 v2 d2').m + c2.m)] 153 (0, 0))] * (tree E_ii p1 (T.node d1' k2 v2 d2') * (tree E_ii p2 c2 * (tree E_ii pl l * R)))) w := hS.to (by simp only [blks]; ac_rfl)
      refine O_cmp rfl rfl rfl rfl rfl rfl rfl ?_
      refine R_nil ?_
      refine tn ?_
      refine F_true rfl (decide_eq_true (by omega)) ?_
      refine F_region (p := ⟨_, [0, 0, 0, 0, 1, 2, 0, 0, 2], []⟩) rfl [0, 1, 2, 3, 4, 5, 6, 7, 8] rfl ?_
      refine O_move rfl rfl rfl rfl rfl ?_
      refine O_move rfl rfl rfl rfl rfl ?_
      refine O_nilCheck rfl rfl rfl rfl rfl ?_
      refine O_fieldAddr rfl rfl rfl rfl rfl Tryd.runUnderlying153 rfl Tryd.sizeOf133 ?_
      refine O_loadS hS rfl rfl rfl rfl rfl Tryd.isAgg133 (by repeat (first | exact .here rfl | apply CellAt.there)) (by trivial) ?_
      have hQ : Sat w0 (blks [(bc, .cells #[E_ii.k k', E_ii.v v', .pointer p1, .pointer p2, .int .i64 (1 + max (T.node d1' k2 v2 d2').h c2.h), .int .i64 (1 + (T.node d1' k2 v2 d2').m + c2.m)] 153 (0, 0))] * (tree E_ii p1 (T.node d1' k2 v2 d2') * (tree E_ii p2 c2 * ((blks [(b, .cells #[E_ii.k k, E_ii.v v, .pointer pl, .pointer (some ⟨bc, 0, none⟩), x4, x5] 153 (0, 0))] * tree E_ii pl l) * R)))) w := hS.to (by simp only [blks]; ac_rfl)
      refine O_call rfl rfl rfl rfl Tryd.call96 rfl (toRight_ii (by simp only [T.m] at *; omega) hQ) (fun _ _ hv => trivial) ?_
      rintro _ w ⟨pn, rfl, hS⟩
      replace hS : Sat w0 (blks [(b, .cells #[E_ii.k k, E_ii.v v, .pointer pl, .pointer (some ⟨bc, 0, none⟩), x4, x5] 153 (0, 0))] * (tree E_ii pn (.node d1' k2 v2 (.node d2' k' v' c2)) * (tree E_ii pl l * R))) w := hS.to (by simp only [blks]; ac_rfl)
      refine O_nilCheck rfl rfl rfl rfl rfl ?_
      refine O_fieldAddr rfl rfl rfl rfl rfl Tryd.runUnderlying153 rfl Tryd.sizeOf133 ?_
      refine O_storeS hS rfl rfl rfl rfl rfl rfl rfl Tryd.sizeOf133 (by repeat (first | exact .here rfl rfl | apply SetAt.there)) (fun w' hv => trivial) ?_
      intro w hS
      refine R_nil ?_
      refine tn ?_
      refine F_seq ?_
      refine F_region (p := ⟨_, [0, 2, 0], []⟩) rfl [0, 1, 2] rfl ?_
      refine O_move rfl rfl rfl rfl rfl ?_
      replace hS : Sat w0 (blks [(b, .cells #[E_ii.k k, E_ii.v v, .pointer pl, .pointer pn, x4, x5] 153 (0, 0))] * (tree E_ii pn (.node d1' k2 v2 (.node d2' k' v' c2)) * (tree E_ii pl l * R))) w := hS
      replace hS : Sat w0 (blks [(b, .cells #[E_ii.k k, E_ii.v v, .pointer pl, .pointer pn, x4, x5] 153 (0, 0))] * (tree E_ii pl l * (tree E_ii pn (.node d1' k2 v2 (.node d2' k' v' c2)) * R))) w := hS.to (by simp only [blks]; ac_rfl)
      refine O_call rfl rfl rfl rfl Tryd.call95 rfl (toLeft_ii (by simp only [T.m] at *; omega) hS) (fun _ _ hv => trivial) ?_
      rintro _ w ⟨pe, rfl, hS⟩
      refine O_assign rfl rfl rfl rfl rfl ?_
      refine R_nil ?_
      refine tn ?_
      refine F_ret ?_
      refine br ?_
      refine tr ?_
      show endF _ _ _ _ _ _
      refine end0 trivial rfl rfl rfl hS ?_
      intro w hS
      exact ⟨_, _, rfl, by simp [T.toList, List.append_assoc], hS⟩
    ·
      refine enterF (args := [_]) Tryd.func84 rfl Tryd.ntmps84 rfl rfl ?_
      refine F_seq ?_
      refine F_region (p := ⟨_, [0], []⟩) rfl [0] rfl ?_
      refine O_assign rfl rfl rfl rfl rfl ?_
      refine R_nil ?_
      refine tn ?_
      refine F_seq ?_
      refine F_seq ?_
      refine F_drawnS hS (by kernel_rfl) (p := ⟨_, [0, 0, 0, 1, 2, 0, 0, 0, 1, 2, 0, 0], [(4, 8)]⟩) rfl (.ofList [0, 1, 2, 3, 4, 5, 6, 7, 8, 9, 10, 11]) (by kernel_rfl) ?_
      intro w hS
      refine O_move rfl rfl rfl rfl rfl ?_
      refine O_nilCheck rfl rfl rfl rfl rfl ?_
      refine O_fieldAddr rfl rfl rfl rfl rfl Tryd.runUnderlying153 rfl Tryd.sizeOf133 ?_
      refine O_loadS hS rfl rfl rfl rfl rfl Tryd.isAgg133 (by repeat (first | exact .here rfl | apply CellAt.there)) (by trivial) ?_
      have hQ : Sat w0 (tree E_ii pl l * (blks [(b, .cells #[E_ii.k k, E_ii.v v, .pointer pl, .pointer (some ⟨bc, 0, none⟩), x4, x5] 153 (0, 0))] * ((blks [(bc, .cells #[E_ii.k k', E_ii.v v', .pointer p1, .pointer p2, .int .i64 (1 + max c1.h c2.h), .int .i64 (1 + c1.m + c2.m)] 153 (0, 0))] * (tree E_ii p1 c1 * tree E_ii p2 c2)) * R))) w := hS.to (by simp only [blks]; ac_rfl)
      have hS_4 := hS
      refine O_call rfl rfl rfl rfl Tryd.call93 rfl ((ht_ii _ _ _ hQ).1) (fun _ _ hv => trivial) ?_
      rintro _ w ⟨rfl, hS⟩
      replace hS : Sat w0 (blks [(b, .cells #[E_ii.k k, E_ii.v v, .pointer pl, .pointer (some ⟨bc, 0, none⟩), x4, x5] 153 (0, 0)), (bc, .cells #[E_ii.k k', E_ii.v v', .pointer p1, .pointer p2, .int .i64 (1 + max c1.h c2.h), .int .i64 (1 + c1.m + c2.m)] 153 (0, 0))] * (tree E_ii p1 c1 * (tree E_ii p2 c2 * (tree E_ii pl l * R)))) w := hS.to (by simp only [blks]; ac_rfl)
      refine O_move rfl rfl rfl rfl rfl ?_
      refine O_nilCheck rfl rfl rfl rfl rfl ?_
      refine O_fieldAddr rfl rfl rfl rfl rfl Tryd.runUnderlying153 rfl Tryd.sizeOf133 ?_
      refine O_loadS hS rfl rfl rfl rfl rfl Tryd.isAgg133 (by repeat (first | exact .here rfl | apply CellAt.there)) (by exact ⟨CellAt.cell (by repeat (first | exact .here rfl | apply CellAt.there)) hS_4, trivial⟩) ?_
      have hQ : Sat w0 ((blks [(bc, .cells #[E_ii.k k', E_ii.v v', .pointer p1, .pointer p2, .int .i64 (1 + max c1.h c2.h), .int .i64 (1 + c1.m + c2.m)] 153 (0, 0))] * (tree E_ii p1 c1 * tree E_ii p2 c2)) * (blks [(b, .cells #[E_ii.k k, E_ii.v v, .pointer pl, .pointer (some ⟨bc, 0, none⟩), x4, x5] 153 (0, 0))] * (tree E_ii pl l * R))) w := hS.to (by simp only [blks]; ac_rfl)
      refine O_call rfl rfl rfl rfl Tryd.call93 rfl ((ht_ii_at _ _ _ hQ).1) (fun _ _ hv => ⟨trivial, trivial⟩) ?_
      rintro _ w ⟨rfl, hS⟩
      replace hS : Sat w0 (blks [(b, .cells #[E_ii.k k, E_ii.v v, .pointer pl, .pointer (some ⟨bc, 0, none⟩), x4, x5] 153 (0, 0)), (bc, .cells #[E_ii.k k', E_ii.v v', .pointer p1, .pointer p2, .int .i64 (1 + max c1.h c2.h), .int .i64 (1 + c1.m + c2.m)] 153 (0, 0))] * (tree E_ii p1 c1 * (tree E_ii p2 c2 * (tree E_ii pl l * R)))) w := hS.to (by simp only [blks]; ac_rfl)
      refine O_subN rfl rfl rfl rfl rfl rfl (by first | omega | (dsimp only; omega)) ?_
      refine O_assign rfl rfl rfl rfl rfl ?_
      refine R_nil ?_
      refine tn ?_
      refine F_block ?_
      refine F_seq ?_
      refine F_region (p := ⟨_, [0, 0, 0], []⟩) rfl [0, 1, 2] rfl ?_
      refine O_move rfl rfl rfl rfl rfl ?_
      refine O_cmp rfl rfl rfl rfl rfl rfl rfl ?_
      refine O_assign rfl rfl rfl rfl rfl ?_
      refine R_nil ?_
      refine tn ?_
      refine F_false rfl (decide_eq_false (by omega)) ?_
      refine F_seq ?_
      refine F_region (p := ⟨_, [0, 0, 0], []⟩) rfl [0, 1, 2] rfl ?_
      refine O_move rfl rfl rfl rfl rfl ?_
      refine O_cmp rfl rfl rfl rfl rfl rfl rfl ?_
      refine O_assign rfl rfl rfl rfl rfl ?_
      refine R_nil ?_
      refine tn ?_
      refine F_true rfl (decide_eq_true (by omega)) ?_
      refine F_seq ?_
      refine F_seq ?_
      refine F_drawnS hS (by kernel_rfl) (p := ⟨_, [0, 0, 0, 1, 0, 0, 1, 2, 0, 0, 0, 1, 0, 0, 1, 2, 0], [(7, 11), (7, 14)]⟩) rfl (.ofList [0, 1, 2, 3, 4, 5, 6, 7, 8, 9, 10, 11, 12, 13, 14, 15, 16]) (by kernel_rfl) ?_
      intro w hS
      refine O_move rfl rfl rfl rfl rfl ?_
      refine O_nilCheck rfl rfl rfl rfl rfl ?_
      refine O_fieldAddr rfl rfl rfl rfl rfl Tryd.runUnderlying153 rfl Tryd.sizeOf133 ?_
      refine O_loadS hS rfl rfl rfl rfl rfl Tryd.isAgg133 (by repeat (first | exact .here rfl | apply CellAt.there)) (by trivial) ?_
      refine O_nilCheck rfl rfl rfl rfl rfl ?_
      refine O_fieldAddr rfl rfl rfl rfl rfl Tryd.runUnderlying153 rfl Tryd.sizeOf133 ?_
      refine O_loadS hS rfl rfl rfl rfl rfl Tryd.isAgg133 (by repeat (first | exact .here rfl | apply CellAt.there)) (by trivial) ?_
      have hQ : Sat w0 (tree E_ii p2 c2 * (blks [(b, .cells #[E_ii.k k, E_ii.v v, .pointer pl, .pointer (some ⟨bc, 0, none⟩), x4, x5] 153 (0, 0)), (bc, .cells #[E_ii.k k', E_ii.v v', .pointer p1, .pointer p2, .int .i64 (1 + max c1.h c2.h), .int .i64 (1 + c1.m + c2.m)] 153 (0, 0))] * (tree E_ii p1 c1 * (tree E_ii pl l * R)))) w := hS.to (by simp only [blks]; ac_rfl)
      have hS_7 := hS
      refine O_call rfl rfl rfl rfl Tryd.call93 rfl ((ht_ii _ _ _ hQ).1) (fun _ _ hv => trivial) ?_
      rintro _ w ⟨rfl, hS⟩
      replace hS : Sat w0 (blks [(b, .cells #[E_ii.k k, E_ii.v v, .pointer pl, .pointer (some ⟨bc, 0, none⟩), x4, x5] 153 (0, 0)), (bc, .cells #[E_ii.k k', E_ii.v v', .pointer p1, .pointer p2, .int .i64 (1 + max c1.h c2.h), .int .i64 (1 + c1.m + c2.m)] 153 (0, 0))] * (tree E_ii p1 c1 * (tree E_ii p2 c2 * (tree E_ii pl l * R)))) w := hS.to (by simp only [blks]; ac_rfl)
      refine O_move rfl rfl rfl rfl rfl ?_
      refine O_nilCheck rfl rfl rfl rfl rfl ?_
      refine O_fieldAddr rfl rfl rfl rfl rfl Tryd.runUnderlying153 rfl Tryd.sizeOf133 ?_
      refine O_loadS hS rfl rfl rfl rfl rfl Tryd.isAgg133 (by repeat (first | exact .here rfl | apply CellAt.there)) (by exact ⟨CellAt.cell (by repeat (first | exact .here rfl | apply CellAt.there)) hS_7, trivial⟩) ?_
      refine O_nilCheck rfl rfl rfl rfl rfl ?_
      refine O_fieldAddr rfl rfl rfl rfl rfl Tryd.runUnderlying153 rfl Tryd.sizeOf133 ?_
      refine O_loadS hS rfl rfl rfl rfl rfl Tryd.isAgg133 (by repeat (first | exact .here rfl | apply CellAt.there)) (by exact ⟨CellAt.cell (by repeat (first | exact .here rfl | apply CellAt.there)) hS_7, trivial⟩) ?_
      have hQ : Sat w0 (tree E_ii p1 c1 * (blks [(b, .cells #[E_ii.k k, E_ii.v v, .pointer pl, .pointer (some ⟨bc, 0, none⟩), x4, x5] 153 (0, 0)), (bc, .cells #[E_ii.k k', E_ii.v v', .pointer p1, .pointer p2, .int .i64 (1 + max c1.h c2.h), .int .i64 (1 + c1.m + c2.m)] 153 (0, 0))] * (tree E_ii p2 c2 * (tree E_ii pl l * R)))) w := hS.to (by simp only [blks]; ac_rfl)
      refine O_call rfl rfl rfl rfl Tryd.call93 rfl ((ht_ii _ _ _ hQ).1) (fun _ _ hv => ⟨trivial, ⟨trivial, trivial⟩⟩) ?_
      rintro _ w ⟨rfl, hS⟩
      replace hS : Sat w0 (blks [(b, .cells #[E_ii.k k, E_ii.v v, .pointer pl, .pointer (some ⟨bc, 0, none⟩), x4, x5] 153 (0, 0)), (bc, .cells #[E_ii.k k', E_ii.v v', .pointer p1, .pointer p2, .int .i64 (1 + max c1.h c2.h), .int .i64 (1 + c1.m + c2.m)] 153 (0, 0))] * (tree E_ii p1 c1 * (tree E_ii p2 c2 * (tree E_ii pl l * R)))) w := hS.to (by simp only [blks]; ac_rfl)
      refine O_cmp rfl rfl rfl rfl rfl rfl rfl ?_
      refine R_nil ?_
      refine tn ?_
      refine F_false rfl (decide_eq_false (by omega)) ?_
      refine F_skip ?_
      refine tn ?_
      refine F_seq ?_
      refine F_region (p := ⟨_, [0, 2, 0], []⟩) rfl [0, 1, 2] rfl ?_
      refine O_move rfl rfl rfl rfl rfl ?_
      have hQ : Sat w0 (blks [(bc, .cells #[E_ii.k k', E_ii.v v', .pointer p1, .pointer p2, .int .i64 (1 + max c1.h c2.h), .int .i64 (1 + c1.m + c2.m)] 153 (0, 0))] * (tree E_ii p1 c1 * (tree E_ii p2 c2 * ((blks [(b, .cells #[E_ii.k k, E_ii.v v, .pointer pl, .pointer (some ⟨bc, 0, none⟩), x4, x5] 153 (0, 0))] * tree E_ii pl l) * R)))) w := hS.to (by simp only [blks]; ac_rfl)
      replace hQ := tree_node_mk rfl rfl hQ
      replace hQ : Sat w0 (blks [(b, .cells #[E_ii.k k, E_ii.v v, .pointer pl, .pointer (some ⟨bc, 0, none⟩), x4, x5] 153 (0, 0))] * (tree E_ii pl l * (tree E_ii (some ⟨bc, 0, none⟩) (.node c1 k' v' c2) * R))) w := hQ.to (by ac_rfl)
      refine O_call rfl rfl rfl rfl Tryd.call95 rfl (toLeft_ii (by simp only [T.m] at *; omega) hQ) (fun _ _ hv => trivial) ?_
      rintro _ w ⟨pe, rfl, hS⟩
      refine O_assign rfl rfl rfl rfl rfl ?_
      refine R_nil ?_
      refine tn ?_
      refine F_ret ?_
      refine br ?_
      refine tr ?_
      show endF _ _ _ _ _ _
      refine end0 trivial rfl rfl rfl hS ?_
      intro w hS
      exact ⟨_, _, rfl, by simp [T.toList, List.append_assoc], hS⟩
  refine enterF (args := [_]) Tryd.func84 rfl Tryd.ntmps84 rfl rfl ?_
  refine F_seq ?_
  refine F_region (p := ⟨_, [0], []⟩) rfl [0] rfl ?_
  refine O_assign rfl rfl rfl rfl rfl ?_
  refine R_nil ?_
  refine tn ?_
  refine F_seq ?_
  refine F_seq ?_
  refine F_drawnS hS (by kernel_rfl) (p := ⟨_, [0, 0, 0, 1, 2, 0, 0, 0, 1, 2, 0, 0], [(4, 8)]⟩) rfl (.ofList [0, 1, 2, 3, 4, 5, 6, 7, 8, 9, 10, 11]) (by kernel_rfl) ?_
  intro w hS
  refine O_move rfl rfl rfl rfl rfl ?_
  refine O_nilCheck rfl rfl rfl rfl rfl ?_
  refine O_fieldAddr rfl rfl rfl rfl rfl Tryd.runUnderlying153 rfl Tryd.sizeOf133 ?_
  refine O_loadS hS rfl rfl rfl rfl rfl Tryd.isAgg133 (by repeat (first | exact .here rfl | apply CellAt.there)) (by trivial) ?_
  have hS_4 := hS
  refine O_call rfl rfl rfl rfl Tryd.call93 rfl ((ht_ii _ _ _ hS.b2).1) (fun _ _ hv => trivial) ?_
  rintro _ w ⟨rfl, hS⟩
  replace hS := hS.b2
  refine O_move rfl rfl rfl rfl rfl ?_
  refine O_nilCheck rfl rfl rfl rfl rfl ?_
  refine O_fieldAddr rfl rfl rfl rfl rfl Tryd.runUnderlying153 rfl Tryd.sizeOf133 ?_
  refine O_loadS hS rfl rfl rfl rfl rfl Tryd.isAgg133 (by repeat (first | exact .here rfl | apply CellAt.there)) (by exact ⟨CellAt.cell (by repeat (first | exact .here rfl | apply CellAt.there)) hS_4, trivial⟩) ?_
  refine O_call rfl rfl rfl rfl Tryd.call93 rfl ((ht_ii _ _ _ hS.b3).1) (fun _ _ hv => ⟨trivial, trivial⟩) ?_
  rintro _ w ⟨rfl, hS⟩
  replace hS := hS.f3
  refine O_subN rfl rfl rfl rfl rfl rfl (by first | omega | (dsimp only; omega)) ?_
  refine O_assign rfl rfl rfl rfl rfl ?_
  refine R_nil ?_
  refine tn ?_
  refine F_block ?_
  refine F_seq ?_
  refine F_region (p := ⟨_, [0, 0, 0], []⟩) rfl [0, 1, 2] rfl ?_
  refine O_move rfl rfl rfl rfl rfl ?_
  refine O_cmp rfl rfl rfl rfl rfl rfl rfl ?_
  refine O_assign rfl rfl rfl rfl rfl ?_
  refine R_nil ?_
  refine tn ?_
  refine F_false rfl (decide_eq_false (by omega)) ?_
  refine F_seq ?_
  refine F_region (p := ⟨_, [0, 0, 0], []⟩) rfl [0, 1, 2] rfl ?_
  refine O_move rfl rfl rfl rfl rfl ?_
  refine O_cmp rfl rfl rfl rfl rfl rfl rfl ?_
  refine O_assign rfl rfl rfl rfl rfl ?_
  refine R_nil ?_
  refine tn ?_
  refine F_false rfl (decide_eq_false (by omega)) ?_
  refine F_skip ?_
  refine bn ?_
  refine tn ?_
  refine F_seq ?_
  refine F_region (p := ⟨_, [0, 2, 0], []⟩) rfl [0, 1, 2] rfl ?_
  refine O_move rfl rfl rfl rfl rfl ?_
  refine O_call rfl rfl rfl rfl Tryd.call83 rfl (count_ii ht_ii ht_ii (by omega) hS) (fun _ _ hv => trivial) ?_
  rintro _ w ⟨rfl, hS⟩
  refine O_assign rfl rfl rfl rfl rfl ?_
  refine R_nil ?_
  refine tn ?_
  refine F_ret ?_
  show endF _ _ _ _ _ _
  refine end0 trivial rfl rfl rfl hS ?_
  intro w hS
  exact ⟨_, .node l k v r, rfl, rfl, tree_node_mk rfl rfl hS⟩
theorem put_ii {rb : Nat} {x1 : Value} {k : Int} {v : Int} (t : T Int Int) : ∀ {w0 w : World} {R : HProp} {p : Option Addr} (hs : Srt O_ii t.toList) (hm : t.m ≤ 4611686018427370000)
    (hS : Sat w0 (blks [(rb, .cells #[E_ii.cv, x1] 135 (0, 0))] * (tree E_ii p t * R)) w),
    Calls Tryd.prog 76 #[.pointer (some ⟨rb, 0, none⟩), .pointer p, E_ii.k k, E_ii.v v] w (ret fun u w' => ∃ p' t', u = .tuple #[.pointer p', .bool (get O_ii k t.toList).isSome] ∧ t'.toList = ins O_ii k v t.toList ∧ Sat w0 (blks [(rb, .cells #[E_ii.cv, x1] 135 (0, 0))] * (tree E_ii p' t' * R)) w') := by
  induction t with
  | leaf =>
    intro w0 w R p hs hm hS
    obtain ⟨rfl, hN⟩ := tree_leaf hS.b2
    clear hS
    have hS := hN
    refine enterF (args := [_, _, _, _]) Tryd.func76 rfl Tryd.ntmps76 rfl rfl ?_
    refine F_seq ?_
    refine F_region (p := ⟨_, [0, 0], []⟩) rfl [0, 1] rfl ?_
    refine O_assign rfl rfl rfl rfl rfl ?_
    refine O_assign rfl rfl rfl rfl rfl ?_
    refine R_nil ?_
    refine tn ?_
    refine F_seq ?_
    refine F_seq ?_
    refine F_region (p := ⟨_, [0, 0], []⟩) rfl [0, 1] rfl ?_
    refine O_move rfl rfl rfl rfl rfl ?_
    refine O_eqNil rfl rfl rfl rfl rfl rfl Tryd.runUnderlying133 ?_
    refine R_nil ?_
    refine tn ?_
    refine F_true rfl rfl ?_
    refine F_seq ?_
    refine F_region (p := ⟨_, [0, 0, 0, 2, 0], []⟩) rfl [0, 1, 2, 3, 4] rfl ?_
    refine O_move rfl rfl rfl rfl rfl ?_
    refine O_move rfl rfl rfl rfl rfl ?_
    refine O_build rfl rfl rfl rfl rfl (run_buildS [_, _, _, _, _, _] Tryd.zeroValue153 Tryd.runUnderlying153 (fun _ => 1) ⟨Tryd.sizeOf3, Tryd.sizeOf3, Tryd.sizeOf133, Tryd.sizeOf133, Tryd.sizeOf3, Tryd.sizeOf3, trivial⟩ rfl) ?_
    refine O_boxS hS rfl rfl rfl rfl rfl (fun _ _ hv => trivial) ?_
    intro b1 w hS
    refine O_assign rfl rfl rfl rfl rfl ?_
    refine R_nil ?_
    refine tn ?_
    refine F_seq ?_
    refine F_region (p := ⟨_, [0, 2, 0, 0], []⟩) rfl [0, 1, 2, 3] rfl ?_
    refine O_move rfl rfl rfl rfl rfl ?_
    replace hS : Sat w0 (blks [(b1, .cells #[E_ii.k k, E_ii.v v, .pointer none, .pointer none, .int .i64 0, .int .i64 0] 153 (0, 0)), (rb, .cells #[E_ii.cv, x1] 135 (0, 0))] * R) w := hS
    replace hS : Sat w0 (blks [(b1, .cells #[E_ii.k k, E_ii.v v, .pointer none, .pointer none, .int .i64 0, .int .i64 0] 153 (0, 0))] * (blks [(rb, .cells #[E_ii.cv, x1] 135 (0, 0))] * R)) w := hS.to (by simp only [blks]; ac_rfl)
    have hQ := (tree_leaf_mk (E := E_ii) (tree_leaf_mk (E := E_ii) hS.b2)).f3
    replace hQ : Sat w0 (blks [(b1, .cells #[E_ii.k k, E_ii.v v, .pointer none, .pointer none, .int .i64 0, .int .i64 0] 153 (0, 0))] * (tree E_ii none .leaf * (tree E_ii none .leaf * (blks [(rb, .cells #[E_ii.cv, x1] 135 (0, 0))] * R)))) w := hQ.to (by ac_rfl)
    refine O_call rfl rfl rfl rfl Tryd.call83 rfl (count_ii ht_ii ht_ii (by simp [T.h, T.m]) hQ) (fun _ _ hv => trivial) ?_
    rintro _ w ⟨rfl, hS⟩
    refine O_assign rfl rfl rfl rfl rfl ?_
    refine O_assign rfl rfl rfl rfl rfl ?_
    refine R_nil ?_
    refine tn ?_
    refine F_ret ?_
    refine tr ?_
    show endF _ _ _ _ _ _
    refine end0 trivial rfl rfl rfl hS ?_
    intro w hS
    exact ⟨_, .node .leaf k v .leaf, rfl, rfl, (tree_node_mk rfl rfl hS).b2⟩
  | node l k0 v0 r ihl ihr =>
    intro w0 w R p hs hm hS
    obtain ⟨b, pl, pr, rfl, hN⟩ := tree_node hS.b2
    clear hS
    have d1 := l.bd
    have d2 := r.bd
    simp only [T.m] at hm
    simp only [T.toList] at hs ⊢
    obtain ⟨s1, s2, s3, s4⟩ := srt_left hs
    have hS : Sat w0 (blks [(rb, .cells #[E_ii.cv, x1] 135 (0, 0)), (b, .cells #[E_ii.k k0, E_ii.v v0, .pointer pl, .pointer pr, .int .i64 (1 + max l.h r.h), .int .i64 (1 + l.m + r.m)] 153 (0, 0))] * (tree E_ii pl l * (tree E_ii pr r * R))) w := hN.to (by simp only [blks]; ac_rfl)
    clear hN
    cases e1 : O_ii.lt k k0 with
    | true =>
      have hc : cmpv O_ii k k0 = -1 := by simp [cmpv, e1]
      refine enterF (args := [_, _, _, _]) Tryd.func76 rfl Tryd.ntmps76 rfl rfl ?_
      refine F_seq ?_
      refine F_region (p := ⟨_, [0, 0], []⟩) rfl [0, 1] rfl ?_
      refine O_assign rfl rfl rfl rfl rfl ?_
      refine O_assign rfl rfl rfl rfl rfl ?_
      refine R_nil ?_
      refine tn ?_
      refine F_seq ?_
      refine F_seq ?_
      refine F_region (p := ⟨_, [0, 0], []⟩) rfl [0, 1] rfl ?_
      refine O_move rfl rfl rfl rfl rfl ?_
      refine O_eqNil rfl rfl rfl rfl rfl rfl Tryd.runUnderlying133 ?_
      refine R_nil ?_
      refine tn ?_
      refine F_false rfl rfl ?_
      refine F_skip ?_
      refine tn ?_
      refine F_seq ?_
      refine F_region (p := ⟨_, [0], []⟩) rfl [0] rfl ?_
      refine O_assign rfl rfl rfl rfl rfl ?_
      refine R_nil ?_
      refine tn ?_
      refine F_seq ?_
      refine F_seq ?_
      refine F_drawnS hS (by kernel_rfl) (p := ⟨_, [0, 0, 0, 1, 0, 0, 0, 0, 1, 2, 0], []⟩) rfl (.ofList [0, 1, 2, 3, 4, 5, 6, 7, 8, 9, 10]) (by kernel_rfl) ?_
      intro w hS
      refine O_move rfl rfl rfl rfl rfl ?_
      refine O_nilCheck rfl rfl rfl rfl rfl ?_
      refine O_fieldAddr rfl rfl rfl rfl rfl Tryd.runUnderlying135 rfl Tryd.sizeOf107 ?_
      refine O_loadS hS rfl rfl rfl rfl rfl Tryd.isAgg107 (by repeat (first | exact .here rfl | apply CellAt.there)) (by trivial) ?_
      refine O_move rfl rfl rfl rfl rfl ?_
      refine O_move rfl rfl rfl rfl rfl ?_
      refine O_nilCheck rfl rfl rfl rfl rfl ?_
      refine O_fieldAddr rfl rfl rfl rfl rfl Tryd.runUnderlying153 rfl Tryd.sizeOf3 ?_
      refine O_loadS hS rfl rfl rfl rfl rfl Tryd.isAgg3 (by repeat (first | exact .here rfl | apply CellAt.there)) (by trivial) ?_
      refine O_callv rfl rfl rfl rfl rfl rfl (cmp_ii k k0 hS) (fun _ _ hv => trivial) ?_
      rintro _ w ⟨rfl, hS⟩
      refine O_assign rfl rfl rfl rfl rfl ?_
      refine R_nil ?_
      refine tn ?_
      refine F_block ?_
      refine F_seq ?_
      refine F_region (p := ⟨_, [0, 0, 0], []⟩) rfl [0, 1, 2] rfl ?_
      refine O_move rfl rfl rfl rfl rfl ?_
      refine O_cmp rfl rfl rfl rfl rfl rfl rfl ?_
      refine O_assign rfl rfl rfl rfl rfl ?_
      refine R_nil ?_
      refine tn ?_
      refine F_true rfl (decide_eq_true (by omega)) ?_
      refine F_region (p := ⟨_, [0, 0, 0, 0, 0, 1, 0, 0, 2, 0, 0, 0, 0, 0, 2, 0], []⟩) rfl [0, 1, 2, 3, 4, 5, 6, 7, 8, 9, 10, 11, 12, 13, 14, 15] rfl ?_
      refine O_move rfl rfl rfl rfl rfl ?_
      refine O_move rfl rfl rfl rfl rfl ?_
      refine O_move rfl rfl rfl rfl rfl ?_
      refine O_nilCheck rfl rfl rfl rfl rfl ?_
      refine O_fieldAddr rfl rfl rfl rfl rfl Tryd.runUnderlying153 rfl Tryd.sizeOf133 ?_
      refine O_loadS hS rfl rfl rfl rfl rfl Tryd.isAgg133 (by repeat (first | exact .here rfl | apply CellAt.there)) (by trivial) ?_
      refine O_move rfl rfl rfl rfl rfl ?_
      refine O_move rfl rfl rfl rfl rfl ?_
      have hQ : Sat w0 (blks [(rb, .cells #[E_ii.cv, x1] 135 (0, 0))] * (tree E_ii pl l * (blks [(b, .cells #[E_ii.k k0, E_ii.v v0, .pointer pl, .pointer pr, .int .i64 (1 + max l.h r.h), .int .i64 (1 + l.m + r.m)] 153 (0, 0))] * (tree E_ii pr r * R)))) w := hS.to (by simp only [blks]; ac_rfl)
      refine O_call rfl rfl rfl rfl Tryd.call76 rfl (ihl s1 (by omega) hQ) (fun _ _ hv => trivial) ?_
      rintro _ w ⟨p', t', rfl, ht', hS⟩
      have hm' : t'.m ≤ l.m + 1 := by rw [T.m_len, T.m_len, ht', ins_len]; split <;> omega
      replace hS : Sat w0 (blks [(b, .cells #[E_ii.k k0, E_ii.v v0, .pointer pl, .pointer pr, .int .i64 (1 + max l.h r.h), .int .i64 (1 + l.m + r.m)] 153 (0, 0))] * (tree E_ii p' t' * (tree E_ii pr r * (blks [(rb, .cells #[E_ii.cv, x1] 135 (0, 0))] * R)))) w := hS.to (by simp only [blks]; ac_rfl)
      refine O_move rfl rfl rfl rfl rfl ?_
      refine O_extract rfl rfl rfl rfl rfl rfl ?_
      refine O_extract rfl rfl rfl rfl rfl rfl ?_
      refine O_nilCheck rfl rfl rfl rfl rfl ?_
      refine O_fieldAddr rfl rfl rfl rfl rfl Tryd.runUnderlying153 rfl Tryd.sizeOf133 ?_
      refine O_storeS hS rfl rfl rfl rfl rfl rfl rfl Tryd.sizeOf133 (by repeat (first | exact .here rfl rfl | apply SetAt.there)) (fun w' hv => trivial) ?_
      intro w hS
      refine O_assign rfl rfl rfl rfl rfl ?_
      refine R_nil ?_
      refine bn ?_
      refine tn ?_
      refine F_seq ?_
      refine F_region (p := ⟨_, [0, 2, 0, 0, 0], []⟩) rfl [0, 1, 2, 3, 4] rfl ?_
      refine O_move rfl rfl rfl rfl rfl ?_
      replace hS : Sat w0 (blks [(b, .cells #[E_ii.k k0, E_ii.v v0, .pointer p', .pointer pr, .int .i64 (1 + max l.h r.h), .int .i64 (1 + l.m + r.m)] 153 (0, 0))] * (tree E_ii p' t' * (tree E_ii pr r * (blks [(rb, .cells #[E_ii.cv, x1] 135 (0, 0))] * R)))) w := hS
      refine O_call rfl rfl rfl rfl Tryd.call84 rfl (even_ii (by omega) hS) (fun _ _ hv => trivial) ?_
      rintro _ w ⟨p'', t'', rfl, ht'', hS⟩
      refine O_move rfl rfl rfl rfl rfl ?_
      refine O_assign rfl rfl rfl rfl rfl ?_
      refine O_assign rfl rfl rfl rfl rfl ?_
      refine R_nil ?_
      refine tn ?_
      refine F_ret ?_
      show endF _ _ _ _ _ _
      refine end0 trivial rfl rfl rfl hS ?_
      intro w hS
      refine ⟨p'', t'', ?_, ?_, hS.b2⟩
      · rw [get_lt e1]; rfl
      · rw [ht'', ht', ins_lt e1]
    | false =>
      cases e2 : O_ii.lt k0 k with
      | true =>
        have hc : cmpv O_ii k k0 = 1 := by simp [cmpv, e1, e2]
        refine enterF (args := [_, _, _, _]) Tryd.func76 rfl Tryd.ntmps76 rfl rfl ?_
        refine F_seq ?_
        refine F_region (p := ⟨_, [0, 0], []⟩) rfl [0, 1] rfl ?_
        refine O_assign rfl rfl rfl rfl rfl ?_
        refine O_assign rfl rfl rfl rfl rfl ?_
        refine R_nil ?_
        refine tn ?_
        refine F_seq ?_
        refine F_seq ?_
        refine F_region (p := ⟨_, [0, 0], []⟩) rfl [0, 1] rfl ?_
        refine O_move rfl rfl rfl rfl rfl ?_
        refine O_eqNil rfl rfl rfl rfl rfl rfl Tryd.runUnderlying133 ?_
        refine R_nil ?_
        refine tn ?_
        refine F_false rfl rfl ?_
        refine F_skip ?_
        refine tn ?_
        refine F_seq ?_
        refine F_region (p := ⟨_, [0], []⟩) rfl [0] rfl ?_
        refine O_assign rfl rfl rfl rfl rfl ?_
        refine R_nil ?_
        refine tn ?_
        refine F_seq ?_
        refine F_seq ?_
        refine F_drawnS hS (by kernel_rfl) (p := ⟨_, [0, 0, 0, 1, 0, 0, 0, 0, 1, 2, 0], []⟩) rfl (.ofList [0, 1, 2, 3, 4, 5, 6, 7, 8, 9, 10]) (by kernel_rfl) ?_
        intro w hS
        refine O_move rfl rfl rfl rfl rfl ?_
        refine O_nilCheck rfl rfl rfl rfl rfl ?_
        refine O_fieldAddr rfl rfl rfl rfl rfl Tryd.runUnderlying135 rfl Tryd.sizeOf107 ?_
        refine O_loadS hS rfl rfl rfl rfl rfl Tryd.isAgg107 (by repeat (first | exact .here rfl | apply CellAt.there)) (by trivial) ?_
        refine O_move rfl rfl rfl rfl rfl ?_
        refine O_move rfl rfl rfl rfl rfl ?_
        refine O_nilCheck rfl rfl rfl rfl rfl ?_
        refine O_fieldAddr rfl rfl rfl rfl rfl Tryd.runUnderlying153 rfl Tryd.sizeOf3 ?_
        refine O_loadS hS rfl rfl rfl rfl rfl Tryd.isAgg3 (by repeat (first | exact .here rfl | apply CellAt.there)) (by trivial) ?_
        refine O_callv rfl rfl rfl rfl rfl rfl (cmp_ii k k0 hS) (fun _ _ hv => trivial) ?_
        rintro _ w ⟨rfl, hS⟩
        refine O_assign rfl rfl rfl rfl rfl ?_
        refine R_nil ?_
        refine tn ?_
        refine F_block ?_
        refine F_seq ?_
        refine F_region (p := ⟨_, [0, 0, 0], []⟩) rfl [0, 1, 2] rfl ?_
        refine O_move rfl rfl rfl rfl rfl ?_
        refine O_cmp rfl rfl rfl rfl rfl rfl rfl ?_
        refine O_assign rfl rfl rfl rfl rfl ?_
        refine R_nil ?_
        refine tn ?_
        refine F_false rfl (decide_eq_false (by omega)) ?_
        refine F_seq ?_
        refine F_region (p := ⟨_, [0, 0, 0], []⟩) rfl [0, 1, 2] rfl ?_
        refine O_move rfl rfl rfl rfl rfl ?_
        refine O_cmp rfl rfl rfl rfl rfl rfl rfl ?_
        refine O_assign rfl rfl rfl rfl rfl ?_
        refine R_nil ?_
        refine tn ?_
        refine F_true rfl (decide_eq_true (by omega)) ?_
        refine F_region (p := ⟨_, [0, 0, 0, 0, 0, 1, 0, 0, 2, 0, 0, 0, 0, 0, 2, 0], []⟩) rfl [0, 1, 2, 3, 4, 5, 6, 7, 8, 9, 10, 11, 12, 13, 14, 15] rfl ?_
        refine O_move rfl rfl rfl rfl rfl ?_
        refine O_move rfl rfl rfl rfl rfl ?_
        refine O_move rfl rfl rfl rfl rfl ?_
        refine O_nilCheck rfl rfl rfl rfl rfl ?_
        refine O_fieldAddr rfl rfl rfl rfl rfl Tryd.runUnderlying153 rfl Tryd.sizeOf133 ?_
        refine O_loadS hS rfl rfl rfl rfl rfl Tryd.isAgg133 (by repeat (first | exact .here rfl | apply CellAt.there)) (by trivial) ?_
        refine O_move rfl rfl rfl rfl rfl ?_
        refine O_move rfl rfl rfl rfl rfl ?_
        have hQ : Sat w0 (blks [(rb, .cells #[E_ii.cv, x1] 135 (0, 0))] * (tree E_ii pr r * (blks [(b, .cells #[E_ii.k k0, E_ii.v v0, .pointer pl, .pointer pr, .int .i64 (1 + max l.h r.h), .int .i64 (1 + l.m + r.m)] 153 (0, 0))] * (tree E_ii pl l * R)))) w := hS.to (by simp only [blks]; ac_rfl)
        refine O_call rfl rfl rfl rfl Tryd.call76 rfl (ihr s2 (by omega) hQ) (fun _ _ hv => trivial) ?_
        rintro _ w ⟨p', t', rfl, ht', hS⟩
        have hm' : t'.m ≤ r.m + 1 := by rw [T.m_len, T.m_len, ht', ins_len]; split <;> omega
        replace hS : Sat w0 (blks [(b, .cells #[E_ii.k k0, E_ii.v v0, .pointer pl, .pointer pr, .int .i64 (1 + max l.h r.h), .int .i64 (1 + l.m + r.m)] 153 (0, 0))] * (tree E_ii pl l * (tree E_ii p' t' * (blks [(rb, .cells #[E_ii.cv, x1] 135 (0, 0))] * R)))) w := hS.to (by simp only [blks]; ac_rfl)
        refine O_move rfl rfl rfl rfl rfl ?_
        refine O_extract rfl rfl rfl rfl rfl rfl ?_
        refine O_extract rfl rfl rfl rfl rfl rfl ?_
        refine O_nilCheck rfl rfl rfl rfl rfl ?_
        refine O_fieldAddr rfl rfl rfl rfl rfl Tryd.runUnderlying153 rfl Tryd.sizeOf133 ?_
        refine O_storeS hS rfl rfl rfl rfl rfl rfl rfl Tryd.sizeOf133 (by repeat (first | exact .here rfl rfl | apply SetAt.there)) (fun w' hv => trivial) ?_
        intro w hS
        refine O_assign rfl rfl rfl rfl rfl ?_
        refine R_nil ?_
        refine bn ?_
        refine tn ?_
        refine F_seq ?_
        refine F_region (p := ⟨_, [0, 2, 0, 0, 0], []⟩) rfl [0, 1, 2, 3, 4] rfl ?_
        refine O_move rfl rfl rfl rfl rfl ?_
        replace hS : Sat w0 (blks [(b, .cells #[E_ii.k k0, E_ii.v v0, .pointer pl, .pointer p', .int .i64 (1 + max l.h r.h), .int .i64 (1 + l.m + r.m)] 153 (0, 0))] * (tree E_ii pl l * (tree E_ii p' t' * (blks [(rb, .cells #[E_ii.cv, x1] 135 (0, 0))] * R)))) w := hS
        refine O_call rfl rfl rfl rfl Tryd.call84 rfl (even_ii (by omega) hS) (fun _ _ hv => trivial) ?_
        rintro _ w ⟨p'', t'', rfl, ht'', hS⟩
        refine O_move rfl rfl rfl rfl rfl ?_
        refine O_assign rfl rfl rfl rfl rfl ?_
        refine O_assign rfl rfl rfl rfl rfl ?_
        refine R_nil ?_
        refine tn ?_
        refine F_ret ?_
        show endF _ _ _ _ _ _
        refine end0 trivial rfl rfl rfl hS ?_
        intro w hS
        refine ⟨p'', t'', ?_, ?_, hS.b2⟩
        · rw [get_gt_ e2 s3]; rfl
        · rw [ht'', ht', ins_gt_ e2 s3]
      | false =>
        have hc : cmpv O_ii k k0 = 0 := by simp [cmpv, e1, e2]
        refine enterF (args := [_, _, _, _]) Tryd.func76 rfl Tryd.ntmps76 rfl rfl ?_
        refine F_seq ?_
        refine F_region (p := ⟨_, [0, 0], []⟩) rfl [0, 1] rfl ?_
        refine O_assign rfl rfl rfl rfl rfl ?_
        refine O_assign rfl rfl rfl rfl rfl ?_
        refine R_nil ?_
        refine tn ?_
        refine F_seq ?_
        refine F_seq ?_
        refine F_region (p := ⟨_, [0, 0], []⟩) rfl [0, 1] rfl ?_
        refine O_move rfl rfl rfl rfl rfl ?_
        refine O_eqNil rfl rfl rfl rfl rfl rfl Tryd.runUnderlying133 ?_
        refine R_nil ?_
        refine tn ?_
        refine F_false rfl rfl ?_
        refine F_skip ?_
        refine tn ?_
        refine F_seq ?_
        refine F_region (p := ⟨_, [0], []⟩) rfl [0] rfl ?_
        refine O_assign rfl rfl rfl rfl rfl ?_
        refine R_nil ?_
        refine tn ?_
        refine F_seq ?_
        refine F_seq ?_
        refine F_drawnS hS (by kernel_rfl) (p := ⟨_, [0, 0, 0, 1, 0, 0, 0, 0, 1, 2, 0], []⟩) rfl (.ofList [0, 1, 2, 3, 4, 5, 6, 7, 8, 9, 10]) (by kernel_rfl) ?_
        intro w hS
        refine O_move rfl rfl rfl rfl rfl ?_
        refine O_nilCheck rfl rfl rfl rfl rfl ?_
        refine O_fieldAddr rfl rfl rfl rfl rfl Tryd.runUnderlying135 rfl Tryd.sizeOf107 ?_
        refine O_loadS hS rfl rfl rfl rfl rfl Tryd.isAgg107 (by repeat (first | exact .here rfl | apply CellAt.there)) (by trivial) ?_
        refine O_move rfl rfl rfl rfl rfl ?_
        refine O_move rfl rfl rfl rfl rfl ?_
        refine O_nilCheck rfl rfl rfl rfl rfl ?_
        refine O_fieldAddr rfl rfl rfl rfl rfl Tryd.runUnderlying153 rfl Tryd.sizeOf3 ?_
        refine O_loadS hS rfl rfl rfl rfl rfl Tryd.isAgg3 (by repeat (first | exact .here rfl | apply CellAt.there)) (by trivial) ?_
        refine O_callv rfl rfl rfl rfl rfl rfl (cmp_ii k k0 hS) (fun _ _ hv => trivial) ?_
        rintro _ w ⟨rfl, hS⟩
        refine O_assign rfl rfl rfl rfl rfl ?_
        refine R_nil ?_
        refine tn ?_
        refine F_block ?_
        refine F_seq ?_
        refine F_region (p := ⟨_, [0, 0, 0], []⟩) rfl [0, 1, 2] rfl ?_
        refine O_move rfl rfl rfl rfl rfl ?_
        refine O_cmp rfl rfl rfl rfl rfl rfl rfl ?_
        refine O_assign rfl rfl rfl rfl rfl ?_
        refine R_nil ?_
        refine tn ?_
        refine F_false rfl (decide_eq_false (by omega)) ?_
        refine F_seq ?_
        refine F_region (p := ⟨_, [0, 0, 0], []⟩) rfl [0, 1, 2] rfl ?_
        refine O_move rfl rfl rfl rfl rfl ?_
        refine O_cmp rfl rfl rfl rfl rfl rfl rfl ?_
        refine O_assign rfl rfl rfl rfl rfl ?_
        refine R_nil ?_
        refine tn ?_
        refine F_false rfl (decide_eq_false (by omega)) ?_
        refine F_region (p := ⟨_, [0, 0, 0, 0, 2], []⟩) rfl [0, 1, 2, 3, 4] rfl ?_
        refine O_move rfl rfl rfl rfl rfl ?_
        refine O_move rfl rfl rfl rfl rfl ?_
        refine O_nilCheck rfl rfl rfl rfl rfl ?_
        refine O_fieldAddr rfl rfl rfl rfl rfl Tryd.runUnderlying153 rfl Tryd.sizeOf3 ?_
        refine O_storeS hS rfl rfl rfl rfl rfl rfl rfl Tryd.sizeOf3 (by repeat (first | exact .here rfl rfl | apply SetAt.there)) (fun w' hv => trivial) ?_
        intro w hS
        refine R_nil ?_
        refine bn ?_
        refine tn ?_
        refine F_seq ?_
        refine F_region (p := ⟨_, [0, 2, 0, 0, 0], []⟩) rfl [0, 1, 2, 3, 4] rfl ?_
        refine O_move rfl rfl rfl rfl rfl ?_
        replace hS : Sat w0 (blks [(rb, .cells #[E_ii.cv, x1] 135 (0, 0)), (b, .cells #[E_ii.k k0, E_ii.v v, .pointer pl, .pointer pr, .int .i64 (1 + max l.h r.h), .int .i64 (1 + l.m + r.m)] 153 (0, 0))] * (tree E_ii pl l * (tree E_ii pr r * R))) w := hS
        replace hS : Sat w0 (blks [(b, .cells #[E_ii.k k0, E_ii.v v, .pointer pl, .pointer pr, .int .i64 (1 + max l.h r.h), .int .i64 (1 + l.m + r.m)] 153 (0, 0))] * (tree E_ii pl l * (tree E_ii pr r * (blks [(rb, .cells #[E_ii.cv, x1] 135 (0, 0))] * R)))) w := hS.to (by simp only [blks]; ac_rfl)
        refine O_call rfl rfl rfl rfl Tryd.call84 rfl (even_ii (by omega) hS) (fun _ _ hv => trivial) ?_
        rintro _ w ⟨p'', t'', rfl, ht'', hS⟩
        refine O_move rfl rfl rfl rfl rfl ?_
        refine O_assign rfl rfl rfl rfl rfl ?_
        refine O_assign rfl rfl rfl rfl rfl ?_
        refine R_nil ?_
        refine tn ?_
        refine F_ret ?_
        show endF _ _ _ _ _ _
        refine end0 trivial rfl rfl rfl hS ?_
        intro w hS
        refine ⟨p'', t'', ?_, ?_, hS.b2⟩
        · rw [get_eq e1 e2 s3]; rfl
        · rw [ht'', ins_eq e1 e2 s3]
theorem New_ii {w0 w : World} {R : HProp} (hS : Sat w0 R w) : Calls Tryd.prog 50 #[E_ii.cv] w (ret fun u w' => ∃ rb, u = .pointer (some ⟨rb, 0, none⟩) ∧ Sat w0 (rackP E_ii O_ii rb [] * R) w') := by
  replace hS := hS.noblks
  refine enterF (args := [_]) Tryd.func50 rfl Tryd.ntmps50 rfl rfl ?_
  refine F_seq ?_
  refine F_region (p := ⟨_, [0], []⟩) rfl [0] rfl ?_
  refine O_assign rfl rfl rfl rfl rfl ?_
  refine R_nil ?_
  refine tn ?_
  refine F_seq ?_
  refine F_region (p := ⟨_, [0, 0, 2, 0], []⟩) rfl [0, 1, 2, 3] rfl ?_
  refine O_move rfl rfl rfl rfl rfl ?_
  refine O_build rfl rfl rfl rfl rfl (run_buildS [_, _] Tryd.zeroValue135 Tryd.runUnderlying135 (fun _ => 1) ⟨Tryd.sizeOf107, Tryd.sizeOf133, trivial⟩ rfl) ?_
  refine O_boxS hS rfl rfl rfl rfl rfl (fun _ _ hv => trivial) ?_
  intro b1 w hS
  refine O_assign rfl rfl rfl rfl rfl ?_
  refine R_nil ?_
  refine tn ?_
  refine F_ret ?_
  show endF _ _ _ _ _ _
  refine end0 trivial rfl rfl rfl hS ?_
  intro w hS
  exact ⟨_, rfl, rackP_mk (t := .leaf) rfl (by simp [Srt]) ((tree_leaf_mk (E := E_ii) (hS.to (by simp only [blks]; ac_rfl))).b2)⟩
theorem Put_ii {w0 w : World} {R : HProp} {rb : Nat} {xs : List (Int × Int)} (k : Int) (v : Int) (hm : (xs.length : Int) ≤ 4611686018427370000) (hS : Sat w0 (rackP E_ii O_ii rb xs * R) w) :
    Calls Tryd.prog 56 #[.pointer (some ⟨rb, 0, none⟩), E_ii.k k, E_ii.v v] w (ret fun u w' => u = .bool (get O_ii k xs).isSome ∧ Sat w0 (rackP E_ii O_ii rb (ins O_ii k v xs) * R) w') := by
  obtain ⟨root, t, rfl, hs, hS⟩ := rackP_open hS
  have hm' : t.m ≤ 4611686018427370000 := by rw [T.m_len]; exact hm
  refine enterF (args := [_, _, _]) Tryd.func56 rfl Tryd.ntmps56 rfl rfl ?_
  refine F_seq ?_
  refine F_region (p := ⟨_, [0], []⟩) rfl [0] rfl ?_
  refine O_assign rfl rfl rfl rfl rfl ?_
  refine R_nil ?_
  refine tn ?_
  refine F_seq ?_
  refine F_region (p := ⟨_, [0, 0, 0, 0, 1, 0, 0, 2, 0, 0, 0, 0, 0], []⟩) rfl [0, 1, 2, 3, 4, 5, 6, 7, 8, 9, 10, 11, 12] rfl ?_
  refine O_move rfl rfl rfl rfl rfl ?_
  refine O_move rfl rfl rfl rfl rfl ?_
  refine O_nilCheck rfl rfl rfl rfl rfl ?_
  refine O_fieldAddr rfl rfl rfl rfl rfl Tryd.runUnderlying135 rfl Tryd.sizeOf133 ?_
  refine O_loadS hS rfl rfl rfl rfl rfl Tryd.isAgg133 (by repeat (first | exact .here rfl | apply CellAt.there)) (by trivial) ?_
  refine O_move rfl rfl rfl rfl rfl ?_
  refine O_move rfl rfl rfl rfl rfl ?_
  refine O_call rfl rfl rfl rfl Tryd.call76 rfl (put_ii t hs hm' hS) (fun _ _ hv => trivial) ?_
  rintro _ w ⟨p', t', rfl, ht', hS⟩
  refine O_move rfl rfl rfl rfl rfl ?_
  refine O_extract rfl rfl rfl rfl rfl rfl ?_
  refine O_extract rfl rfl rfl rfl rfl rfl ?_
  refine O_assign rfl rfl rfl rfl rfl ?_
  refine O_assign rfl rfl rfl rfl rfl ?_
  refine R_nil ?_
  refine tn ?_
  refine F_seq ?_
  refine F_region (p := ⟨_, [0, 0, 0, 0, 2], []⟩) rfl [0, 1, 2, 3, 4] rfl ?_
  refine O_move rfl rfl rfl rfl rfl ?_
  refine O_move rfl rfl rfl rfl rfl ?_
  refine O_nilCheck rfl rfl rfl rfl rfl ?_
  refine O_fieldAddr rfl rfl rfl rfl rfl Tryd.runUnderlying135 rfl Tryd.sizeOf133 ?_
  refine O_storeS hS rfl rfl rfl rfl rfl rfl rfl Tryd.sizeOf133 (by repeat (first | exact .here rfl rfl | apply SetAt.there)) (fun w' hv => trivial) ?_
  intro w hS
  refine R_nil ?_
  refine tn ?_
  refine F_seq ?_
  refine F_region (p := ⟨_, [0, 0], []⟩) rfl [0, 1] rfl ?_
  refine O_move rfl rfl rfl rfl rfl ?_
  refine O_assign rfl rfl rfl rfl rfl ?_
  refine R_nil ?_
  refine tn ?_
  refine F_ret ?_
  show endF _ _ _ _ _ _
  refine end0 trivial rfl rfl rfl hS ?_
  intro w hS
  exact ⟨rfl, rackP_mk ht' (ins_srt hs) hS⟩
theorem Get_ii {w0 w : World} {R : HProp} {rb : Nat} {xs : List (Int × Int)} (k : Int) (hS : Sat w0 (rackP E_ii O_ii rb xs * R) w) :
    Calls Tryd.prog 77 #[.pointer (some ⟨rb, 0, none⟩), E_ii.k k] w (ret fun u w' => u = getV E_ii (.int .i64 0) (get O_ii k xs) ∧ Sat w0 (rackP E_ii O_ii rb xs * R) w') := by
  obtain ⟨root, t0, rfl, hs, hS⟩ := rackP_open hS
  refine enterF (args := [_, _]) Tryd.func77 rfl Tryd.ntmps77 rfl rfl ?_
  refine F_seq ?_
  refine F_region (p := ⟨_, [0, 0], []⟩) rfl [0, 1] rfl ?_
  refine O_assign rfl rfl rfl rfl rfl ?_
  refine O_assign rfl rfl rfl rfl rfl ?_
  refine R_nil ?_
  refine tn ?_
  refine F_seq ?_
  refine F_seq ?_
  refine F_region (p := ⟨_, [0, 0, 0, 1, 0], []⟩) rfl [0, 1, 2, 3, 4] rfl ?_
  refine O_move rfl rfl rfl rfl rfl ?_
  refine O_nilCheck rfl rfl rfl rfl rfl ?_
  refine O_fieldAddr rfl rfl rfl rfl rfl Tryd.runUnderlying135 rfl Tryd.sizeOf133 ?_
  refine O_loadS hS rfl rfl rfl rfl rfl Tryd.isAgg133 (by repeat (first | exact .here rfl | apply CellAt.there)) (by trivial) ?_
  refine O_assign rfl rfl rfl rfl rfl ?_
  refine R_nil ?_
  refine tn ?_
  refine F_block ?_
  refine F_loop (α := Option Addr × T Int Int) (fun x => [(0, .pointer (some ⟨rb, 0, none⟩)), (1, E_ii.k k), (4, (.int .i64 0)), (5, .bool false), (6, .pointer x.1)]) (fun x w => get O_ii k x.2.toList = get O_ii k t0.toList ∧ Srt O_ii x.2.toList ∧ ∃ C : HProp, Sat w0 (blks [(rb, .cells #[E_ii.cv, .pointer root] 135 (0, 0))] * (tree E_ii x.1 x.2 * (C * R))) w ∧ ∀ R' w', Sat w0 (tree E_ii x.1 x.2 * (C * R')) w' → Sat w0 (tree E_ii root t0 * R') w') (fun x => x.2.sz) (root, t0) ⟨rfl, rfl, rfl, rfl, rfl, trivial⟩ ⟨rfl, hs, hemp, hS.to (by ac_rfl), fun R' w' h' => h'.to (by ac_rfl)⟩ ?_
  clear hS
  rintro ⟨p, t⟩ w ⟨hg, hs', C, hS, hC⟩
  cases t with
  | leaf =>
    obtain ⟨rfl, hN⟩ := tree_leaf hS.b2
    clear hS
    have hS := hN
    refine F_seq ?_
    refine F_seq ?_
    refine F_region (p := ⟨_, [0, 0], []⟩) rfl [0, 1] rfl ?_
    refine O_move rfl rfl rfl rfl rfl ?_
    refine O_neNil rfl rfl rfl rfl rfl rfl Tryd.runUnderlying133 ?_
    refine R_nil ?_
    refine tn ?_
    refine F_false rfl rfl ?_
    refine F_exit ?_
    refine tx ?_
    refine tx ?_
    refine Go.Sl.bx rfl ?_
    refine tn ?_
    refine F_seq ?_
    refine F_region (p := ⟨_, [0], []⟩) rfl [0] rfl ?_
    refine O_assign rfl rfl rfl rfl rfl ?_
    refine R_nil ?_
    refine tn ?_
    refine F_seq ?_
    refine F_region (p := ⟨_, [0, 0, 0], []⟩) rfl [0, 1, 2] rfl ?_
    refine O_move rfl rfl rfl rfl rfl ?_
    refine O_assign rfl rfl rfl rfl rfl ?_
    refine O_assign rfl rfl rfl rfl rfl ?_
    refine R_nil ?_
    refine tn ?_
    refine F_ret ?_
    show endF _ _ _ _ _ _
    refine end0 trivial rfl rfl rfl hS ?_
    intro w hS
    refine ⟨by rw [← hg]; rfl, ?_⟩
    exact rackP_mk rfl hs ((hC _ _ ((tree_leaf_mk (E := E_ii) (hS.to (A := _) (by ac_rfl)) : Sat w0 (tree E_ii none .leaf * (C * (blks [(rb, .cells #[E_ii.cv, .pointer root] 135 (0, 0))] * R))) w))).b2)
  | node l k0 v0 r =>
    obtain ⟨b, pl, pr, rfl, hN⟩ := tree_node hS.b2
    clear hS
    simp only [T.toList] at hg hs'
    obtain ⟨s1, s2, s3, s4⟩ := srt_left hs'
    have hS : Sat w0 (blks [(rb, .cells #[E_ii.cv, .pointer root] 135 (0, 0)), (b, .cells #[E_ii.k k0, E_ii.v v0, .pointer pl, .pointer pr, .int .i64 (1 + max l.h r.h), .int .i64 (1 + l.m + r.m)] 153 (0, 0))] * (tree E_ii pl l * (tree E_ii pr r * (C * R)))) w := hN.to (by simp only [blks]; ac_rfl)
    clear hN
    cases e1 : O_ii.lt k k0 with
    | true =>
      have hc : cmpv O_ii k k0 = -1 := by simp [cmpv, e1]
      refine F_seq ?_
      refine F_seq ?_
      refine F_region (p := ⟨_, [0, 0], []⟩) rfl [0, 1] rfl ?_
      refine O_move rfl rfl rfl rfl rfl ?_
      refine O_neNil rfl rfl rfl rfl rfl rfl Tryd.runUnderlying133 ?_
      refine R_nil ?_
      refine tn ?_
      refine F_true rfl rfl ?_
      refine F_skip ?_
      refine tn ?_
      refine F_block ?_
      refine F_seq ?_
      refine F_drawnS hS (by kernel_rfl) (p := ⟨_, [0, 0, 0, 1, 0, 0, 0, 0, 1, 2, 0], []⟩) rfl (.ofList [0, 1, 2, 3, 4, 5, 6, 7, 8, 9, 10]) (by kernel_rfl) ?_
      intro w hS
      refine O_move rfl rfl rfl rfl rfl ?_
      refine O_nilCheck rfl rfl rfl rfl rfl ?_
      refine O_fieldAddr rfl rfl rfl rfl rfl Tryd.runUnderlying135 rfl Tryd.sizeOf107 ?_
      refine O_loadS hS rfl rfl rfl rfl rfl Tryd.isAgg107 (by repeat (first | exact .here rfl | apply CellAt.there)) (by trivial) ?_
      refine O_move rfl rfl rfl rfl rfl ?_
      refine O_move rfl rfl rfl rfl rfl ?_
      refine O_nilCheck rfl rfl rfl rfl rfl ?_
      refine O_fieldAddr rfl rfl rfl rfl rfl Tryd.runUnderlying153 rfl Tryd.sizeOf3 ?_
      refine O_loadS hS rfl rfl rfl rfl rfl Tryd.isAgg3 (by repeat (first | exact .here rfl | apply CellAt.there)) (by trivial) ?_
      refine O_callv rfl rfl rfl rfl rfl rfl (cmp_ii k k0 hS) (fun _ _ hv => trivial) ?_
      rintro _ w ⟨rfl, hS⟩
      refine O_assign rfl rfl rfl rfl rfl ?_
      refine R_nil ?_
      refine tn ?_
      refine F_seq ?_
      refine F_seq ?_
      refine F_region (p := ⟨_, [0, 0], []⟩) rfl [0, 1] rfl ?_
      refine O_move rfl rfl rfl rfl rfl ?_
      refine O_cmp rfl rfl rfl rfl rfl rfl rfl ?_
      refine R_nil ?_
      refine tn ?_
      refine F_false rfl (decide_eq_false (by omega)) ?_
      refine F_skip ?_
      refine tn ?_
      refine F_seq ?_
      refine F_region (p := ⟨_, [0, 0], []⟩) rfl [0, 1] rfl ?_
      refine O_move rfl rfl rfl rfl rfl ?_
      refine O_cmp rfl rfl rfl rfl rfl rfl rfl ?_
      refine R_nil ?_
      refine tn ?_
      refine F_true rfl (decide_eq_true (by omega)) ?_
      refine F_region (p := ⟨_, [0, 0, 0, 1, 0], []⟩) rfl [0, 1, 2, 3, 4] rfl ?_
      refine O_move rfl rfl rfl rfl rfl ?_
      refine O_nilCheck rfl rfl rfl rfl rfl ?_
      refine O_fieldAddr rfl rfl rfl rfl rfl Tryd.runUnderlying153 rfl Tryd.sizeOf133 ?_
      refine O_loadS hS rfl rfl rfl rfl rfl Tryd.isAgg133 (by repeat (first | exact .here rfl | apply CellAt.there)) (by trivial) ?_
      refine O_assign rfl rfl rfl rfl rfl ?_
      refine R_nil ?_
      refine bn ?_
      refine tn ⟨rfl, rfl, (pl, l), ⟨rfl, rfl, rfl, rfl, rfl, trivial⟩, ⟨?_, s1, (blks [(b, .cells #[E_ii.k k0, E_ii.v v0, .pointer pl, .pointer pr, .int .i64 (1 + max l.h r.h), .int .i64 (1 + l.m + r.m)] 153 (0, 0))] * tree E_ii pr r) * C, ?_, ?_⟩, ?_⟩
      · rw [← hg, get_lt e1]
      · exact hS.to (by simp only [blks]; ac_rfl)
      · intro R' w' h'; dsimp only at h'
        have h2 : Sat w0 (blks [(b, .cells #[E_ii.k k0, E_ii.v v0, .pointer pl, .pointer pr, .int .i64 (1 + max l.h r.h), .int .i64 (1 + l.m + r.m)] 153 (0, 0))] * (tree E_ii pl l * (tree E_ii pr r * (C * R')))) w' := h'.to (by ac_rfl)
        exact hC R' w' (tree_node_mk rfl rfl h2)
      · simp only [T.sz]; omega
    | false =>
      cases e2 : O_ii.lt k0 k with
      | true =>
        have hc : cmpv O_ii k k0 = 1 := by simp [cmpv, e1, e2]
        refine F_seq ?_
        refine F_seq ?_
        refine F_region (p := ⟨_, [0, 0], []⟩) rfl [0, 1] rfl ?_
        refine O_move rfl rfl rfl rfl rfl ?_
        refine O_neNil rfl rfl rfl rfl rfl rfl Tryd.runUnderlying133 ?_
        refine R_nil ?_
        refine tn ?_
        refine F_true rfl rfl ?_
        refine F_skip ?_
        refine tn ?_
        refine F_block ?_
        refine F_seq ?_
        refine F_drawnS hS (by kernel_rfl) (p := ⟨_, [0, 0, 0, 1, 0, 0, 0, 0, 1, 2, 0], []⟩) rfl (.ofList [0, 1, 2, 3, 4, 5, 6, 7, 8, 9, 10]) (by kernel_rfl) ?_
        intro w hS
        refine O_move rfl rfl rfl rfl rfl ?_
        refine O_nilCheck rfl rfl rfl rfl rfl ?_
        refine O_fieldAddr rfl rfl rfl rfl rfl Tryd.runUnderlying135 rfl Tryd.sizeOf107 ?_
        refine O_loadS hS rfl rfl rfl rfl rfl Tryd.isAgg107 (by repeat (first | exact .here rfl | apply CellAt.there)) (by trivial) ?_
        refine O_move rfl rfl rfl rfl rfl ?_
        refine O_move rfl rfl rfl rfl rfl ?_
        refine O_nilCheck rfl rfl rfl rfl rfl ?_
        refine O_fieldAddr rfl rfl rfl rfl rfl Tryd.runUnderlying153 rfl Tryd.sizeOf3 ?_
        refine O_loadS hS rfl rfl rfl rfl rfl Tryd.isAgg3 (by repeat (first | exact .here rfl | apply CellAt.there)) (by trivial) ?_
        refine O_callv rfl rfl rfl rfl rfl rfl (cmp_ii k k0 hS) (fun _ _ hv => trivial) ?_
        rintro _ w ⟨rfl, hS⟩
        refine O_assign rfl rfl rfl rfl rfl ?_
        refine R_nil ?_
        refine tn ?_
        refine F_seq ?_
        refine F_seq ?_
        refine F_region (p := ⟨_, [0, 0], []⟩) rfl [0, 1] rfl ?_
        refine O_move rfl rfl rfl rfl rfl ?_
        refine O_cmp rfl rfl rfl rfl rfl rfl rfl ?_
        refine R_nil ?_
        refine tn ?_
        refine F_false rfl (decide_eq_false (by omega)) ?_
        refine F_skip ?_
        refine tn ?_
        refine F_seq ?_
        refine F_region (p := ⟨_, [0, 0], []⟩) rfl [0, 1] rfl ?_
        refine O_move rfl rfl rfl rfl rfl ?_
        refine O_cmp rfl rfl rfl rfl rfl rfl rfl ?_
        refine R_nil ?_
        refine tn ?_
        refine F_false rfl (decide_eq_false (by omega)) ?_
        refine F_region (p := ⟨_, [0, 0, 0, 1, 0], []⟩) rfl [0, 1, 2, 3, 4] rfl ?_
        refine O_move rfl rfl rfl rfl rfl ?_
        refine O_nilCheck rfl rfl rfl rfl rfl ?_
        refine O_fieldAddr rfl rfl rfl rfl rfl Tryd.runUnderlying153 rfl Tryd.sizeOf133 ?_
        refine O_loadS hS rfl rfl rfl rfl rfl Tryd.isAgg133 (by repeat (first | exact .here rfl | apply CellAt.there)) (by trivial) ?_
        refine O_assign rfl rfl rfl rfl rfl ?_
        refine R_nil ?_
        refine bn ?_
        refine tn ⟨rfl, rfl, (pr, r), ⟨rfl, rfl, rfl, rfl, rfl, trivial⟩, ⟨?_, s2, (blks [(b, .cells #[E_ii.k k0, E_ii.v v0, .pointer pl, .pointer pr, .int .i64 (1 + max l.h r.h), .int .i64 (1 + l.m + r.m)] 153 (0, 0))] * tree E_ii pl l) * C, ?_, ?_⟩, ?_⟩
        · rw [← hg, get_gt_ e2 s3]
        · exact hS.to (by simp only [blks]; ac_rfl)
        · intro R' w' h'; dsimp only at h'
          have h2 : Sat w0 (blks [(b, .cells #[E_ii.k k0, E_ii.v v0, .pointer pl, .pointer pr, .int .i64 (1 + max l.h r.h), .int .i64 (1 + l.m + r.m)] 153 (0, 0))] * (tree E_ii pl l * (tree E_ii pr r * (C * R')))) w' := h'.to (by ac_rfl)
          exact hC R' w' (tree_node_mk rfl rfl h2)
        · simp only [T.sz]; omega
      | false =>
        have hc : cmpv O_ii k k0 = 0 := by simp [cmpv, e1, e2]
        refine F_seq ?_
        refine F_seq ?_
        refine F_region (p := ⟨_, [0, 0], []⟩) rfl [0, 1] rfl ?_
        refine O_move rfl rfl rfl rfl rfl ?_
        refine O_neNil rfl rfl rfl rfl rfl rfl Tryd.runUnderlying133 ?_
        refine R_nil ?_
        refine tn ?_
        refine F_true rfl rfl ?_
        refine F_skip ?_
        refine tn ?_
        refine F_block ?_
        refine F_seq ?_
        refine F_drawnS hS (by kernel_rfl) (p := ⟨_, [0, 0, 0, 1, 0, 0, 0, 0, 1, 2, 0], []⟩) rfl (.ofList [0, 1, 2, 3, 4, 5, 6, 7, 8, 9, 10]) (by kernel_rfl) ?_
        intro w hS
        refine O_move rfl rfl rfl rfl rfl ?_
        refine O_nilCheck rfl rfl rfl rfl rfl ?_
        refine O_fieldAddr rfl rfl rfl rfl rfl Tryd.runUnderlying135 rfl Tryd.sizeOf107 ?_
        refine O_loadS hS rfl rfl rfl rfl rfl Tryd.isAgg107 (by repeat (first | exact .here rfl | apply CellAt.there)) (by trivial) ?_
        refine O_move rfl rfl rfl rfl rfl ?_
        refine O_move rfl rfl rfl rfl rfl ?_
        refine O_nilCheck rfl rfl rfl rfl rfl ?_
        refine O_fieldAddr rfl rfl rfl rfl rfl Tryd.runUnderlying153 rfl Tryd.sizeOf3 ?_
        refine O_loadS hS rfl rfl rfl rfl rfl Tryd.isAgg3 (by repeat (first | exact .here rfl | apply CellAt.there)) (by trivial) ?_
        refine O_callv rfl rfl rfl rfl rfl rfl (cmp_ii k k0 hS) (fun _ _ hv => trivial) ?_
        rintro _ w ⟨rfl, hS⟩
        refine O_assign rfl rfl rfl rfl rfl ?_
        refine R_nil ?_
        refine tn ?_
        refine F_seq ?_
        refine F_seq ?_
        refine F_region (p := ⟨_, [0, 0], []⟩) rfl [0, 1] rfl ?_
        refine O_move rfl rfl rfl rfl rfl ?_
        refine O_cmp rfl rfl rfl rfl rfl rfl rfl ?_
        refine R_nil ?_
        refine tn ?_
        refine F_true rfl (decide_eq_true (by omega)) ?_
        refine F_seq ?_
        refine F_region (p := ⟨_, [0, 0, 0, 1, 0, 0], []⟩) rfl [0, 1, 2, 3, 4, 5] rfl ?_
        refine O_move rfl rfl rfl rfl rfl ?_
        refine O_nilCheck rfl rfl rfl rfl rfl ?_
        refine O_fieldAddr rfl rfl rfl rfl rfl Tryd.runUnderlying153 rfl Tryd.sizeOf3 ?_
        refine O_loadS hS rfl rfl rfl rfl rfl Tryd.isAgg3 (by repeat (first | exact .here rfl | apply CellAt.there)) (by trivial) ?_
        refine O_assign rfl rfl rfl rfl rfl ?_
        refine O_assign rfl rfl rfl rfl rfl ?_
        refine R_nil ?_
        refine tn ?_
        refine F_ret ?_
        refine tr ?_
        refine br ?_
        refine tr ?_
        refine br ?_
        refine tr ?_
        show endF _ _ _ _ _ _
        refine end0 trivial rfl rfl rfl hS ?_
        intro w hS
        refine ⟨by rw [← hg, get_eq e1 e2 s3]; rfl, ?_⟩
        have hq : Sat w0 (blks [(b, .cells #[E_ii.k k0, E_ii.v v0, .pointer pl, .pointer pr, .int .i64 (1 + max l.h r.h), .int .i64 (1 + l.m + r.m)] 153 (0, 0))] * (tree E_ii pl l * (tree E_ii pr r * (C * (blks [(rb, .cells #[E_ii.cv, .pointer root] 135 (0, 0))] * R))))) w := hS.to (by simp only [blks]; ac_rfl)
        exact rackP_mk rfl hs (hC _ _ (tree_node_mk rfl rfl hq)).b2
theorem ahead_ii {w0 w : World} {B : HProp} (k : Int) (hS : Sat w0 B w) : FV Tryd.prog (.func (.func 87) #[] #[]) [E_ii.k k].toArray w (fun v w' => v = .bool false ∧ Sat w0 B w') := by
  refine FV.of_calls Tryd.call87 ?_
  show Calls Tryd.prog 87 (#[] ++ [E_ii.k k].toArray ++ #[]) w _
  rw [Array.empty_append, Array.append_empty]
  refine enterF (args := [_]) Tryd.func87 rfl Tryd.ntmps87 rfl rfl ?_
  refine F_seq ?_
  refine F_region (p := ⟨_, [0], []⟩) rfl [0] rfl ?_
  refine O_assign rfl rfl rfl rfl rfl ?_
  refine R_nil ?_
  refine tn ?_
  refine F_seq ?_
  refine F_region (p := ⟨_, [0], []⟩) rfl [0] rfl ?_
  refine O_assign rfl rfl rfl rfl rfl ?_
  refine R_nil ?_
  refine tn ?_
  refine F_ret ?_
  show endF _ _ _ _ _ _
  refine end0 trivial rfl rfl rfl hS ?_
  intro w hS
  exact ⟨rfl, hS⟩
theorem up_ii {w0 : World} {y : Value} {J Jx : List (Int × Int) → HProp} {xs : List (Int × Int)}
    (hy : ∀ pre x post R w, xs = pre ++ x :: post → Sat w0 (J pre * R) w → FV Tryd.prog y [E_ii.k x.1, E_ii.v x.2].toArray w (fun r w' => (r = .bool true ∧ Sat w0 (J (pre ++ [x]) * R) w') ∨ (r = .bool false ∧ Sat w0 (Jx (pre ++ [x]) * R) w')))
    (t : T Int Int) : ∀ {w : World} {R : HProp} {p : Option Addr} {pre post : List (Int × Int)} (hx : xs = pre ++ (t.toList ++ post)) (hS : Sat w0 (tree E_ii p t * (J pre * R)) w),
    Calls Tryd.prog 86 #[.pointer p, .func (.func 87) #[] #[], y] w (ret fun u w' => (u = .bool true ∧ Sat w0 (tree E_ii p t * (J (pre ++ t.toList) * R)) w') ∨ (u = .bool false ∧ ∃ q, q <+: t.toList ∧ Sat w0 (tree E_ii p t * (Jx (pre ++ q) * R)) w')) := by
  induction t with
  | leaf =>
    intro w R p pre post hx hS
    obtain ⟨rfl, hN⟩ := tree_leaf hS
    clear hS
    have hS := hN
    refine enterF (args := [_, _, _]) Tryd.func86 rfl Tryd.ntmps86 rfl rfl ?_
    refine F_seq ?_
    refine F_region (p := ⟨_, [0], []⟩) rfl [0] rfl ?_
    refine O_assign rfl rfl rfl rfl rfl ?_
    refine R_nil ?_
    refine tn ?_
    refine F_seq ?_
    refine F_seq ?_
    refine F_region (p := ⟨_, [0, 0], []⟩) rfl [0, 1] rfl ?_
    refine O_move rfl rfl rfl rfl rfl ?_
    refine O_eqNil rfl rfl rfl rfl rfl rfl Tryd.runUnderlying133 ?_
    refine R_nil ?_
    refine tn ?_
    refine F_true rfl rfl ?_
    refine F_seq ?_
    refine F_region (p := ⟨_, [0], []⟩) rfl [0] rfl ?_
    refine O_assign rfl rfl rfl rfl rfl ?_
    refine R_nil ?_
    refine tn ?_
    refine F_ret ?_
    refine tr ?_
    show endF _ _ _ _ _ _
    refine end0 trivial rfl rfl rfl hS ?_
    intro w hS
    exact .inl ⟨rfl, tree_leaf_mk (by simpa [T.toList] using hS)⟩
  | node l k v r ihl ihr =>
    intro w R p pre post hx hS
    obtain ⟨b, pl, pr, rfl, hN⟩ := tree_node hS
    clear hS
    simp only [T.toList, List.append_assoc, List.cons_append] at hx ⊢
    have hS : Sat w0 (blks [(b, .cells #[E_ii.k k, E_ii.v v, .pointer pl, .pointer pr, .int .i64 (1 + max l.h r.h), .int .i64 (1 + l.m + r.m)] 153 (0, 0))] * (tree E_ii pl l * (tree E_ii pr r * (J pre * R)))) w := hN
    clear hN
    refine enterF (args := [_, _, _]) Tryd.func86 rfl Tryd.ntmps86 rfl rfl ?_
    refine F_seq ?_
    refine F_region (p := ⟨_, [0], []⟩) rfl [0] rfl ?_
    refine O_assign rfl rfl rfl rfl rfl ?_
    refine R_nil ?_
    refine tn ?_
    refine F_seq ?_
    refine F_seq ?_
    refine F_region (p := ⟨_, [0, 0], []⟩) rfl [0, 1] rfl ?_
    refine O_move rfl rfl rfl rfl rfl ?_
    refine O_eqNil rfl rfl rfl rfl rfl rfl Tryd.runUnderlying133 ?_
    refine R_nil ?_
    refine tn ?_
    refine F_false rfl rfl ?_
    refine F_skip ?_
    refine tn ?_
    refine F_seq ?_
    refine F_seq ?_
    refine F_region (p := ⟨_, [0, 0, 0, 0, 1, 2], []⟩) rfl [0, 1, 2, 3, 4, 5] rfl ?_
    refine O_move rfl rfl rfl rfl rfl ?_
    refine O_move rfl rfl rfl rfl rfl ?_
    refine O_nilCheck rfl rfl rfl rfl rfl ?_
    refine O_fieldAddr rfl rfl rfl rfl rfl Tryd.runUnderlying153 rfl Tryd.sizeOf3 ?_
    refine O_loadS hS rfl rfl rfl rfl rfl Tryd.isAgg3 (by repeat (first | exact .here rfl | apply CellAt.there)) (by trivial) ?_
    refine O_callv rfl rfl rfl rfl rfl rfl (ahead_ii k hS) (fun _ _ hv => trivial) ?_
    rintro _ w ⟨rfl, hS⟩
    refine R_nil ?_
    refine tn ?_
    refine F_false rfl rfl ?_
    refine F_skip ?_
    refine tn ?_
    refine F_seq ?_
    refine F_drawnS hS (by kernel_rfl) (p := ⟨_, [0, 0, 0, 1, 0, 0, 2, 0, 0, 0, 0, 0, 1, 0, 0, 0, 1, 2, 0, 0, 0, 0, 0, 1, 0, 0, 2, 0, 0], []⟩) rfl (.ofList [0, 1, 2, 3, 4, 5, 6, 7, 8, 9, 10, 11, 12, 13, 14, 15, 16, 17, 18, 19, 20, 21, 22, 23, 24, 25, 26, 27, 28]) (by kernel_rfl) ?_
    intro w hS
    refine O_move rfl rfl rfl rfl rfl ?_
    refine O_nilCheck rfl rfl rfl rfl rfl ?_
    refine O_fieldAddr rfl rfl rfl rfl rfl Tryd.runUnderlying153 rfl Tryd.sizeOf133 ?_
    refine O_loadS hS rfl rfl rfl rfl rfl Tryd.isAgg133 (by repeat (first | exact .here rfl | apply CellAt.there)) (by trivial) ?_
    refine O_move rfl rfl rfl rfl rfl ?_
    refine O_move rfl rfl rfl rfl rfl ?_
    have hQ : Sat w0 (tree E_ii pl l * (J pre * (blks [(b, .cells #[E_ii.k k, E_ii.v v, .pointer pl, .pointer pr, .int .i64 (1 + max l.h r.h), .int .i64 (1 + l.m + r.m)] 153 (0, 0))] * (tree E_ii pr r * R)))) w := hS.to (by simp only [blks]; ac_rfl)
    refine O_call rfl rfl rfl rfl Tryd.call86 rfl (ihl (post := (k, v) :: (r.toList ++ post)) hx hQ) (fun _ _ hv => trivial) ?_
    rintro _ w (⟨rfl, hS⟩ | ⟨rfl, q, hq, hS⟩)
    · replace hS : Sat w0 (blks [(b, .cells #[E_ii.k k, E_ii.v v, .pointer pl, .pointer pr, .int .i64 (1 + max l.h r.h), .int .i64 (1 + l.m + r.m)] 153 (0, 0))] * (tree E_ii pl l * (tree E_ii pr r * (J (pre ++ l.toList) * R)))) w := hS.to (by simp only [blks]; ac_rfl)
      refine O_move rfl rfl rfl rfl rfl ?_
      refine O_move rfl rfl rfl rfl rfl ?_
      refine O_move rfl rfl rfl rfl rfl ?_
      refine O_nilCheck rfl rfl rfl rfl rfl ?_
      refine O_fieldAddr rfl rfl rfl rfl rfl Tryd.runUnderlying153 rfl Tryd.sizeOf3 ?_
      refine O_loadS hS rfl rfl rfl rfl rfl Tryd.isAgg3 (by repeat (first | exact .here rfl | apply CellAt.there)) (by trivial) ?_
      refine O_move rfl rfl rfl rfl rfl ?_
      refine O_nilCheck rfl rfl rfl rfl rfl ?_
      refine O_fieldAddr rfl rfl rfl rfl rfl Tryd.runUnderlying153 rfl Tryd.sizeOf3 ?_
      refine O_loadS hS rfl rfl rfl rfl rfl Tryd.isAgg3 (by repeat (first | exact .here rfl | apply CellAt.there)) (by trivial) ?_
      have hQ : Sat w0 (J (pre ++ l.toList) * (blks [(b, .cells #[E_ii.k k, E_ii.v v, .pointer pl, .pointer pr, .int .i64 (1 + max l.h r.h), .int .i64 (1 + l.m + r.m)] 153 (0, 0))] * (tree E_ii pl l * (tree E_ii pr r * R)))) w := hS.to (by simp only [blks]; ac_rfl)
      refine O_callv rfl rfl rfl rfl rfl rfl (hy (pre ++ l.toList) (k, v) (r.toList ++ post) _ _ (by simpa using hx) hQ) (fun _ _ hv => trivial) ?_
      rintro _ w (⟨rfl, hS⟩ | ⟨rfl, hS⟩)
      · replace hS : Sat w0 (blks [(b, .cells #[E_ii.k k, E_ii.v v, .pointer pl, .pointer pr, .int .i64 (1 + max l.h r.h), .int .i64 (1 + l.m + r.m)] 153 (0, 0))] * (tree E_ii pl l * (tree E_ii pr r * (J (pre ++ l.toList ++ [(k, v)]) * R)))) w := hS.to (by simp only [blks]; ac_rfl)
        refine O_pickT rfl rfl rfl rfl rfl rfl ?_
        refine O_move rfl rfl rfl rfl rfl ?_
        refine O_move rfl rfl rfl rfl rfl ?_
        refine O_nilCheck rfl rfl rfl rfl rfl ?_
        refine O_fieldAddr rfl rfl rfl rfl rfl Tryd.runUnderlying153 rfl Tryd.sizeOf133 ?_
        refine O_loadS hS rfl rfl rfl rfl rfl Tryd.isAgg133 (by repeat (first | exact .here rfl | apply CellAt.there)) (by trivial) ?_
        refine O_move rfl rfl rfl rfl rfl ?_
        refine O_move rfl rfl rfl rfl rfl ?_
        have hQ : Sat w0 (tree E_ii pr r * (J (pre ++ l.toList ++ [(k, v)]) * (blks [(b, .cells #[E_ii.k k, E_ii.v v, .pointer pl, .pointer pr, .int .i64 (1 + max l.h r.h), .int .i64 (1 + l.m + r.m)] 153 (0, 0))] * (tree E_ii pl l * R)))) w := hS.to (by simp only [blks]; ac_rfl)
        refine O_call rfl rfl rfl rfl Tryd.call86 rfl (ihr (post := post) (by simpa using hx) hQ) (fun _ _ hv => trivial) ?_
        rintro _ w (⟨rfl, hS⟩ | ⟨rfl, q, hq, hS⟩)
        · replace hS : Sat w0 (blks [(b, .cells #[E_ii.k k, E_ii.v v, .pointer pl, .pointer pr, .int .i64 (1 + max l.h r.h), .int .i64 (1 + l.m + r.m)] 153 (0, 0))] * (tree E_ii pl l * (tree E_ii pr r * (J (pre ++ l.toList ++ [(k, v)] ++ r.toList) * R)))) w := hS.to (by simp only [blks]; ac_rfl)
          refine O_pickT rfl rfl rfl rfl rfl rfl ?_
          refine O_assign rfl rfl rfl rfl rfl ?_
          refine R_nil ?_
          refine tn ?_
          refine F_ret ?_
          show endF _ _ _ _ _ _
          refine end0 trivial rfl rfl rfl hS ?_
          intro w hS
          exact .inl ⟨rfl, tree_node_mk rfl rfl (by simpa [List.append_assoc] using hS)⟩
        · replace hS : Sat w0 (blks [(b, .cells #[E_ii.k k, E_ii.v v, .pointer pl, .pointer pr, .int .i64 (1 + max l.h r.h), .int .i64 (1 + l.m + r.m)] 153 (0, 0))] * (tree E_ii pl l * (tree E_ii pr r * (Jx (pre ++ l.toList ++ [(k, v)] ++ q) * R)))) w := hS.to (by simp only [blks]; ac_rfl)
          refine O_pickT rfl rfl rfl rfl rfl rfl ?_
          refine O_assign rfl rfl rfl rfl rfl ?_
          refine R_nil ?_
          refine tn ?_
          refine F_ret ?_
          show endF _ _ _ _ _ _
          refine end0 trivial rfl rfl rfl hS ?_
          intro w hS
          obtain ⟨z, hz⟩ := hq
          exact .inr ⟨rfl, l.toList ++ (k, v) :: q, ⟨z, by simp [← hz]⟩, tree_node_mk rfl rfl (by simpa [List.append_assoc] using hS)⟩
      · replace hS : Sat w0 (blks [(b, .cells #[E_ii.k k, E_ii.v v, .pointer pl, .pointer pr, .int .i64 (1 + max l.h r.h), .int .i64 (1 + l.m + r.m)] 153 (0, 0))] * (tree E_ii pl l * (tree E_ii pr r * (Jx (pre ++ l.toList ++ [(k, v)]) * R)))) w := hS.to (by simp only [blks]; ac_rfl)
        refine O_pickT rfl rfl rfl rfl rfl rfl ?_
        refine O_move rfl rfl rfl rfl rfl ?_
        refine R_skip rfl rfl rfl rfl ?_
        refine R_skip rfl rfl rfl rfl ?_
        refine R_skip rfl rfl rfl rfl ?_
        refine R_skip rfl rfl rfl rfl ?_
        refine R_skip rfl rfl rfl rfl ?_
        refine R_skip rfl rfl rfl rfl ?_
        refine R_skip rfl rfl rfl rfl ?_
        refine O_pickF rfl rfl rfl rfl rfl rfl ?_
        refine O_assign rfl rfl rfl rfl rfl ?_
        refine R_nil ?_
        refine tn ?_
        refine F_ret ?_
        show endF _ _ _ _ _ _
        refine end0 trivial rfl rfl rfl hS ?_
        intro w hS
        exact .inr ⟨rfl, l.toList ++ [(k, v)], ⟨r.toList, by simp⟩, tree_node_mk rfl rfl (by simpa [List.append_assoc] using hS)⟩
    · replace hS : Sat w0 (blks [(b, .cells #[E_ii.k k, E_ii.v v, .pointer pl, .pointer pr, .int .i64 (1 + max l.h r.h), .int .i64 (1 + l.m + r.m)] 153 (0, 0))] * (tree E_ii pl l * (tree E_ii pr r * (Jx (pre ++ q) * R)))) w := hS.to (by simp only [blks]; ac_rfl)
      refine O_move rfl rfl rfl rfl rfl ?_
      refine R_skip rfl rfl rfl rfl ?_
      refine R_skip rfl rfl rfl rfl ?_
      refine R_skip rfl rfl rfl rfl ?_
      refine R_skip rfl rfl rfl rfl ?_
      refine R_skip rfl rfl rfl rfl ?_
      refine R_skip rfl rfl rfl rfl ?_
      refine R_skip rfl rfl rfl rfl ?_
      refine R_skip rfl rfl rfl rfl ?_
      refine R_skip rfl rfl rfl rfl ?_
      refine R_skip rfl rfl rfl rfl ?_
      refine O_pickF rfl rfl rfl rfl rfl rfl ?_
      refine O_move rfl rfl rfl rfl rfl ?_
      refine R_skip rfl rfl rfl rfl ?_
      refine R_skip rfl rfl rfl rfl ?_
      refine R_skip rfl rfl rfl rfl ?_
      refine R_skip rfl rfl rfl rfl ?_
      refine R_skip rfl rfl rfl rfl ?_
      refine R_skip rfl rfl rfl rfl ?_
      refine R_skip rfl rfl rfl rfl ?_
      refine O_pickF rfl rfl rfl rfl rfl rfl ?_
      refine O_assign rfl rfl rfl rfl rfl ?_
      refine R_nil ?_
      refine tn ?_
      refine F_ret ?_
      show endF _ _ _ _ _ _
      refine end0 trivial rfl rfl rfl hS ?_
      intro w hS
      exact .inr ⟨rfl, q, hq.trans (by simp), tree_node_mk rfl rfl hS⟩
theorem all_ii_iter {rb bx : Nat} {xs : List (Int × Int)} : Iter Tryd.prog (.func (.func 85) #[] #[.pointer (some ⟨bx, 0, none⟩)]) (pt bx (.cells #[.pointer (some ⟨rb, 0, none⟩)] 105) * rackP E_ii O_ii rb xs) (fun x => [E_ii.k x.1, E_ii.v x.2].toArray) xs := by
  intro w0 y J Jx hyf hy R w hS
  obtain ⟨yn, ya, yc, rfl⟩ := hyf
  refine FV.of_list (args := [.func yn ya yc]) (cap := [.pointer (some ⟨bx, 0, none⟩)]) Tryd.call85 ?_
  replace hS : Sat w0 (rackP E_ii O_ii rb xs * (blks [(bx, .cells #[.pointer (some ⟨rb, 0, none⟩)] 105 (0, 0))] * (J [] * R))) w := hS.to (by simp only [blks]; ac_rfl)
  obtain ⟨root, t, rfl, hs, hS⟩ := rackP_open hS
  replace hS : Sat w0 (blks [(rb, .cells #[E_ii.cv, .pointer root] 135 (0, 0)), (bx, .cells #[.pointer (some ⟨rb, 0, none⟩)] 105 (0, 0))] * (tree E_ii root t * (J [] * R))) w := hS.to (by simp only [blks]; ac_rfl)
  refine enterF (args := [_, _]) Tryd.func85 rfl Tryd.ntmps85 rfl rfl ?_
  refine F_region (p := ⟨_, [1, 0, 0, 1, 0, 2], []⟩) rfl [0, 1, 2, 3, 4, 5] rfl ?_
  refine O_loadS hS rfl rfl rfl rfl rfl Tryd.isAgg105 (by repeat (first | exact .here rfl | apply CellAt.there)) (by trivial) ?_
  refine O_nilCheck rfl rfl rfl rfl rfl ?_
  refine O_fieldAddr rfl rfl rfl rfl rfl Tryd.runUnderlying135 rfl Tryd.sizeOf133 ?_
  refine O_loadS hS rfl rfl rfl rfl rfl Tryd.isAgg133 (by repeat (first | exact .here rfl | apply CellAt.there)) (by trivial) ?_
  refine O_move rfl rfl rfl rfl rfl ?_
  have hQ : Sat w0 (tree E_ii root t * (J [] * (blks [(rb, .cells #[E_ii.cv, .pointer root] 135 (0, 0)), (bx, .cells #[.pointer (some ⟨rb, 0, none⟩)] 105 (0, 0))] * R))) w := hS.to (by simp only [blks]; ac_rfl)
  refine O_call rfl rfl rfl rfl Tryd.call86 rfl (up_ii (xs := t.toList) hy t (post := []) (by simp) hQ) (fun _ _ hv => trivial) ?_
  rintro _ w hS
  refine R_nil ?_
  rcases hS with ⟨rfl, hS⟩ | ⟨rfl, q, hq, hS⟩
  ·
    show endF _ _ _ _ _ _
    refine end0 trivial rfl rfl rfl hS ?_
    intro w hS
    replace hS : Sat w0 (blks [(rb, .cells #[E_ii.cv, .pointer root] 135 (0, 0))] * (tree E_ii root t * (blks [(bx, .cells #[.pointer (some ⟨rb, 0, none⟩)] 105 (0, 0))] * (J t.toList * R)))) w := hS.to (by simp only [blks, List.nil_append]; ac_rfl)
    exact .inl ((rackP_mk rfl hs hS).to (by simp only [blks]; ac_rfl))
  ·
    show endF _ _ _ _ _ _
    refine end0 trivial rfl rfl rfl hS ?_
    intro w hS
    replace hS : Sat w0 (blks [(rb, .cells #[E_ii.cv, .pointer root] 135 (0, 0))] * (tree E_ii root t * (blks [(bx, .cells #[.pointer (some ⟨rb, 0, none⟩)] 105 (0, 0))] * (Jx q * R)))) w := hS.to (by simp only [blks, List.nil_append]; ac_rfl)
    exact .inr ⟨q, hq, ((rackP_mk rfl hs hS).to (by simp only [blks]; ac_rfl))⟩
theorem All_ii {w0 w : World} {R : HProp} {a : Value} (ha : ∃ rb, a = .pointer (some ⟨rb, 0, none⟩)) (hS : Sat w0 R w) : Calls Tryd.prog 78 #[a] w (ret fun u w' => ∃ bx, u = .func (.func 85) #[] #[.pointer (some ⟨bx, 0, none⟩)] ∧ Sat w0 (pt bx (.cells #[a] 105) * R) w') := by
  obtain ⟨rb, rfl⟩ := ha
  replace hS := hS.noblks
  refine enterF (args := [_]) Tryd.func78 rfl Tryd.ntmps78 rfl rfl ?_
  refine F_seq ?_
  refine F_region (p := ⟨_, [2, 0], []⟩) rfl [0, 1] rfl ?_
  refine O_boxS hS rfl rfl rfl rfl rfl (fun _ _ hv => trivial) ?_
  intro b1 w hS
  refine O_assign rfl rfl rfl rfl rfl ?_
  refine R_nil ?_
  refine tn ?_
  refine F_seq ?_
  refine F_region (p := ⟨_, [0, 0], []⟩) rfl [0, 1] rfl ?_
  refine O_makeFunc rfl rfl rfl rfl rfl rfl ?_
  refine O_assign rfl rfl rfl rfl rfl ?_
  refine R_nil ?_
  refine tn ?_
  refine F_ret ?_
  show endF _ _ _ _ _ _
  refine end0 trivial rfl rfl rfl hS ?_
  intro w hS
  exact ⟨_, rfl, hS.to (by simp only [blks]; ac_rfl)⟩
end Go.Proofs.YtpnigaoibhogfaaDoor
