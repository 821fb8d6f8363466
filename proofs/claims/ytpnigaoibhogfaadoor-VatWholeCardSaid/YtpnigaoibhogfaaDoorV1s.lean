/- YtpnigaoibhogfaaDoorV1s: a part of the proof: walks over the translated code, and plain facts on lists beside. -/
import Derived.Test.YtpnigaoibhogfaaDoorV1
set_option linter.all false
namespace Go.Proofs.YtpnigaoibhogfaaDoor
open Go Go.RowKit Go.Sl
set_option linter.unusedVariables false
abbrev E_si : Enc ByteArray Int := ⟨fun s => .string s, fun n => .int .i64 n, 149, 138, .func (.func 53) #[] #[]⟩
abbrev O_si : Lo ByteArray := O_S
theorem isnan_si {w0 w : World} {A : HProp} {a : ByteArray} (hS : Sat w0 A w) : Calls Tryd.prog 73 #[.string a] w (ret fun v w' => v = .bool false ∧ Sat w0 A w') := by
  refine enterF (args := [_]) Tryd.func73 rfl Tryd.ntmps73 rfl rfl ?_
  refine F_seq ?_
  refine F_region (p := ⟨_, [0], []⟩) rfl [0] rfl ?_
  refine O_assign rfl rfl rfl rfl rfl ?_
  refine R_nil ?_
  refine tn ?_
  refine F_seq ?_
  refine F_region (p := ⟨_, [0, 0, 0, 0], []⟩) rfl [0, 1, 2, 3] rfl ?_
  refine O_move rfl rfl rfl rfl rfl ?_
  refine O_move rfl rfl rfl rfl rfl ?_
  refine O_cmpStr rfl rfl rfl rfl rfl rfl rfl ?_
  refine O_assign rfl rfl rfl rfl rfl ?_
  refine R_nil ?_
  refine tn ?_
  refine F_ret ?_
  show endF _ _ _ _ _ _
  refine end0 trivial rfl rfl rfl hS ?_
  intro w hS
  exact ⟨by simp [oneRes], hS⟩
theorem compare_si {w0 w : World} {A : HProp} (a b : ByteArray) (hS : Sat w0 A w) : Calls Tryd.prog 53 #[.string a, .string b] w (ret fun v w' => v = .int .i64 (cmpv O_si a b) ∧ Sat w0 A w') := by
  refine enterF (args := [_, _]) Tryd.func53 rfl Tryd.ntmps53 rfl rfl ?_
  refine F_seq ?_
  refine F_region (p := ⟨_, [0], []⟩) rfl [0] rfl ?_
  refine O_assign rfl rfl rfl rfl rfl ?_
  refine R_nil ?_
  refine tn ?_
  refine F_seq ?_
  refine F_region (p := ⟨_, [0, 2, 0], []⟩) rfl [0, 1, 2] rfl ?_
  refine O_move rfl rfl rfl rfl rfl ?_
  refine O_call rfl rfl rfl rfl Tryd.call73 rfl (isnan_si hS) (fun _ _ hv => trivial) ?_
  rintro _ w ⟨rfl, hS⟩
  refine O_assign rfl rfl rfl rfl rfl ?_
  refine R_nil ?_
  refine tn ?_
  refine F_seq ?_
  refine F_region (p := ⟨_, [0, 2, 0], []⟩) rfl [0, 1, 2] rfl ?_
  refine O_move rfl rfl rfl rfl rfl ?_
  refine O_call rfl rfl rfl rfl Tryd.call73 rfl (isnan_si hS) (fun _ _ hv => trivial) ?_
  rintro _ w ⟨rfl, hS⟩
  refine O_assign rfl rfl rfl rfl rfl ?_
  refine R_nil ?_
  refine tn ?_
  refine F_seq ?_
  refine F_seq ?_
  refine F_region (p := ⟨_, [0], []⟩) rfl [0] rfl ?_
  refine O_move rfl rfl rfl rfl rfl ?_
  refine R_nil ?_
  refine tn ?_
  refine F_false rfl rfl ?_
  refine F_skip ?_
  refine tn ?_
  refine F_seq ?_
  refine F_seq ?_
  refine F_region (p := ⟨_, [0], []⟩) rfl [0] rfl ?_
  refine O_move rfl rfl rfl rfl rfl ?_
  refine R_nil ?_
  refine tn ?_
  refine F_false rfl rfl ?_
  refine F_skip ?_
  refine tn ?_
  refine F_seq ?_
  refine F_seq ?_
  refine F_region (p := ⟨_, [0, 0, 0], []⟩) rfl [0, 1, 2] rfl ?_
  refine O_move rfl rfl rfl rfl rfl ?_
  refine O_move rfl rfl rfl rfl rfl ?_
  refine O_cmpStr rfl rfl rfl rfl rfl rfl rfl ?_
  refine R_nil ?_
  refine tn ?_
  refine F_cond rfl (fun hc52 => ?_) (fun hc52 => ?_)
  · try simp only [decide_eq_true_eq, decide_eq_false_iff_not, Bool.not_eq_true', Bool.not_eq_false', Bool.not_true, Bool.not_false, Option.isNone_iff_eq_none, Bool.false_eq_true, Bool.true_eq_false] at hc52
    refine F_seq ?_
    refine F_region (p := ⟨_, [0], []⟩) rfl [0] rfl ?_
    refine O_assign rfl rfl rfl rfl rfl ?_
    refine R_nil ?_
    refine tn ?_
    refine F_ret ?_
    refine tr ?_
    show endF _ _ _ _ _ _
    refine end0 trivial rfl rfl rfl hS ?_
    intro w hS
    exact ⟨by rw [cmpv_S]; have hv := cb_val a.data.toList b.data.toList; unfold cmpS at *; simp only [oneRes]; congr 1; first | rfl | omega, hS⟩
  · try simp only [decide_eq_true_eq, decide_eq_false_iff_not, Bool.not_eq_true', Bool.not_eq_false', Bool.not_true, Bool.not_false, Option.isNone_iff_eq_none, Bool.false_eq_true, Bool.true_eq_false] at hc52
    refine F_skip ?_
    refine tn ?_
    refine F_seq ?_
    refine F_seq ?_
    refine F_region (p := ⟨_, [0, 0, 0], []⟩) rfl [0, 1, 2] rfl ?_
    refine O_move rfl rfl rfl rfl rfl ?_
    refine O_move rfl rfl rfl rfl rfl ?_
    refine O_cmpStr rfl rfl rfl rfl rfl rfl rfl ?_
    refine R_nil ?_
    refine tn ?_
    refine F_cond rfl (fun hc55 => ?_) (fun hc55 => ?_)
    · try simp only [decide_eq_true_eq, decide_eq_false_iff_not, Bool.not_eq_true', Bool.not_eq_false', Bool.not_true, Bool.not_false, Option.isNone_iff_eq_none, Bool.false_eq_true, Bool.true_eq_false] at hc55
      refine F_seq ?_
      refine F_region (p := ⟨_, [0], []⟩) rfl [0] rfl ?_
      refine O_assign rfl rfl rfl rfl rfl ?_
      refine R_nil ?_
      refine tn ?_
      refine F_ret ?_
      refine tr ?_
      show endF _ _ _ _ _ _
      refine end0 trivial rfl rfl rfl hS ?_
      intro w hS
      exact ⟨by rw [cmpv_S]; have hv := cb_val a.data.toList b.data.toList; unfold cmpS at *; simp only [oneRes]; congr 1; first | rfl | omega, hS⟩
    · try simp only [decide_eq_true_eq, decide_eq_false_iff_not, Bool.not_eq_true', Bool.not_eq_false', Bool.not_true, Bool.not_false, Option.isNone_iff_eq_none, Bool.false_eq_true, Bool.true_eq_false] at hc55
      refine F_skip ?_
      refine tn ?_
      refine F_seq ?_
      refine F_region (p := ⟨_, [0], []⟩) rfl [0] rfl ?_
      refine O_assign rfl rfl rfl rfl rfl ?_
      refine R_nil ?_
      refine tn ?_
      refine F_ret ?_
      show endF _ _ _ _ _ _
      refine end0 trivial rfl rfl rfl hS ?_
      intro w hS
      exact ⟨by rw [cmpv_S]; have hv := cb_val a.data.toList b.data.toList; unfold cmpS at *; simp only [oneRes]; congr 1; first | rfl | omega, hS⟩
theorem cmp_si {w0 w : World} {A : HProp} (a b : ByteArray) (hS : Sat w0 A w) : FV Tryd.prog E_si.cv [E_si.k a, E_si.k b].toArray w (fun v w' => v = .int .i64 (cmpv O_si a b) ∧ Sat w0 A w') :=
  FV.of_calls Tryd.call53 (by simpa using compare_si a b hS)
theorem height_si_nil {w0 w : World} {R : HProp} (hS : Sat w0 R w) : Calls Tryd.prog 97 #[.pointer none] w (ret fun v w' => v = .int .i64 0 ∧ Sat w0 R w') := by
  refine enterF (args := [_]) Tryd.func97 rfl Tryd.ntmps97 rfl rfl ?_
  refine F_seq ?_
  refine F_region (p := ⟨_, [0], []⟩) rfl [0] rfl ?_
  refine O_assign rfl rfl rfl rfl rfl ?_
  refine R_nil ?_
  refine tn ?_
  refine F_seq ?_
  refine F_seq ?_
  refine F_region (p := ⟨_, [0, 0], []⟩) rfl [0, 1] rfl ?_
  refine O_move rfl rfl rfl rfl rfl ?_
  refine O_eqNil rfl rfl rfl rfl rfl rfl Tryd.runUnderlying136 ?_
  refine R_nil ?_
  refine tn ?_
  refine F_true rfl rfl ?_
  refine F_seq ?_
  refine F_region (p := ⟨_, [0], []⟩) rfl [0] rfl ?_
  refine O_assign rfl rfl rfl rfl rfl ?_
  refine R_nil ?_
  refine tn ?_
  refine F_ret ?_
  refine tr ?_
  show endF _ _ _ _ _ _
  refine end0 trivial rfl rfl rfl hS ?_
  intro w hS
  exact ⟨rfl, hS⟩
theorem height_si_at {w0 w : World} {R : HProp} {b : Nat} {x0 x1 x2 x3 : Value} {h m : Int} (hS : Sat w0 (blks [(b, .cells #[x0, x1, x2, x3, .int .i64 h, .int .i64 m] 149 (0, 0))] * R) w) :
    Calls Tryd.prog 97 #[.pointer (some ⟨b, 0, none⟩)] w (ret fun v w' => v = .int .i64 h ∧ Sat w0 (blks [(b, .cells #[x0, x1, x2, x3, .int .i64 h, .int .i64 m] 149 (0, 0))] * R) w') := by
  refine enterF (args := [_]) Tryd.func97 rfl Tryd.ntmps97 rfl rfl ?_
  refine F_seq ?_
  refine F_region (p := ⟨_, [0], []⟩) rfl [0] rfl ?_
  refine O_assign rfl rfl rfl rfl rfl ?_
  refine R_nil ?_
  refine tn ?_
  refine F_seq ?_
  refine F_seq ?_
  refine F_region (p := ⟨_, [0, 0], []⟩) rfl [0, 1] rfl ?_
  refine O_move rfl rfl rfl rfl rfl ?_
  refine O_eqNil rfl rfl rfl rfl rfl rfl Tryd.runUnderlying136 ?_
  refine R_nil ?_
  refine tn ?_
  refine F_false rfl rfl ?_
  refine F_skip ?_
  refine tn ?_
  refine F_seq ?_
  refine F_region (p := ⟨_, [0, 0, 0, 1, 0], []⟩) rfl [0, 1, 2, 3, 4] rfl ?_
  refine O_move rfl rfl rfl rfl rfl ?_
  refine O_nilCheck rfl rfl rfl rfl rfl ?_
  refine O_fieldAddr rfl rfl rfl rfl rfl Tryd.runUnderlying149 rfl Tryd.sizeOf3 ?_
  refine O_loadS hS rfl rfl rfl rfl rfl Tryd.isAgg3 (by repeat (first | exact .here rfl | apply CellAt.there)) (by trivial) ?_
  refine O_assign rfl rfl rfl rfl rfl ?_
  refine R_nil ?_
  refine tn ?_
  refine F_ret ?_
  show endF _ _ _ _ _ _
  refine end0 trivial rfl rfl rfl hS ?_
  intro w hS
  exact ⟨rfl, hS⟩
theorem size_si_nil {w0 w : World} {R : HProp} (hS : Sat w0 R w) : Calls Tryd.prog 98 #[.pointer none] w (ret fun v w' => v = .int .i64 0 ∧ Sat w0 R w') := by
  refine enterF (args := [_]) Tryd.func98 rfl Tryd.ntmps98 rfl rfl ?_
  refine F_seq ?_
  refine F_region (p := ⟨_, [0], []⟩) rfl [0] rfl ?_
  refine O_assign rfl rfl rfl rfl rfl ?_
  refine R_nil ?_
  refine tn ?_
  refine F_seq ?_
  refine F_seq ?_
  refine F_region (p := ⟨_, [0, 0], []⟩) rfl [0, 1] rfl ?_
  refine O_move rfl rfl rfl rfl rfl ?_
  refine O_eqNil rfl rfl rfl rfl rfl rfl Tryd.runUnderlying136 ?_
  refine R_nil ?_
  refine tn ?_
  refine F_true rfl rfl ?_
  refine F_seq ?_
  refine F_region (p := ⟨_, [0], []⟩) rfl [0] rfl ?_
  refine O_assign rfl rfl rfl rfl rfl ?_
  refine R_nil ?_
  refine tn ?_
  refine F_ret ?_
  refine tr ?_
  show endF _ _ _ _ _ _
  refine end0 trivial rfl rfl rfl hS ?_
  intro w hS
  exact ⟨rfl, hS⟩
theorem size_si_at {w0 w : World} {R : HProp} {b : Nat} {x0 x1 x2 x3 : Value} {h m : Int} (hS : Sat w0 (blks [(b, .cells #[x0, x1, x2, x3, .int .i64 h, .int .i64 m] 149 (0, 0))] * R) w) :
    Calls Tryd.prog 98 #[.pointer (some ⟨b, 0, none⟩)] w (ret fun v w' => v = .int .i64 m ∧ Sat w0 (blks [(b, .cells #[x0, x1, x2, x3, .int .i64 h, .int .i64 m] 149 (0, 0))] * R) w') := by
  refine enterF (args := [_]) Tryd.func98 rfl Tryd.ntmps98 rfl rfl ?_
  refine F_seq ?_
  refine F_region (p := ⟨_, [0], []⟩) rfl [0] rfl ?_
  refine O_assign rfl rfl rfl rfl rfl ?_
  refine R_nil ?_
  refine tn ?_
  refine F_seq ?_
  refine F_seq ?_
  refine F_region (p := ⟨_, [0, 0], []⟩) rfl [0, 1] rfl ?_
  refine O_move rfl rfl rfl rfl rfl ?_
  refine O_eqNil rfl rfl rfl rfl rfl rfl Tryd.runUnderlying136 ?_
  refine R_nil ?_
  refine tn ?_
  refine F_false rfl rfl ?_
  refine F_skip ?_
  refine tn ?_
  refine F_seq ?_
  refine F_region (p := ⟨_, [0, 0, 0, 1, 0], []⟩) rfl [0, 1, 2, 3, 4] rfl ?_
  refine O_move rfl rfl rfl rfl rfl ?_
  refine O_nilCheck rfl rfl rfl rfl rfl ?_
  refine O_fieldAddr rfl rfl rfl rfl rfl Tryd.runUnderlying149 rfl Tryd.sizeOf3 ?_
  refine O_loadS hS rfl rfl rfl rfl rfl Tryd.isAgg3 (by repeat (first | exact .here rfl | apply CellAt.there)) (by trivial) ?_
  refine O_assign rfl rfl rfl rfl rfl ?_
  refine R_nil ?_
  refine tn ?_
  refine F_ret ?_
  show endF _ _ _ _ _ _
  refine end0 trivial rfl rfl rfl hS ?_
  intro w hS
  exact ⟨rfl, hS⟩
/-- What stands at p, of this height and size. -/
def Ht_si (A : HProp) (p : Option Addr) (h m : Int) : Prop := ∀ w0 R w, Sat w0 (A * R) w →
  Calls Tryd.prog 97 #[.pointer p] w (ret fun v w' => v = .int .i64 h ∧ Sat w0 (A * R) w') ∧ Calls Tryd.prog 98 #[.pointer p] w (ret fun v w' => v = .int .i64 m ∧ Sat w0 (A * R) w')
theorem ht_si_at {A : HProp} {b : Nat} {x0 x1 x2 x3 : Value} {h m : Int} : Ht_si (blks [(b, .cells #[x0, x1, x2, x3, .int .i64 h, .int .i64 m] 149 (0, 0))] * A) (some ⟨b, 0, none⟩) h m := fun w0 R w hS =>
  ⟨Calls.mono' (height_si_at (hS.to (star_assoc _ _ _))) (fun e w' ⟨v, he, hv, hS⟩ => ⟨v, he, hv, hS.to (star_assoc _ _ _).symm⟩), Calls.mono' (size_si_at (hS.to (star_assoc _ _ _))) (fun e w' ⟨v, he, hv, hS⟩ => ⟨v, he, hv, hS.to (star_assoc _ _ _).symm⟩)⟩
theorem ht_si {p : Option Addr} {t : T _ _} : Ht_si (tree E_si p t) p t.h t.m := fun w0 R w hS => by
  cases t with
  | leaf =>
    obtain ⟨rfl, _⟩ := tree_leaf hS
    exact ⟨height_si_nil hS, size_si_nil hS⟩
  | node l k v r =>
    obtain ⟨b, pl, pr, rfl, hN⟩ := tree_node hS
    refine ⟨Calls.mono' (height_si_at hN) ?_, Calls.mono' (size_si_at hN) ?_⟩
    all_goals (rintro e w' ⟨v, he, hv, hS⟩; exact ⟨v, he, hv, tree_node_mk rfl rfl hS⟩)
theorem count_si {w0 w : World} {A B R : HProp} {b : Nat} {pl pr : Option Addr} {x0 x1 x4 x5 : Value} {hl hr ml mr : Int} (hA : Ht_si A pl hl ml) (hB : Ht_si B pr hr mr)
    (b1 : 0 ≤ hl ∧ 0 ≤ hr ∧ 0 ≤ ml ∧ 0 ≤ mr ∧ hl ≤ ml ∧ hr ≤ mr ∧ ml + mr ≤ 4611686018427387904) (hS : Sat w0 (blks [(b, .cells #[x0, x1, .pointer pl, .pointer pr, x4, x5] 149 (0, 0))] * (A * (B * R))) w) :
    Calls Tryd.prog 91 #[.pointer (some ⟨b, 0, none⟩)] w (ret fun v w' => v = .pointer (some ⟨b, 0, none⟩) ∧ Sat w0 (blks [(b, .cells #[x0, x1, .pointer pl, .pointer pr, .int .i64 (1 + max hl hr), .int .i64 (1 + ml + mr)] 149 (0, 0))] * (A * (B * R))) w') := by
  refine enterF (args := [_]) Tryd.func91 rfl Tryd.ntmps91 rfl rfl ?_
  refine F_seq ?_
  refine F_region (p := ⟨_, [0], []⟩) rfl [0] rfl ?_
  refine O_assign rfl rfl rfl rfl rfl ?_
  refine R_nil ?_
  refine tn ?_
  refine F_seq ?_
  refine F_drawnS hS (by kernel_rfl) (p := ⟨_, [0, 0, 0, 0, 1, 2, 0, 0, 0, 1, 2, 0, 0, 0, 0, 2], [(5, 9)]⟩) rfl (.ofList [0, 1, 2, 3, 4, 5, 6, 7, 8, 9, 10, 11, 12, 13, 14, 15]) (by kernel_rfl) ?_
  intro w hS
  refine O_move rfl rfl rfl rfl rfl ?_
  refine O_move rfl rfl rfl rfl rfl ?_
  refine O_nilCheck rfl rfl rfl rfl rfl ?_
  refine O_fieldAddr rfl rfl rfl rfl rfl Tryd.runUnderlying149 rfl Tryd.sizeOf136 ?_
  refine O_loadS hS rfl rfl rfl rfl rfl Tryd.isAgg136 (by repeat (first | exact .here rfl | apply CellAt.there)) (by trivial) ?_
  have hS_5 := hS
  refine O_call rfl rfl rfl rfl Tryd.call97 rfl ((hA _ _ _ hS.b2).1) (fun _ _ hv => trivial) ?_
  rintro _ w ⟨rfl, hS⟩
  replace hS := hS.b2
  refine O_move rfl rfl rfl rfl rfl ?_
  refine O_nilCheck rfl rfl rfl rfl rfl ?_
  refine O_fieldAddr rfl rfl rfl rfl rfl Tryd.runUnderlying149 rfl Tryd.sizeOf136 ?_
  refine O_loadS hS rfl rfl rfl rfl rfl Tryd.isAgg136 (by repeat (first | exact .here rfl | apply CellAt.there)) (by exact ⟨CellAt.cell (by repeat (first | exact .here rfl | apply CellAt.there)) hS_5, trivial⟩) ?_
  refine O_call rfl rfl rfl rfl Tryd.call97 rfl ((hB _ _ _ hS.b3).1) (fun _ _ hv => ⟨trivial, trivial⟩) ?_
  rintro _ w ⟨rfl, hS⟩
  replace hS := hS.f3
  refine O_max2 rfl rfl rfl rfl rfl rfl ?_
  refine O_addN rfl rfl rfl rfl rfl rfl (by first | omega | (dsimp only; omega)) ?_
  refine O_nilCheck rfl rfl rfl rfl rfl ?_
  refine O_fieldAddr rfl rfl rfl rfl rfl Tryd.runUnderlying149 rfl Tryd.sizeOf3 ?_
  refine O_storeS hS rfl rfl rfl rfl rfl rfl rfl Tryd.sizeOf3 (by repeat (first | exact .here rfl rfl | apply SetAt.there)) (fun w' hv => ⟨trivial, trivial⟩) ?_
  intro w hS
  refine R_nil ?_
  refine tn ?_
  refine F_seq ?_
  refine F_drawnS hS (by kernel_rfl) (p := ⟨_, [0, 0, 0, 0, 1, 2, 0, 0, 0, 0, 1, 2, 0, 0, 0, 2], [(5, 10)]⟩) rfl (.ofList [0, 1, 2, 3, 4, 5, 6, 7, 8, 9, 10, 11, 12, 13, 14, 15]) (by kernel_rfl) ?_
  intro w hS
  refine O_move rfl rfl rfl rfl rfl ?_
  refine O_move rfl rfl rfl rfl rfl ?_
  refine O_nilCheck rfl rfl rfl rfl rfl ?_
  refine O_fieldAddr rfl rfl rfl rfl rfl Tryd.runUnderlying149 rfl Tryd.sizeOf136 ?_
  refine O_loadS hS rfl rfl rfl rfl rfl Tryd.isAgg136 (by repeat (first | exact .here rfl | apply CellAt.there)) (by trivial) ?_
  have hS_5 := hS
  refine O_call rfl rfl rfl rfl Tryd.call98 rfl ((hA _ _ _ hS.b2).2) (fun _ _ hv => trivial) ?_
  rintro _ w ⟨rfl, hS⟩
  replace hS := hS.b2
  refine O_addN rfl rfl rfl rfl rfl rfl (by first | omega | (dsimp only; omega)) ?_
  refine O_move rfl rfl rfl rfl rfl ?_
  refine O_nilCheck rfl rfl rfl rfl rfl ?_
  refine O_fieldAddr rfl rfl rfl rfl rfl Tryd.runUnderlying149 rfl Tryd.sizeOf136 ?_
  refine O_loadS hS rfl rfl rfl rfl rfl Tryd.isAgg136 (by repeat (first | exact .here rfl | apply CellAt.there)) (by exact ⟨CellAt.cell (by repeat (first | exact .here rfl | apply CellAt.there)) hS_5, trivial⟩) ?_
  refine O_call rfl rfl rfl rfl Tryd.call98 rfl ((hB _ _ _ hS.b3).2) (fun _ _ hv => ⟨trivial, trivial⟩) ?_
  rintro _ w ⟨rfl, hS⟩
  replace hS := hS.f3
  refine O_addN rfl rfl rfl rfl rfl rfl (by first | omega | (dsimp only; omega)) ?_
  refine O_nilCheck rfl rfl rfl rfl rfl ?_
  refine O_fieldAddr rfl rfl rfl rfl rfl Tryd.runUnderlying149 rfl Tryd.sizeOf3 ?_
  refine O_storeS hS rfl rfl rfl rfl rfl rfl rfl Tryd.sizeOf3 (by repeat (first | exact .here rfl rfl | apply SetAt.there)) (fun w' hv => ⟨trivial, trivial⟩) ?_
  intro w hS
  refine R_nil ?_
  refine tn ?_
  refine F_seq ?_
  refine F_region (p := ⟨_, [0, 0], []⟩) rfl [0, 1] rfl ?_
  refine O_move rfl rfl rfl rfl rfl ?_
  refine O_assign rfl rfl rfl rfl rfl ?_
  refine R_nil ?_
  refine tn ?_
  refine F_ret ?_
  show endF _ _ _ _ _ _
  refine end0 trivial rfl rfl rfl hS ?_
  intro w hS
  exact ⟨rfl, hS⟩
theorem toRight_si {w0 w : World} {R : HProp} {b : Nat} {pc po : Option Addr} {k k' : _} {v v' : _} {x4 x5 : Value} {c1 c2 o : T _ _} (hm : c1.m + c2.m + o.m ≤ 4611686018427387000)
    (hS : Sat w0 (blks [(b, .cells #[E_si.k k, E_si.v v, .pointer pc, .pointer po, x4, x5] 149 (0, 0))] * (tree E_si pc (.node c1 k' v' c2) * (tree E_si po o * R))) w) :
    Calls Tryd.prog 100 #[.pointer (some ⟨b, 0, none⟩)] w (ret fun u w' => ∃ p', u = .pointer p' ∧ Sat w0 (tree E_si p' (.node c1 k' v' (.node c2 k v o)) * R) w') := by
  have d1 := c1.bd
  have d2 := c2.bd
  have d3 := o.bd
  obtain ⟨bc, p1, p2, rfl, hS⟩ := tree_node hS.b2
  replace hS : Sat w0 (blks [(b, .cells #[E_si.k k, E_si.v v, .pointer (some ⟨bc, 0, none⟩), .pointer po, x4, x5] 149 (0, 0)), (bc, .cells #[E_si.k k', E_si.v v', .pointer p1, .pointer p2, .int .i64 (1 + max c1.h c2.h), .int .i64 (1 + c1.m + c2.m)] 149 (0, 0))] * (tree E_si p1 c1 * (tree E_si p2 c2 * (tree E_si po o * R)))) w := hS.to (by simp only [blks]; ac_rfl)
  refine enterF (args := [_]) Tryd.func100 rfl Tryd.ntmps100 rfl rfl ?_
  refine F_seq ?_
  refine F_region (p := ⟨_, [0], []⟩) rfl [0] rfl ?_
  refine O_assign rfl rfl rfl rfl rfl ?_
  refine R_nil ?_
  refine tn ?_
  refine F_seq ?_
  refine F_region (p := ⟨_, [0, 0, 0, 1, 0], []⟩) rfl [0, 1, 2, 3, 4] rfl ?_
  refine O_move rfl rfl rfl rfl rfl ?_
  refine O_nilCheck rfl rfl rfl rfl rfl ?_
  refine O_fieldAddr rfl rfl rfl rfl rfl Tryd.runUnderlying149 rfl Tryd.sizeOf136 ?_
  refine O_loadS hS rfl rfl rfl rfl rfl Tryd.isAgg136 (by repeat (first | exact .here rfl | apply CellAt.there)) (by trivial) ?_
  refine O_assign rfl rfl rfl rfl rfl ?_
  refine R_nil ?_
  refine tn ?_
  refine F_seq ?_
  refine F_drawnS hS (by kernel_rfl) (p := ⟨_, [0, 0, 0, 0, 0, 1, 0, 2, 0, 0, 2, 0, 0, 2], [(5, 7)]⟩) rfl (.ofList [0, 1, 2, 3, 4, 5, 6, 7, 8, 9, 10, 11, 12, 13]) (by kernel_rfl) ?_
  intro w hS
  refine O_move rfl rfl rfl rfl rfl ?_
  refine O_move rfl rfl rfl rfl rfl ?_
  refine O_move rfl rfl rfl rfl rfl ?_
  refine O_nilCheck rfl rfl rfl rfl rfl ?_
  refine O_fieldAddr rfl rfl rfl rfl rfl Tryd.runUnderlying149 rfl Tryd.sizeOf136 ?_
  refine O_loadS hS rfl rfl rfl rfl rfl Tryd.isAgg136 (by repeat (first | exact .here rfl | apply CellAt.there)) (by trivial) ?_
  refine O_move rfl rfl rfl rfl rfl ?_
  have hQ : Sat w0 (blks [(b, .cells #[E_si.k k, E_si.v v, .pointer (some ⟨bc, 0, none⟩), .pointer po, x4, x5] 149 (0, 0))] * ((blks [(bc, .cells #[E_si.k k', E_si.v v', .pointer p1, .pointer p2, .int .i64 (1 + max c1.h c2.h), .int .i64 (1 + c1.m + c2.m)] 149 (0, 0))] * (tree E_si p1 c1 * tree E_si p2 c2)) * (tree E_si po o * R))) w := hS.to (by simp only [blks]; ac_rfl)
  have hS_7 := hS
  refine O_call rfl rfl rfl rfl Tryd.call91 rfl (count_si ht_si_at ht_si (by omega) hQ) (fun _ _ hv => ⟨CellAt.cell (by repeat (first | exact .here rfl | apply CellAt.there)) (Sat.i2 hv.2), trivial⟩) ?_
  rintro _ w ⟨rfl, hS⟩
  replace hS : Sat w0 (blks [(b, .cells #[E_si.k k, E_si.v v, .pointer (some ⟨bc, 0, none⟩), .pointer po, .int .i64 (1 + max (1 + max c1.h c2.h) o.h), .int .i64 (1 + (1 + c1.m + c2.m) + o.m)] 149 (0, 0)), (bc, .cells #[E_si.k k', E_si.v v', .pointer p1, .pointer p2, .int .i64 (1 + max c1.h c2.h), .int .i64 (1 + c1.m + c2.m)] 149 (0, 0))] * (tree E_si p1 c1 * (tree E_si p2 c2 * (tree E_si po o * R)))) w := hS.to (by simp only [blks]; ac_rfl)
  refine O_nilCheck rfl rfl rfl rfl rfl ?_
  refine O_fieldAddr rfl rfl rfl rfl rfl Tryd.runUnderlying149 rfl Tryd.sizeOf136 ?_
  refine O_storeS hS rfl rfl rfl rfl rfl rfl rfl Tryd.sizeOf136 (by repeat (first | exact .here rfl rfl | apply SetAt.there)) (fun w' hv => ⟨trivial, trivial⟩) ?_
  intro w hS
  refine O_nilCheck rfl rfl rfl rfl rfl ?_
  refine O_fieldAddr rfl rfl rfl rfl rfl Tryd.runUnderlying149 rfl Tryd.sizeOf136 ?_
  refine O_storeS hS rfl rfl rfl rfl rfl rfl rfl Tryd.sizeOf136 (by repeat (first | exact .here rfl rfl | apply SetAt.there)) (fun w' hv => ⟨trivial, trivial⟩) ?_
  intro w hS
  refine R_nil ?_
  refine tn ?_
  refine F_seq ?_
  refine F_region (p := ⟨_, [0, 2], []⟩) rfl [0, 1] rfl ?_
  refine O_move rfl rfl rfl rfl rfl ?_
  replace hS : Sat w0 (blks [(b, .cells #[E_si.k k, E_si.v v, .pointer p2, .pointer po, .int .i64 (1 + max (1 + max c1.h c2.h) o.h), .int .i64 (1 + (1 + c1.m + c2.m) + o.m)] 149 (0, 0)), (bc, .cells #[E_si.k k', E_si.v v', .pointer p1, .pointer (some ⟨b, 0, none⟩), .int .i64 (1 + max c1.h c2.h), .int .i64 (1 + c1.m + c2.m)] 149 (0, 0))] * (tree E_si p1 c1 * (tree E_si p2 c2 * (tree E_si po o * R)))) w := hS
  replace hS : Sat w0 (blks [(b, .cells #[E_si.k k, E_si.v v, .pointer p2, .pointer po, .int .i64 (1 + max (1 + max c1.h c2.h) o.h), .int .i64 (1 + (1 + c1.m + c2.m) + o.m)] 149 (0, 0))] * (tree E_si p2 c2 * (tree E_si po o * (blks [(bc, .cells #[E_si.k k', E_si.v v', .pointer p1, .pointer (some ⟨b, 0, none⟩), .int .i64 (1 + max c1.h c2.h), .int .i64 (1 + c1.m + c2.m)] 149 (0, 0))] * (tree E_si p1 c1 * R))))) w := hS.to (by simp only [blks]; ac_rfl)
  refine O_call rfl rfl rfl rfl Tryd.call91 rfl (count_si ht_si ht_si (by omega) hS) (fun _ _ hv => trivial) ?_
  rintro _ w ⟨rfl, hS⟩
  replace hS : Sat w0 (blks [(bc, .cells #[E_si.k k', E_si.v v', .pointer p1, .pointer (some ⟨b, 0, none⟩), .int .i64 (1 + max c1.h c2.h), .int .i64 (1 + c1.m + c2.m)] 149 (0, 0))] * (tree E_si p1 c1 * ((blks [(b, .cells #[E_si.k k, E_si.v v, .pointer p2, .pointer po, .int .i64 (1 + max c2.h o.h), .int .i64 (1 + c2.m + o.m)] 149 (0, 0))] * (tree E_si p2 c2 * tree E_si po o)) * R))) w := hS.to (by simp only [blks]; ac_rfl)
  refine R_nil ?_
  refine tn ?_
  refine F_seq ?_
  refine F_region (p := ⟨_, [0, 2, 0], []⟩) rfl [0, 1, 2] rfl ?_
  refine O_move rfl rfl rfl rfl rfl ?_
  refine O_call rfl rfl rfl rfl Tryd.call91 rfl (count_si ht_si ht_si_at (by omega) hS) (fun _ _ hv => trivial) ?_
  rintro _ w ⟨rfl, hS⟩
  refine O_assign rfl rfl rfl rfl rfl ?_
  refine R_nil ?_
  refine tn ?_
  refine F_ret ?_
  show endF _ _ _ _ _ _
  refine end0 trivial rfl rfl rfl hS ?_
  intro w hS
  have hq : Sat w0 (blks [(b, .cells #[E_si.k k, E_si.v v, .pointer p2, .pointer po, .int .i64 (1 + max c2.h o.h), .int .i64 (1 + c2.m + o.m)] 149 (0, 0))] * (tree E_si p2 c2 * (tree E_si po o * (blks [(bc, .cells #[E_si.k k', E_si.v v', .pointer p1, .pointer (some ⟨b, 0, none⟩), .int .i64 (1 + max c1.h (1 + max c2.h o.h)), .int .i64 (1 + c1.m + (1 + c2.m + o.m))] 149 (0, 0))] * (tree E_si p1 c1 * R))))) w := hS.to (by simp only [blks]; ac_rfl)
  have hq := tree_node_mk rfl rfl hq
  replace hq : Sat w0 (blks [(bc, .cells #[E_si.k k', E_si.v v', .pointer p1, .pointer (some ⟨b, 0, none⟩), .int .i64 (1 + max c1.h (1 + max c2.h o.h)), .int .i64 (1 + c1.m + (1 + c2.m + o.m))] 149 (0, 0))] * (tree E_si p1 c1 * (tree E_si (some ⟨b, 0, none⟩) (.node c2 k v o) * R))) w := hq.to (by ac_rfl)
  exact ⟨_, rfl, tree_node_mk rfl rfl hq⟩
theorem toLeft_si {w0 w : World} {R : HProp} {b : Nat} {pc po : Option Addr} {k k' : _} {v v' : _} {x4 x5 : Value} {c1 c2 o : T _ _} (hm : c1.m + c2.m + o.m ≤ 4611686018427387000)
    (hS : Sat w0 (blks [(b, .cells #[E_si.k k, E_si.v v, .pointer po, .pointer pc, x4, x5] 149 (0, 0))] * (tree E_si po o * (tree E_si pc (.node c1 k' v' c2) * R))) w) :
    Calls Tryd.prog 99 #[.pointer (some ⟨b, 0, none⟩)] w (ret fun u w' => ∃ p', u = .pointer p' ∧ Sat w0 (tree E_si p' (.node (.node o k v c1) k' v' c2) * R) w') := by
  have d1 := c1.bd
  have d2 := c2.bd
  have d3 := o.bd
  obtain ⟨bc, p1, p2, rfl, hS⟩ := tree_node hS.b3
  replace hS : Sat w0 (blks [(b, .cells #[E_si.k k, E_si.v v, .pointer po, .pointer (some ⟨bc, 0, none⟩), x4, x5] 149 (0, 0)), (bc, .cells #[E_si.k k', E_si.v v', .pointer p1, .pointer p2, .int .i64 (1 + max c1.h c2.h), .int .i64 (1 + c1.m + c2.m)] 149 (0, 0))] * (tree E_si p1 c1 * (tree E_si p2 c2 * (tree E_si po o * R)))) w := hS.to (by simp only [blks]; ac_rfl)
  refine enterF (args := [_]) Tryd.func99 rfl Tryd.ntmps99 rfl rfl ?_
  refine F_seq ?_
  refine F_region (p := ⟨_, [0], []⟩) rfl [0] rfl ?_
  refine O_assign rfl rfl rfl rfl rfl ?_
  refine R_nil ?_
  refine tn ?_
  refine F_seq ?_
  refine F_region (p := ⟨_, [0, 0, 0, 1, 0], []⟩) rfl [0, 1, 2, 3, 4] rfl ?_
  refine O_move rfl rfl rfl rfl rfl ?_
  refine O_nilCheck rfl rfl rfl rfl rfl ?_
  refine O_fieldAddr rfl rfl rfl rfl rfl Tryd.runUnderlying149 rfl Tryd.sizeOf136 ?_
  refine O_loadS hS rfl rfl rfl rfl rfl Tryd.isAgg136 (by repeat (first | exact .here rfl | apply CellAt.there)) (by trivial) ?_
  refine O_assign rfl rfl rfl rfl rfl ?_
  refine R_nil ?_
  refine tn ?_
  refine F_seq ?_
  refine F_drawnS hS (by kernel_rfl) (p := ⟨_, [0, 0, 0, 0, 0, 1, 0, 2, 0, 0, 2, 0, 0, 2], [(5, 7)]⟩) rfl (.ofList [0, 1, 2, 3, 4, 5, 6, 7, 8, 9, 10, 11, 12, 13]) (by kernel_rfl) ?_
  intro w hS
  refine O_move rfl rfl rfl rfl rfl ?_
  refine O_move rfl rfl rfl rfl rfl ?_
  refine O_move rfl rfl rfl rfl rfl ?_
  refine O_nilCheck rfl rfl rfl rfl rfl ?_
  refine O_fieldAddr rfl rfl rfl rfl rfl Tryd.runUnderlying149 rfl Tryd.sizeOf136 ?_
  refine O_loadS hS rfl rfl rfl rfl rfl Tryd.isAgg136 (by repeat (first | exact .here rfl | apply CellAt.there)) (by trivial) ?_
  refine O_move rfl rfl rfl rfl rfl ?_
  have hQ : Sat w0 (blks [(b, .cells #[E_si.k k, E_si.v v, .pointer po, .pointer (some ⟨bc, 0, none⟩), x4, x5] 149 (0, 0))] * (tree E_si po o * ((blks [(bc, .cells #[E_si.k k', E_si.v v', .pointer p1, .pointer p2, .int .i64 (1 + max c1.h c2.h), .int .i64 (1 + c1.m + c2.m)] 149 (0, 0))] * (tree E_si p1 c1 * tree E_si p2 c2)) * R))) w := hS.to (by simp only [blks]; ac_rfl)
  have hS_7 := hS
  refine O_call rfl rfl rfl rfl Tryd.call91 rfl (count_si ht_si ht_si_at (by omega) hQ) (fun _ _ hv => ⟨CellAt.cell (by repeat (first | exact .here rfl | apply CellAt.there)) (Sat.i3 hv.2), trivial⟩) ?_
  rintro _ w ⟨rfl, hS⟩
  replace hS : Sat w0 (blks [(b, .cells #[E_si.k k, E_si.v v, .pointer po, .pointer (some ⟨bc, 0, none⟩), .int .i64 (1 + max o.h (1 + max c1.h c2.h)), .int .i64 (1 + o.m + (1 + c1.m + c2.m))] 149 (0, 0)), (bc, .cells #[E_si.k k', E_si.v v', .pointer p1, .pointer p2, .int .i64 (1 + max c1.h c2.h), .int .i64 (1 + c1.m + c2.m)] 149 (0, 0))] * (tree E_si p1 c1 * (tree E_si p2 c2 * (tree E_si po o * R)))) w := hS.to (by simp only [blks]; ac_rfl)
  refine O_nilCheck rfl rfl rfl rfl rfl ?_
  refine O_fieldAddr rfl rfl rfl rfl rfl Tryd.runUnderlying149 rfl Tryd.sizeOf136 ?_
  refine O_storeS hS rfl rfl rfl rfl rfl rfl rfl Tryd.sizeOf136 (by repeat (first | exact .here rfl rfl | apply SetAt.there)) (fun w' hv => ⟨trivial, trivial⟩) ?_
  intro w hS
  refine O_nilCheck rfl rfl rfl rfl rfl ?_
  refine O_fieldAddr rfl rfl rfl rfl rfl Tryd.runUnderlying149 rfl Tryd.sizeOf136 ?_
  refine O_storeS hS rfl rfl rfl rfl rfl rfl rfl Tryd.sizeOf136 (by repeat (first | exact .here rfl rfl | apply SetAt.there)) (fun w' hv => ⟨trivial, trivial⟩) ?_
  intro w hS
  refine R_nil ?_
  refine tn ?_
  refine F_seq ?_
  refine F_region (p := ⟨_, [0, 2], []⟩) rfl [0, 1] rfl ?_
  refine O_move rfl rfl rfl rfl rfl ?_
  replace hS : Sat w0 (blks [(b, .cells #[E_si.k k, E_si.v v, .pointer po, .pointer p1, .int .i64 (1 + max o.h (1 + max c1.h c2.h)), .int .i64 (1 + o.m + (1 + c1.m + c2.m))] 149 (0, 0)), (bc, .cells #[E_si.k k', E_si.v v', .pointer (some ⟨b, 0, none⟩), .pointer p2, .int .i64 (1 + max c1.h c2.h), .int .i64 (1 + c1.m + c2.m)] 149 (0, 0))] * (tree E_si p1 c1 * (tree E_si p2 c2 * (tree E_si po o * R)))) w := hS
  replace hS : Sat w0 (blks [(b, .cells #[E_si.k k, E_si.v v, .pointer po, .pointer p1, .int .i64 (1 + max o.h (1 + max c1.h c2.h)), .int .i64 (1 + o.m + (1 + c1.m + c2.m))] 149 (0, 0))] * (tree E_si po o * (tree E_si p1 c1 * (blks [(bc, .cells #[E_si.k k', E_si.v v', .pointer (some ⟨b, 0, none⟩), .pointer p2, .int .i64 (1 + max c1.h c2.h), .int .i64 (1 + c1.m + c2.m)] 149 (0, 0))] * (tree E_si p2 c2 * R))))) w := hS.to (by simp only [blks]; ac_rfl)
  refine O_call rfl rfl rfl rfl Tryd.call91 rfl (count_si ht_si ht_si (by omega) hS) (fun _ _ hv => trivial) ?_
  rintro _ w ⟨rfl, hS⟩
  replace hS : Sat w0 (blks [(bc, .cells #[E_si.k k', E_si.v v', .pointer (some ⟨b, 0, none⟩), .pointer p2, .int .i64 (1 + max c1.h c2.h), .int .i64 (1 + c1.m + c2.m)] 149 (0, 0))] * ((blks [(b, .cells #[E_si.k k, E_si.v v, .pointer po, .pointer p1, .int .i64 (1 + max o.h c1.h), .int .i64 (1 + o.m + c1.m)] 149 (0, 0))] * (tree E_si po o * tree E_si p1 c1)) * (tree E_si p2 c2 * R))) w := hS.to (by simp only [blks]; ac_rfl)
  refine R_nil ?_
  refine tn ?_
  refine F_seq ?_
  refine F_region (p := ⟨_, [0, 2, 0], []⟩) rfl [0, 1, 2] rfl ?_
  refine O_move rfl rfl rfl rfl rfl ?_
  refine O_call rfl rfl rfl rfl Tryd.call91 rfl (count_si ht_si_at ht_si (by omega) hS) (fun _ _ hv => trivial) ?_
  rintro _ w ⟨rfl, hS⟩
  refine O_assign rfl rfl rfl rfl rfl ?_
  refine R_nil ?_
  refine tn ?_
  refine F_ret ?_
  show endF _ _ _ _ _ _
  refine end0 trivial rfl rfl rfl hS ?_
  intro w hS
  have hq : Sat w0 (blks [(b, .cells #[E_si.k k, E_si.v v, .pointer po, .pointer p1, .int .i64 (1 + max o.h c1.h), .int .i64 (1 + o.m + c1.m)] 149 (0, 0))] * (tree E_si po o * (tree E_si p1 c1 * (blks [(bc, .cells #[E_si.k k', E_si.v v', .pointer (some ⟨b, 0, none⟩), .pointer p2, .int .i64 (1 + max (1 + max o.h c1.h) c2.h), .int .i64 (1 + (1 + o.m + c1.m) + c2.m)] 149 (0, 0))] * (tree E_si p2 c2 * R))))) w := hS.to (by simp only [blks]; ac_rfl)
  have hq := tree_node_mk rfl rfl hq
  replace hq : Sat w0 (blks [(bc, .cells #[E_si.k k', E_si.v v', .pointer (some ⟨b, 0, none⟩), .pointer p2, .int .i64 (1 + max (1 + max o.h c1.h) c2.h), .int .i64 (1 + (1 + o.m + c1.m) + c2.m)] 149 (0, 0))] * (tree E_si (some ⟨b, 0, none⟩) (.node o k v c1) * (tree E_si p2 c2 * R))) w := hq.to (by ac_rfl)
  exact ⟨_, rfl, tree_node_mk rfl rfl hq⟩
theorem even_si {w0 w : World} {R : HProp} {b : Nat} {pl pr : Option Addr} {k : _} {v : _} {x4 x5 : Value} {l r : T _ _} (hm : l.m + r.m ≤ 4611686018427380000)
    (hS : Sat w0 (blks [(b, .cells #[E_si.k k, E_si.v v, .pointer pl, .pointer pr, x4, x5] 149 (0, 0))] * (tree E_si pl l * (tree E_si pr r * R))) w) :
    Calls Tryd.prog 92 #[.pointer (some ⟨b, 0, none⟩)] w (ret fun u w' => ∃ p' t', u = .pointer p' ∧ t'.toList = l.toList ++ (k, v) :: r.toList ∧ Sat w0 (tree E_si p' t' * R) w') := by
  have d1 := l.bd
  have d2 := r.bd
  by_cases cL : 1 < l.h - r.h
  · obtain ⟨c1, k', v', c2, rfl⟩ := T.h0 (t := l) (by omega)
    have d3 := c1.bd
    have d4 := c2.bd
    simp only [T.h, T.m] at cL d1 d2 hm
    obtain ⟨bc, p1, p2, rfl, hS⟩ := tree_node hS.b2
    replace hS : Sat w0 (blks [(b, .cells #[E_si.k k, E_si.v v, .pointer (some ⟨bc, 0, none⟩), .pointer pr, x4, x5] 149 (0, 0)), (bc, .cells #[E_si.k k', E_si.v v', .pointer p1, .pointer p2, .int .i64 (1 + max c1.h c2.h), .int .i64 (1 + c1.m + c2.m)] 149 (0, 0))] * (tree E_si p1 c1 * (tree E_si p2 c2 * (tree E_si pr r * R)))) w := hS.to (by simp only [blks]; ac_rfl)
    by_cases cd : c1.h < c2.h
    · obtain ⟨d1', k2, v2, d2', rfl⟩ := T.h0 (t := c2) (by omega)
      refine enterF (args := [_]) Tryd.func92 rfl Tryd.ntmps92 rfl rfl ?_
      refine F_seq ?_
      refine F_region (p := ⟨_, [0], []⟩) rfl [0] rfl ?_
      refine O_assign rfl rfl rfl rfl rfl ?_
      refine R_nil ?_
      refine tn ?_
      refine F_seq ?_
      refine F_seq ?_
      refine F_drawnS hS (by kernel_rfl) (p := ⟨_, [0, 0, 0, 1, 2, 0, 0, 0, 1, 2, 0, 0], [(4, 8)]⟩) rfl (.ofList [0, 1, 2, 3, 4, 5, 6, 7, 8, 9, 10, 11]) (by kernel_rfl) ?_
      intro w hS
      refine O_move rfl rfl rfl rfl rfl ?_
      refine O_nilCheck rfl rfl rfl rfl rfl ?_
      refine O_fieldAddr rfl rfl rfl rfl rfl Tryd.runUnderlying149 rfl Tryd.sizeOf136 ?_
      refine O_loadS hS rfl rfl rfl rfl rfl Tryd.isAgg136 (by repeat (first | exact .here rfl | apply CellAt.there)) (by trivial) ?_
      have hQ : Sat w0 ((blks [(bc, .cells #[E_si.k k', E_si.v v', .pointer p1, .pointer p2, .int .i64 (1 + max c1.h (T.node d1' k2 v2 d2').h), .int .i64 (1 + c1.m + (T.node d1' k2 v2 d2').m)] 149 (0, 0))] * (tree E_si p1 c1 * tree E_si p2 (T.node d1' k2 v2 d2'))) * (blks [(b, .cells #[E_si.k k, E_si.v v, .pointer (some ⟨bc, 0, none⟩), .pointer pr, x4, x5] 149 (0, 0))] * (tree E_si pr r * R))) w := hS.to (by simp only [blks]; ac_rfl)
      have hS_4 := hS
      refine O_call rfl rfl rfl rfl Tryd.call97 rfl ((ht_si_at _ _ _ hQ).1) (fun _ _ hv => trivial) ?_
      rintro _ w ⟨rfl, hS⟩
      replace hS : Sat w0 (blks [(b, .cells #[E_si.k k, E_si.v v, .pointer (some ⟨bc, 0, none⟩), .pointer pr, x4, x5] 149 (0, 0)), (bc, .cells #[E_si.k k', E_si.v v', .pointer p1, .pointer p2, .int .i64 (1 + max c1.h (T.node d1' k2 v2 d2').h), .int .i64 (1 + c1.m + (T.node d1' k2 v2 d2').m)] 149 (0, 0))] * (tree E_si p1 c1 * (tree E_si p2 (T.node d1' k2 v2 d2') * (tree E_si pr r * R)))) w := hS.to (by simp only [blks]; ac_rfl)
      refine O_move rfl rfl rfl rfl rfl ?_
      refine O_nilCheck rfl rfl rfl rfl rfl ?_
      refine O_fieldAddr rfl rfl rfl rfl rfl Tryd.runUnderlying149 rfl Tryd.sizeOf136 ?_
      refine O_loadS hS rfl rfl rfl rfl rfl Tryd.isAgg136 (by repeat (first | exact .here rfl | apply CellAt.there)) (by exact ⟨CellAt.cell (by repeat (first | exact .here rfl | apply CellAt.there)) hS_4, trivial⟩) ?_
      have hQ : Sat w0 (tree E_si pr r * (blks [(b, .cells #[E_si.k k, E_si.v v, .pointer (some ⟨bc, 0, none⟩), .pointer pr, x4, x5] 149 (0, 0))] * ((blks [(bc, .cells #[E_si.k k', E_si.v v', .pointer p1, .pointer p2, .int .i64 (1 + max c1.h (T.node d1' k2 v2 d2').h), .int .i64 (1 + c1.m + (T.node d1' k2 v2 d2').m)] 149 (0, 0))] * (tree E_si p1 c1 * tree E_si p2 (T.node d1' k2 v2 d2'))) * R))) w := hS.to (by simp only [blks]; ac_rfl)
      refine O_call rfl rfl rfl rfl Tryd.call97 rfl ((ht_si _ _ _ hQ).1) (fun _ _ hv => ⟨trivial, trivial⟩) ?_
      rintro _ w ⟨rfl, hS⟩
      replace hS : Sat w0 (blks [(b, .cells #[E_si.k k, E_si.v v, .pointer (some ⟨bc, 0, none⟩), .pointer pr, x4, x5] 149 (0, 0)), (bc, .cells #[E_si.k k', E_si.v v', .pointer p1, .pointer p2, .int .i64 (1 + max c1.h (T.node d1' k2 v2 d2').h), .int .i64 (1 + c1.m + (T.node d1' k2 v2 d2').m)] 149 (0, 0))] * (tree E_si p1 c1 * (tree E_si p2 (T.node d1' k2 v2 d2') * (tree E_si pr r * R)))) w := hS.to (by simp only [blks]; ac_rfl)
      refine O_subN rfl rfl rfl rfl rfl rfl (by first | omega | (dsimp only; omega)) ?_
      refine O_assign rfl rfl rfl rfl rfl ?_
      refine R_nil ?_
      refine tn ?_
      refine F_block ?_
      refine F_seq ?_
      refine F_region (p := ⟨_, [0, 0, 0], []⟩) rfl [0, 1, 2] rfl ?_
      refine O_move rfl rfl rfl rfl rfl ?_
      refine O_cmp rfl rfl rfl rfl rfl rfl rfl ?_
      refine O_assign rfl rfl rfl rfl rfl ?_
      refine R_nil ?_
      refine tn ?_
      refine F_true rfl (decide_eq_true (by omega)) ?_
      refine F_seq ?_
      refine F_seq ?_
      refine F_drawnS hS (by kernel_rfl) (p := ⟨_, [0, 0, 0, 1, 0, 0, 1, 2, 0, 0, 0, 1, 0, 0, 1, 2, 0], [(7, 11), (7, 14)]⟩) rfl (.ofList [0, 1, 2, 3, 4, 5, 6, 7, 8, 9, 10, 11, 12, 13, 14, 15, 16]) (by kernel_rfl) ?_
      intro w hS
      refine O_move rfl rfl rfl rfl rfl ?_
      refine O_nilCheck rfl rfl rfl rfl rfl ?_
      refine O_fieldAddr rfl rfl rfl rfl rfl Tryd.runUnderlying149 rfl Tryd.sizeOf136 ?_
      refine O_loadS hS rfl rfl rfl rfl rfl Tryd.isAgg136 (by repeat (first | exact .here rfl | apply CellAt.there)) (by trivial) ?_
      refine O_nilCheck rfl rfl rfl rfl rfl ?_
      refine O_fieldAddr rfl rfl rfl rfl rfl Tryd.runUnderlying149 rfl Tryd.sizeOf136 ?_
      refine O_loadS hS rfl rfl rfl rfl rfl Tryd.isAgg136 (by repeat (first | exact .here rfl | apply CellAt.there)) (by trivial) ?_
      have hQ : Sat w0 (tree E_si p1 c1 * (blks [(b, .cells #[E_si.k k, E_si.v v, .pointer (some ⟨bc, 0, none⟩), .pointer pr, x4, x5] 149 (0, 0)), (bc, .cells #[E_si.k k', E_si.v v', .pointer p1, .pointer p2, .int .i64 (1 + max c1.h (T.node d1' k2 v2 d2').h), .int .i64 (1 + c1.m + (T.node d1' k2 v2 d2').m)] 149 (0, 0))] * (tree E_si p2 (T.node d1' k2 v2 d2') * (tree E_si pr r * R)))) w := hS.to (by simp only [blks]; ac_rfl)
      have hS_7 := hS
      refine O_call rfl rfl rfl rfl Tryd.call97 rfl ((ht_si _ _ _ hQ).1) (fun _ _ hv => trivial) ?_
      rintro _ w ⟨rfl, hS⟩
      replace hS : Sat w0 (blks [(b, .cells #[E_si.k k, E_si.v v, .pointer (some ⟨bc, 0, none⟩), .pointer pr, x4, x5] 149 (0, 0)), (bc, .cells #[E_si.k k', E_si.v v', .pointer p1, .pointer p2, .int .i64 (1 + max c1.h (T.node d1' k2 v2 d2').h), .int .i64 (1 + c1.m + (T.node d1' k2 v2 d2').m)] 149 (0, 0))] * (tree E_si p1 c1 * (tree E_si p2 (T.node d1' k2 v2 d2') * (tree E_si pr r * R)))) w := hS.to (by simp only [blks]; ac_rfl)
      refine O_move rfl rfl rfl rfl rfl ?_
      refine O_nilCheck rfl rfl rfl rfl rfl ?_
      refine O_fieldAddr rfl rfl rfl rfl rfl Tryd.runUnderlying149 rfl Tryd.sizeOf136 ?_
      refine O_loadS hS rfl rfl rfl rfl rfl Tryd.isAgg136 (by repeat (first | exact .here rfl | apply CellAt.there)) (by exact ⟨CellAt.cell (by repeat (first | exact .here rfl | apply CellAt.there)) hS_7, trivial⟩) ?_
      refine O_nilCheck rfl rfl rfl rfl rfl ?_
      refine O_fieldAddr rfl rfl rfl rfl rfl Tryd.runUnderlying149 rfl Tryd.sizeOf136 ?_
      refine O_loadS hS rfl rfl rfl rfl rfl Tryd.isAgg136 (by repeat (first | exact .here rfl | apply CellAt.there)) (by exact ⟨CellAt.cell (by repeat (first | exact .here rfl | apply CellAt.there)) hS_7, trivial⟩) ?_
      have hQ : Sat w0 (tree E_si p2 (T.node d1' k2 v2 d2') * (blks [(b, .cells #[E_si.k k, E_si.v v, .pointer (some ⟨bc, 0, none⟩), .pointer pr, x4, x5] 149 (0, 0)), (bc, .cells #[E_si.k k', E_si.v v', .pointer p1, .pointer p2, .int .i64 (1 + max c1.h (T.node d1' k2 v2 d2').h), .int .i64 (1 + c1.m + (T.node d1' k2 v2 d2').m)] 149 (0, 0))] * (tree E_si p1 c1 * (tree E_si pr r * R)))) w := hS.to (by simp only [blks]; ac_rfl)
      refine O_call rfl rfl rfl rfl Tryd.call97 rfl ((ht_si _ _ _ hQ).1) (fun _ _ hv => ⟨trivial, ⟨trivial, trivial⟩⟩) ?_
      rintro _ w ⟨rfl, hS⟩
      replace hS : Sat w0 (blks [(b, .cells #[E_si.k k, E_si.v v, .pointer (some ⟨bc, 0, none⟩), .pointer pr, x4, x5] 149 (0, 0)), (bc, .cells #[E_si.k k', E_si.v v', .pointer p1, .pointer p2, .int .i64 (1 + max c1.h (T.node d1' k2 v2 d2').h), .int .i64 (1 + c1.m + (T.node d1' k2 v2 d2').m)] 149 (0, 0))] * (tree E_si p1 c1 * (tree E_si p2 (T.node d1' k2 v2 d2') * (tree E_si pr r * R)))) w := hS.to (by simp only [blks]; ac_rfl)
      refine O_cmp rfl rfl rfl rfl rfl rfl rfl ?_
      refine R_nil ?_
      refine tn ?_
      refine F_true rfl (decide_eq_true (by omega)) ?_
      refine F_region (p := ⟨_, [0, 0, 0, 0, 1, 2, 0, 0, 2], []⟩) rfl [0, 1, 2, 3, 4, 5, 6, 7, 8] rfl ?_
      refine O_move rfl rfl rfl rfl rfl ?_
      refine O_move rfl rfl rfl rfl rfl ?_
      refine O_nilCheck rfl rfl rfl rfl rfl ?_
      refine O_fieldAddr rfl rfl rfl rfl rfl Tryd.runUnderlying149 rfl Tryd.sizeOf136 ?_
      refine O_loadS hS rfl rfl rfl rfl rfl Tryd.isAgg136 (by repeat (first | exact .here rfl | apply CellAt.there)) (by trivial) ?_
      have hQ : Sat w0 (blks [(bc, .cells #[E_si.k k', E_si.v v', .pointer p1, .pointer p2, .int .i64 (1 + max c1.h (T.node d1' k2 v2 d2').h), .int .i64 (1 + c1.m + (T.node d1' k2 v2 d2').m)] 149 (0, 0))] * (tree E_si p1 c1 * (tree E_si p2 (T.node d1' k2 v2 d2') * ((blks [(b, .cells #[E_si.k k, E_si.v v, .pointer (some ⟨bc, 0, none⟩), .pointer pr, x4, x5] 149 (0, 0))] * tree E_si pr r) * R)))) w := hS.to (by simp only [blks]; ac_rfl)
      refine O_call rfl rfl rfl rfl Tryd.call99 rfl (toLeft_si (by simp only [T.m] at *; omega) hQ) (fun _ _ hv => trivial) ?_
      rintro _ w ⟨pn, rfl, hS⟩
      replace hS : Sat w0 (blks [(b, .cells #[E_si.k k, E_si.v v, .pointer (some ⟨bc, 0, none⟩), .pointer pr, x4, x5] 149 (0, 0))] * (tree E_si pn (.node (.node c1 k' v' d1') k2 v2 d2') * (tree E_si pr r * R))) w := hS.to (by simp only [blks]; ac_rfl)
      refine O_nilCheck rfl rfl rfl rfl rfl ?_
      refine O_fieldAddr rfl rfl rfl rfl rfl Tryd.runUnderlying149 rfl Tryd.sizeOf136 ?_
      refine O_storeS hS rfl rfl rfl rfl rfl rfl rfl Tryd.sizeOf136 (by repeat (first | exact .here rfl rfl | apply SetAt.there)) (fun w' hv => trivial) ?_
      intro w hS
      refine R_nil ?_
      refine tn ?_
      refine F_seq ?_
      refine F_region (p := ⟨_, [0, 2, 0], []⟩) rfl [0, 1, 2] rfl ?_
      refine O_move rfl rfl rfl rfl rfl ?_
      replace hS : Sat w0 (blks [(b, .cells #[E_si.k k, E_si.v v, .pointer pn, .pointer pr, x4, x5] 149 (0, 0))] * (tree E_si pn (.node (.node c1 k' v' d1') k2 v2 d2') * (tree E_si pr r * R))) w := hS
      refine O_call rfl rfl rfl rfl Tryd.call100 rfl (toRight_si (by simp only [T.m] at *; omega) hS) (fun _ _ hv => trivial) ?_
      rintro _ w ⟨pe, rfl, hS⟩
      refine O_assign rfl rfl rfl rfl rfl ?_
      refine R_nil ?_
      refine tn ?_
      refine F_ret ?_
      refine br ?_
      refine tr ?_
      show endF _ _ _ _ _ _
      refine end0 trivial rfl rfl rfl hS ?_
      intro w hS
      exact ⟨_, _, rfl, by simp [T.toList, List.append_assoc], hS⟩
    ·
      refine enterF (args := [_]) Tryd.func92 rfl Tryd.ntmps92 rfl rfl ?_
      refine F_seq ?_
      refine F_region (p := ⟨_, [0], []⟩) rfl [0] rfl ?_
      refine O_assign rfl rfl rfl rfl rfl ?_
      refine R_nil ?_
      refine tn ?_
      refine F_seq ?_
      refine F_seq ?_
      refine F_drawnS hS (by kernel_rfl) (p := ⟨_, [0, 0, 0, 1, 2, 0, 0, 0, 1, 2, 0, 0], [(4, 8)]⟩) rfl (.ofList [0, 1, 2, 3, 4, 5, 6, 7, 8, 9, 10, 11]) (by kernel_rfl) ?_
      intro w hS
      refine O_move rfl rfl rfl rfl rfl ?_
      refine O_nilCheck rfl rfl rfl rfl rfl ?_
      refine O_fieldAddr rfl rfl rfl rfl rfl Tryd.runUnderlying149 rfl Tryd.sizeOf136 ?_
      refine O_loadS hS rfl rfl rfl rfl rfl Tryd.isAgg136 (by repeat (first | exact .here rfl | apply CellAt.there)) (by trivial) ?_
      have hQ : Sat w0 ((blks [(bc, .cells #[E_si.k k', E_si.v v', .pointer p1, .pointer p2, .int .i64 (1 + max c1.h c2.h), .int .i64 (1 + c1.m + c2.m)] 149 (0, 0))] * (tree E_si p1 c1 * tree E_si p2 c2)) * (blks [(b, .cells #[E_si.k k, E_si.v v, .pointer (some ⟨bc, 0, none⟩), .pointer pr, x4, x5] 149 (0, 0))] * (tree E_si pr r * R))) w := hS.to (by simp only [blks]; ac_rfl)
      have hS_4 := hS
      refine O_call rfl rfl rfl rfl Tryd.call97 rfl ((ht_si_at _ _ _ hQ).1) (fun _ _ hv => trivial) ?_
      rintro _ w ⟨rfl, hS⟩
      replace hS : Sat w0 (blks [(b, .cells #[E_si.k k, E_si.v v, .pointer (some ⟨bc, 0, none⟩), .pointer pr, x4, x5] 149 (0, 0)), (bc, .cells #[E_si.k k', E_si.v v', .pointer p1, .pointer p2, .int .i64 (1 + max c1.h c2.h), .int .i64 (1 + c1.m + c2.m)] 149 (0, 0))] * (tree E_si p1 c1 * (tree E_si p2 c2 * (tree E_si pr r * R)))) w := hS.to (by simp only [blks]; ac_rfl)
      refine O_move rfl rfl rfl rfl rfl ?_
      refine O_nilCheck rfl rfl rfl rfl rfl ?_
      refine O_fieldAddr rfl rfl rfl rfl rfl Tryd.runUnderlying149 rfl Tryd.sizeOf136 ?_
      refine O_loadS hS rfl rfl rfl rfl rfl Tryd.isAgg136 (by repeat (first | exact .here rfl | apply CellAt.there)) (by exact ⟨CellAt.cell (by repeat (first | exact .here rfl | apply CellAt.there)) hS_4, trivial⟩) ?_
      have hQ : Sat w0 (tree E_si pr r * (blks [(b, .cells #[E_si.k k, E_si.v v, .pointer (some ⟨bc, 0, none⟩), .pointer pr, x4, x5] 149 (0, 0))] * ((blks [(bc, .cells #[E_si.k k', E_si.v v', .pointer p1, .pointer p2, .int .i64 (1 + max c1.h c2.h), .int .i64 (1 + c1.m + c2.m)] 149 (0, 0))] * (tree E_si p1 c1 * tree E_si p2 c2)) * R))) w := hS.to (by simp only [blks]; ac_rfl)
      refine O_call rfl rfl rfl rfl Tryd.call97 rfl ((ht_si _ _ _ hQ).1) (fun _ _ hv => ⟨trivial, trivial⟩) ?_
      rintro _ w ⟨rfl, hS⟩
      replace hS : Sat w0 (blks [(b, .cells #[E_si.k k, E_si.v v, .pointer (some ⟨bc, 0, none⟩), .pointer pr, x4, x5] 149 (0, 0)), (bc, .cells #[E_si.k k', E_si.v v', .pointer p1, .pointer p2, .int .i64 (1 + max c1.h c2.h), .int .i64 (1 + c1.m + c2.m)] 149 (0, 0))] * (tree E_si p1 c1 * (tree E_si p2 c2 * (tree E_si pr r * R)))) w := hS.to (by simp only [blks]; ac_rfl)
      refine O_subN rfl rfl rfl rfl rfl rfl (by first | omega | (dsimp only; omega)) ?_
      refine O_assign rfl rfl rfl rfl rfl ?_
      refine R_nil ?_
      refine tn ?_
      refine F_block ?_
      refine F_seq ?_
      refine F_region (p := ⟨_, [0, 0, 0], []⟩) rfl [0, 1, 2] rfl ?_
      refine O_move rfl rfl rfl rfl rfl ?_
      refine O_cmp rfl rfl rfl rfl rfl rfl rfl ?_
      refine O_assign rfl rfl rfl rfl rfl ?_
      refine R_nil ?_
      refine tn ?_
      refine F_true rfl (decide_eq_true (by omega)) ?_
      refine F_seq ?_
      refine F_seq ?_
      refine F_drawnS hS (by kernel_rfl) (p := ⟨_, [0, 0, 0, 1, 0, 0, 1, 2, 0, 0, 0, 1, 0, 0, 1, 2, 0], [(7, 11), (7, 14)]⟩) rfl (.ofList [0, 1, 2, 3, 4, 5, 6, 7, 8, 9, 10, 11, 12, 13, 14, 15, 16]) (by kernel_rfl) ?_
      intro w hS
      refine O_move rfl rfl rfl rfl rfl ?_
      refine O_nilCheck rfl rfl rfl rfl rfl ?_
      refine O_fieldAddr rfl rfl rfl rfl rfl Tryd.runUnderlying149 rfl Tryd.sizeOf136 ?_
      refine O_loadS hS rfl rfl rfl rfl rfl Tryd.isAgg136 (by repeat (first | exact .here rfl | apply CellAt.there)) (by trivial) ?_
      refine O_nilCheck rfl rfl rfl rfl rfl ?_
      refine O_fieldAddr rfl rfl rfl rfl rfl Tryd.runUnderlying149 rfl Tryd.sizeOf136 ?_
      refine O_loadS hS rfl rfl rfl rfl rfl Tryd.isAgg136 (by repeat (first | exact .here rfl | apply CellAt.there)) (by trivial) ?_
      have hQ : Sat w0 (tree E_si p1 c1 * (blks [(b, .cells #[E_si.k k, E_si.v v, .pointer (some ⟨bc, 0, none⟩), .pointer pr, x4, x5] 149 (0, 0)), (bc, .cells #[E_si.k k', E_si.v v', .pointer p1, .pointer p2, .int .i64 (1 + max c1.h c2.h), .int .i64 (1 + c1.m + c2.m)] 149 (0, 0))] * (tree E_si p2 c2 * (tree E_si pr r * R)))) w := hS.to (by simp only [blks]; ac_rfl)
      have hS_7 := hS
      refine O_call rfl rfl rfl rfl Tryd.call97 rfl ((ht_si _ _ _ hQ).1) (fun _ _ hv => trivial) ?_
      rintro _ w ⟨rfl, hS⟩
      replace hS : Sat w0 (blks [(b, .cells #[E_si.k k, E_si.v v, .pointer (some ⟨bc, 0, none⟩), .pointer pr, x4, x5] 149 (0, 0)), (bc, .cells #[E_si.k k', E_si.v v', .pointer p1, .pointer p2, .int .i64 (1 + max c1.h c2.h), .int .i64 (1 + c1.m + c2.m)] 149 (0, 0))] * (tree E_si p1 c1 * (tree E_si p2 c2 * (tree E_si pr r * R)))) w := hS.to (by simp only [blks]; ac_rfl)
      refine O_move rfl rfl rfl rfl rfl ?_
      refine O_nilCheck rfl rfl rfl rfl rfl ?_
      refine O_fieldAddr rfl rfl rfl rfl rfl Tryd.runUnderlying149 rfl Tryd.sizeOf136 ?_
      refine O_loadS hS rfl rfl rfl rfl rfl Tryd.isAgg136 (by repeat (first | exact .here rfl | apply CellAt.there)) (by exact ⟨CellAt.cell (by repeat (first | exact .here rfl | apply CellAt.there)) hS_7, trivial⟩) ?_
      refine O_nilCheck rfl rfl rfl rfl rfl ?_
      refine O_fieldAddr rfl rfl rfl rfl rfl Tryd.runUnderlying149 rfl Tryd.sizeOf136 ?_
      refine O_loadS hS rfl rfl rfl rfl rfl Tryd.isAgg136 (by repeat (first | exact .here rfl | apply CellAt.there)) (by exact ⟨CellAt.cell (by repeat (first | exact .here rfl | apply CellAt.there)) hS_7, trivial⟩) ?_
      have hQ : Sat w0 (tree E_si p2 c2 * (blks [(b, .cells #[E_si.k k, E_si.v v, .pointer (some ⟨bc, 0, none⟩), .pointer pr, x4, x5] 149 (0, 0)), (bc, .cells #[E_si.k k', E_si.v v', .pointer p1, .pointer p2, .int .i64 (1 + max c1.h c2.h), .int .i64 (1 + c1.m + c2.m)] 149 (0, 0))] * (tree E_si p1 c1 * (tree E_si pr r * R)))) w := hS.to (by simp only [blks]; ac_rfl)
      refine O_call rfl rfl rfl rfl Tryd.call97 rfl ((ht_si _ _ _ hQ).1) (fun _ _ hv => ⟨trivial, ⟨trivial, trivial⟩⟩) ?_
      rintro _ w ⟨rfl, hS⟩
      replace hS : Sat w0 (blks [(b, .cells #[E_si.k k, E_si.v v, .pointer (some ⟨bc, 0, none⟩), .pointer pr, x4, x5] 149 (0, 0)), (bc, .cells #[E_si.k k', E_si.v v', .pointer p1, .pointer p2, .int .i64 (1 + max c1.h c2.h), .int .i64 (1 + c1.m + c2.m)] 149 (0, 0))] * (tree E_si p1 c1 * (tree E_si p2 c2 * (tree E_si pr r * R)))) w := hS.to (by simp only [blks]; ac_rfl)
      refine O_cmp rfl rfl rfl rfl rfl rfl rfl ?_
      refine R_nil ?_
      refine tn ?_
      refine F_false rfl (decide_eq_false (by omega)) ?_
      refine F_skip ?_
      refine tn ?_
      refine F_seq ?_
      refine F_region (p := ⟨_, [0, 2, 0], []⟩) rfl [0, 1, 2] rfl ?_
      refine O_move rfl rfl rfl rfl rfl ?_
      have hQ : Sat w0 (blks [(bc, .cells #[E_si.k k', E_si.v v', .pointer p1, .pointer p2, .int .i64 (1 + max c1.h c2.h), .int .i64 (1 + c1.m + c2.m)] 149 (0, 0))] * (tree E_si p1 c1 * (tree E_si p2 c2 * ((blks [(b, .cells #[E_si.k k, E_si.v v, .pointer (some ⟨bc, 0, none⟩), .pointer pr, x4, x5] 149 (0, 0))] * tree E_si pr r) * R)))) w := hS.to (by simp only [blks]; ac_rfl)
      replace hQ := tree_node_mk rfl rfl hQ
      replace hQ : Sat w0 (blks [(b, .cells #[E_si.k k, E_si.v v, .pointer (some ⟨bc, 0, none⟩), .pointer pr, x4, x5] 149 (0, 0))] * (tree E_si (some ⟨bc, 0, none⟩) (.node c1 k' v' c2) * (tree E_si pr r * R))) w := hQ.to (by ac_rfl)
      refine O_call rfl rfl rfl rfl Tryd.call100 rfl (toRight_si (by simp only [T.m] at *; omega) hQ) (fun _ _ hv => trivial) ?_
      rintro _ w ⟨pe, rfl, hS⟩
      refine O_assign rfl rfl rfl rfl rfl ?_
      refine R_nil ?_
      refine tn ?_
      refine F_ret ?_
      refine br ?_
      refine tr ?_
      show endF _ _ _ _ _ _
      refine end0 trivial rfl rfl rfl hS ?_
      intro w hS
      exact ⟨_, _, rfl, by simp [T.toList, List.append_assoc], hS⟩
  by_cases cR : l.h - r.h < -1
  · obtain ⟨c1, k', v', c2, rfl⟩ := T.h0 (t := r) (by omega)
    have d3 := c1.bd
    have d4 := c2.bd
    simp only [T.h, T.m] at cR d1 d2 hm cL
    obtain ⟨bc, p1, p2, rfl, hS⟩ := tree_node hS.b3
    replace hS : Sat w0 (blks [(b, .cells #[E_si.k k, E_si.v v, .pointer pl, .pointer (some ⟨bc, 0, none⟩), x4, x5] 149 (0, 0)), (bc, .cells #[E_si.k k', E_si.v v', .pointer p1, .pointer p2, .int .i64 (1 + max c1.h c2.h), .int .i64 (1 + c1.m + c2.m)] 149 (0, 0))] * (tree E_si p1 c1 * (tree E_si p2 c2 * (tree E_si pl l * R)))) w := hS.to (by simp only [blks]; ac_rfl)
    by_cases cd : c2.h < c1.h
    · obtain ⟨d1', k2, v2, d2', rfl⟩ := T.h0 (t := c1) (by omega)
      refine enterF (args := [_]) Tryd.func92 rfl Tryd.ntmps92 rfl rfl ?_
      refine F_seq ?_
      refine F_region (p := ⟨_, [0], []⟩) rfl [0] rfl ?_
      refine O_assign rfl rfl rfl rfl rfl ?_
      refine R_nil ?_
      refine tn ?_
      refine F_seq ?_
      refine F_seq ?_
      refine F_drawnS hS (by kernel_rfl) (p := ⟨_, [0, 0, 0, 1, 2, 0, 0, 0, 1, 2, 0, 0], [(4, 8)]⟩) rfl (.ofList [0, 1, 2, 3, 4, 5, 6, 7, 8, 9, 10, 11]) (by kernel_rfl) ?_
      intro w hS
      refine O_move rfl rfl rfl rfl rfl ?_
      refine O_nilCheck rfl rfl rfl rfl rfl ?_
      refine O_fieldAddr rfl rfl rfl rfl rfl Tryd.runUnderlying149 rfl Tryd.sizeOf136 ?_
      refine O_loadS hS rfl rfl rfl rfl rfl Tryd.isAgg136 (by repeat (first | exact .here rfl | apply CellAt.there)) (by trivial) ?_
      have hQ : Sat w0 (tree E_si pl l * (blks [(b, .cells #[E_si.k k, E_si.v v, .pointer pl, .pointer (some ⟨bc, 0, none⟩), x4, x5] 149 (0, 0))] * ((blks [(bc, .cells #[E_si.k k', E_si.v v', .pointer p1, .pointer p2, .int .i64 (1 + max (T.node d1' k2 v2 d2').h c2.h), .int .i64 (1 + (T.node d1' k2 v2 d2').m + c2.m)] 149 (0, 0))] * (tree E_si p1 (T.node d1' k2 v2 d2') * tree E_si p2 c2)) * R))) w := hS.to (by simp only [blks]; ac_rfl)
      have hS_4 := hS
      refine O_call rfl rfl rfl rfl Tryd.call97 rfl ((ht_si _ _ _ hQ).1) (fun _ _ hv => trivial) ?_
      rintro _ w ⟨rfl, hS⟩
      replace hS : Sat w0 (blks [(b, .cells #[E_si.k k, E_si.v v, .pointer pl, .pointer (some ⟨bc, 0, none⟩), x4, x5] 149 (0, 0)), (bc, .cells #[E_si.k k', E_si.v v', .pointer p1, .pointer p2, .int .i64 (1 + max (T.node d1' k2 v2 d2').h c2.h), .int .i64 (1 + (T.node d1' k2 v2 d2').m + c2.m)] 149 (0, 0))] * (tree E_si p1 (T.node d1' k2 v2 d2') * (tree E_si p2 c2 * (tree E_si pl l * R)))) w := hS.to (by simp only [blks]; ac_rfl)
      refine O_move rfl rfl rfl rfl rfl ?_
      refine O_nilCheck rfl rfl rfl rfl rfl ?_
      refine O_fieldAddr rfl rfl rfl rfl rfl Tryd.runUnderlying149 rfl Tryd.sizeOf136 ?_
      refine O_loadS hS rfl rfl rfl rfl rfl Tryd.isAgg136 (by repeat (first | exact .here rfl | apply CellAt.there)) (by exact ⟨CellAt.cell (by repeat (first | exact .here rfl | apply CellAt.there)) hS_4, trivial⟩) ?_
      have hQ : Sat w0 ((blks [(bc, .cells #[E_si.k k', E_si.v v', .pointer p1, .pointer p2, .int .i64 (1 + max (T.node d1' k2 v2 d2').h c2.h), .int .i64 (1 + (T.node d1' k2 v2 d2').m + c2.m)] 149 (0, 0))] * (tree E_si p1 (T.node d1' k2 v2 d2') * tree E_si p2 c2)) * (blks [(b, .cells #[E_si.k k, E_si.v v, .pointer pl, .pointer (some ⟨bc, 0, none⟩), x4, x5] 149 (0, 0))] * (tree E_si pl l * R))) w := hS.to (by simp only [blks]; ac_rfl)
      refine O_call rfl rfl rfl rfl Tryd.call97 rfl ((ht_si_at _ _ _ hQ).1) (fun _ _ hv => ⟨trivial, trivial⟩) ?_
      rintro _ w ⟨rfl, hS⟩
      replace hS : Sat w0 (blks [(b, .cells #[E_si.k k, E_si.v v, .pointer pl, .pointer (some ⟨bc, 0, none⟩), x4, x5] 149 (0, 0)), (bc, .cells #[E_si.k k', E_si.v v', .pointer p1, .pointer p2, .int .i64 (1 + max (T.node d1' k2 v2 d2').h c2.h), .int .i64 (1 + (T.node d1' k2 v2 d2').m + c2.m)] 149 (0, 0))] * (tree E_si p1 (T.node d1' k2 v2 d2') * (tree E_si p2 c2 * (tree E_si pl l * R)))) w := hS.to (by simp only [blks]; ac_rfl)
      refine O_subN rfl rfl rfl rfl rfl rfl (by first | omega | (dsimp only; omega)) ?_
      refine O_assign rfl rfl rfl rfl rfl ?_
      refine R_nil ?_
      refine tn ?_
      refine F_block ?_
      refine F_seq ?_
      refine F_region (p := ⟨_, [0, 0, 0], []⟩) rfl [0, 1, 2] rfl ?_
      refine O_move rfl rfl rfl rfl rfl ?_
      refine O_cmp rfl rfl rfl rfl rfl rfl rfl ?_
      refine O_assign rfl rfl rfl rfl rfl ?_
      refine R_nil ?_
      refine tn ?_
      refine F_false rfl (decide_eq_false (by omega)) ?_
      refine F_seq ?_
      refine F_region (p := ⟨_, [0, 0, 0], []⟩) rfl [0, 1, 2] rfl ?_
      refine O_move rfl rfl rfl rfl rfl ?_
      refine O_cmp rfl rfl rfl rfl rfl rfl rfl ?_
      refine O_assign rfl rfl rfl rfl rfl ?_
      refine R_nil ?_
      refine tn ?_
      refine F_true rfl (decide_eq_true (by omega)) ?_
      refine F_seq ?_
      refine F_seq ?_
      refine F_drawnS hS (by kernel_rfl) (p := ⟨_, [0, 0, 0, 1, 0, 0, 1, 2, 0, 0, 0, 1, 0, 0, 1, 2, 0], [(7, 11), (7, 14)]⟩) rfl (.ofList [0, 1, 2, 3, 4, 5, 6, 7, 8, 9, 10, 11, 12, 13, 14, 15, 16]) (by kernel_rfl) ?_
      intro w hS
      refine O_move rfl rfl rfl rfl rfl ?_
      refine O_nilCheck rfl rfl rfl rfl rfl ?_
      refine O_fieldAddr rfl rfl rfl rfl rfl Tryd.runUnderlying149 rfl Tryd.sizeOf136 ?_
      refine O_loadS hS rfl rfl rfl rfl rfl Tryd.isAgg136 (by repeat (first | exact .here rfl | apply CellAt.there)) (by trivial) ?_
      refine O_nilCheck rfl rfl rfl rfl rfl ?_
      refine O_fieldAddr rfl rfl rfl rfl rfl Tryd.runUnderlying149 rfl Tryd.sizeOf136 ?_
      refine O_loadS hS rfl rfl rfl rfl rfl Tryd.isAgg136 (by repeat (first | exact .here rfl | apply CellAt.there)) (by trivial) ?_
      have hQ : Sat w0 (tree E_si p2 c2 * (blks [(b, .cells #[E_si.k k, E_si.v v, .pointer pl, .pointer (some ⟨bc, 0, none⟩), x4, x5] 149 (0, 0)), (bc, .cells #[E_si.k k', E_si.v v', .pointer p1, .pointer p2, .int .i64 (1 + max (T.node d1' k2 v2 d2').h c2.h), .int .i64 (1 + (T.node d1' k2 v2 d2').m + c2.m)] 149 (0, 0))] * (tree E_si p1 (T.node d1' k2 v2 d2') * (tree E_si pl l * R)))) w := hS.to (by simp only [blks]; ac_rfl)
      have hS_7 := hS
      refine O_call rfl rfl rfl rfl Tryd.call97 rfl ((ht_si _ _ _ hQ).1) (fun _ _ hv => trivial) ?_
      rintro _ w ⟨rfl, hS⟩
      replace hS : Sat w0 (blks [(b, .cells #[E_si.k k, E_si.v v, .pointer pl, .pointer (some ⟨bc, 0, none⟩), x4, x5] 149 (0, 0)), (bc, .cells #[E_si.k k', E_si.v v', .pointer p1, .pointer p2, .int .i64 (1 + max (T.node d1' k2 v2 d2').h c2.h), .int .i64 (1 + (T.node d1' k2 v2 d2').m + c2.m)] 149 (0, 0))] * (tree E_si p1 (T.node d1' k2 v2 d2') * (tree E_si p2 c2 * (tree E_si pl l * R)))) w := hS.to (by simp only [blks]; ac_rfl)
      refine O_move rfl rfl rfl rfl rfl ?_
      refine O_nilCheck rfl rfl rfl rfl rfl ?_
      refine O_fieldAddr rfl rfl rfl rfl rfl Tryd.runUnderlying149 rfl Tryd.sizeOf136 ?_
      refine O_loadS hS rfl rfl rfl rfl rfl Tryd.isAgg136 (by repeat (first | exact .here rfl | apply CellAt.there)) (by exact ⟨CellAt.cell (by repeat (first | exact .here rfl | apply CellAt.there)) hS_7, trivial⟩) ?_
      refine O_nilCheck rfl rfl rfl rfl rfl ?_
      refine O_fieldAddr rfl rfl rfl rfl rfl Tryd.runUnderlying149 rfl Tryd.sizeOf136 ?_
      refine O_loadS hS rfl rfl rfl rfl rfl Tryd.isAgg136 (by repeat (first | exact .here rfl | apply CellAt.there)) (by exact ⟨CellAt.cell (by repeat (first | exact .here rfl | apply CellAt.there)) hS_7, trivial⟩) ?_
      have hQ : Sat w0 (tree E_si p1 (T.node d1' k2 v2 d2') * (blks [(b, .cells #[E_si.k k, E_si.v v, .pointer pl, .pointer (some ⟨bc, 0, none⟩), x4, x5] 149 (0, 0)), (bc, .cells #[E_si.k k', E_si.v v', .pointer p1, .pointer p2, .int .i64 (1 + max (T.node d1' k2 v2 d2').h c2.h), .int .i64 (1 + (T.node d1' k2 v2 d2').m + c2.m)] 149 (0, 0))] * (tree E_si p2 c2 * (tree E_si pl l * R)))) w := hS.to (by simp only [blks]; ac_rfl)
      refine O_call rfl rfl rfl rfl Tryd.call97 rfl ((ht_si _ _ _ hQ).1) (fun _ _ hv => ⟨trivial, ⟨trivial, trivial⟩⟩) ?_
      rintro _ w ⟨rfl, hS⟩
      replace hS : Sat w0 (blks [(b, .cells #[E_si.k k, E_si.v v, .pointer pl, .pointer (some ⟨bc, 0, none⟩), x4, x5] 149 (0, 0)), (bc, .cells #[E_si.k k', E_si.v v', .pointer p1, .pointer p2, .int .i64 (1 + max (T.node d1' k2 v2 d2').h c2.h), .int .i64 (1 + (T.node d1' k2 v2 d2').m + c2.m)] 149 (0, 0))] * (tree E_si p1 (T.node d1' k2 v2 d2') * (tree E_si p2 c2 * (tree E_si pl l * R)))) w := hS.to (by simp only [blks]; ac_rfl)
      refine O_cmp rfl rfl rfl rfl rfl rfl rfl ?_
      refine R_nil ?_
      refine tn ?_
      refine F_true rfl (decide_eq_true (by omega)) ?_
      refine F_region (p := ⟨_, [0, 0, 0, 0, 1, 2, 0, 0, 2], []⟩) rfl [0, 1, 2, 3, 4, 5, 6, 7, 8] rfl ?_
      refine O_move rfl rfl rfl rfl rfl ?_
      refine O_move rfl rfl rfl rfl rfl ?_
      refine O_nilCheck rfl rfl rfl rfl rfl ?_
      refine O_fieldAddr rfl rfl rfl rfl rfl Tryd.runUnderlying149 rfl Tryd.sizeOf136 ?_
      refine O_loadS hS rfl rfl rfl rfl rfl Tryd.isAgg136 (by repeat (first | exact .here rfl | apply CellAt.there)) (by trivial) ?_
      have hQ : Sat w0 (blks [(bc, .cells #[E_si.k k', E_si.v v', .pointer p1, .pointer p2, .int .i64 (1 + max (T.node d1' k2 v2 d2').h c2.h), .int .i64 (1 + (T.node d1' k2 v2 d2').m + c2.m)] 149 (0, 0))] * (tree E_si p1 (T.node d1' k2 v2 d2') * (tree E_si p2 c2 * ((blks [(b, .cells #[E_si.k k, E_si.v v, .pointer pl, .pointer (some ⟨bc, 0, none⟩), x4, x5] 149 (0, 0))] * tree E_si pl l) * R)))) w := hS.to (by simp only [blks]; ac_rfl)
      refine O_call rfl rfl rfl rfl Tryd.call100 rfl (toRight_si (by simp only [T.m] at *; omega) hQ) (fun _ _ hv => trivial) ?_
      rintro _ w ⟨pn, rfl, hS⟩
      replace hS : Sat w0 (blks [(b, .cells #[E_si.k k, E_si.v v, .pointer pl, .pointer (some ⟨bc, 0, none⟩), x4, x5] 149 (0, 0))] * (tree E_si pn (.node d1' k2 v2 (.node d2' k' v' c2)) * (tree E_si pl l * R))) w := hS.to (by simp only [blks]; ac_rfl)
      refine O_nilCheck rfl rfl rfl rfl rfl ?_
      refine O_fieldAddr rfl rfl rfl rfl rfl Tryd.runUnderlying149 rfl Tryd.sizeOf136 ?_
      refine O_storeS hS rfl rfl rfl rfl rfl rfl rfl Tryd.sizeOf136 (by repeat (first | exact .here rfl rfl | apply SetAt.there)) (fun w' hv => trivial) ?_
      intro w hS
      refine R_nil ?_
      refine tn ?_
      refine F_seq ?_
      refine F_region (p := ⟨_, [0, 2, 0], []⟩) rfl [0, 1, 2] rfl ?_
      refine O_move rfl rfl rfl rfl rfl ?_
      replace hS : Sat w0 (blks [(b, .cells #[E_si.k k, E_si.v v, .pointer pl, .pointer pn, x4, x5] 149 (0, 0))] * (tree E_si pn (.node d1' k2 v2 (.node d2' k' v' c2)) * (tree E_si pl l * R))) w := hS
      replace hS : Sat w0 (blks [(b, .cells #[E_si.k k, E_si.v v, .pointer pl, .pointer pn, x4, x5] 149 (0, 0))] * (tree E_si pl l * (tree E_si pn (.node d1' k2 v2 (.node d2' k' v' c2)) * R))) w := hS.to (by simp only [blks]; ac_rfl)
      refine O_call rfl rfl rfl rfl Tryd.call99 rfl (toLeft_si (by simp only [T.m] at *; omega) hS) (fun _ _ hv => trivial) ?_
      rintro _ w ⟨pe, rfl, hS⟩
      refine O_assign rfl rfl rfl rfl rfl ?_
      refine R_nil ?_
      refine tn ?_
      refine F_ret ?_
      refine br ?_
      refine tr ?_
      show endF _ _ _ _ _ _
      refine end0 trivial rfl rfl rfl hS ?_
      intro w hS
      exact ⟨_, _, rfl, by simp [T.toList, List.append_assoc], hS⟩
    ·
      refine enterF (args := [_]) Tryd.func92 rfl Tryd.ntmps92 rfl rfl ?_
      refine F_seq ?_
      refine F_region (p := ⟨_, [0], []⟩) rfl [0] rfl ?_
      refine O_assign rfl rfl rfl rfl rfl ?_
      refine R_nil ?_
      refine tn ?_
      refine F_seq ?_
      refine F_seq ?_
      refine F_drawnS hS (by kernel_rfl) (p := ⟨_, [0, 0, 0, 1, 2, 0, 0, 0, 1, 2, 0, 0], [(4, 8)]⟩) rfl (.ofList [0, 1, 2, 3, 4, 5, 6, 7, 8, 9, 10, 11]) (by kernel_rfl) ?_
      intro w hS
      refine O_move rfl rfl rfl rfl rfl ?_
      refine O_nilCheck rfl rfl rfl rfl rfl ?_
      refine O_fieldAddr rfl rfl rfl rfl rfl Tryd.runUnderlying149 rfl Tryd.sizeOf136 ?_
      refine O_loadS hS rfl rfl rfl rfl rfl Tryd.isAgg136 (by repeat (first | exact .here rfl | apply CellAt.there)) (by trivial) ?_
      have hQ : Sat w0 (tree E_si pl l * (blks [(b, .cells #[E_si.k k, E_si.v v, .pointer pl, .pointer (some ⟨bc, 0, none⟩), x4, x5] 149 (0, 0))] * ((blks [(bc, .cells #[E_si.k k', E_si.v v', .pointer p1, .pointer p2, .int .i64 (1 + max c1.h c2.h), .int .i64 (1 + c1.m + c2.m)] 149 (0, 0))] * (tree E_si p1 c1 * tree E_si p2 c2)) * R))) w := hS.to (by simp only [blks]; ac_rfl)
      have hS_4 := hS
      refine O_call rfl rfl rfl rfl Tryd.call97 rfl ((ht_si _ _ _ hQ).1) (fun _ _ hv => trivial) ?_
      rintro _ w ⟨rfl, hS⟩
      replace hS : Sat w0 (blks [(b, .cells #[E_si.k k, E_si.v v, .pointer pl, .pointer (some ⟨bc, 0, none⟩), x4, x5] 149 (0, 0)), (bc, .cells #[E_si.k k', E_si.v v', .pointer p1, .pointer p2, .int .i64 (1 + max c1.h c2.h), .int .i64 (1 + c1.m + c2.m)] 149 (0, 0))] * (tree E_si p1 c1 * (tree E_si p2 c2 * (tree E_si pl l * R)))) w := hS.to (by simp only [blks]; ac_rfl)
      refine O_move rfl rfl rfl rfl rfl ?_
      refine O_nilCheck rfl rfl rfl rfl rfl ?_
      refine O_fieldAddr rfl rfl rfl rfl rfl Tryd.runUnderlying149 rfl Tryd.sizeOf136 ?_
      refine O_loadS hS rfl rfl rfl rfl rfl Tryd.isAgg136 (by repeat (first | exact .here rfl | apply CellAt.there)) (by exact ⟨CellAt.cell (by repeat (first | exact .here rfl | apply CellAt.there)) hS_4, trivial⟩) ?_
      have hQ : Sat w0 ((blks [(bc, .cells #[E_si.k k', E_si.v v', .pointer p1, .pointer p2, .int .i64 (1 + max c1.h c2.h), .int .i64 (1 + c1.m + c2.m)] 149 (0, 0))] * (tree E_si p1 c1 * tree E_si p2 c2)) * (blks [(b, .cells #[E_si.k k, E_si.v v, .pointer pl, .pointer (some ⟨bc, 0, none⟩), x4, x5] 149 (0, 0))] * (tree E_si pl l * R))) w := hS.to (by simp only [blks]; ac_rfl)
      refine O_call rfl rfl rfl rfl Tryd.call97 rfl ((ht_si_at _ _ _ hQ).1) (fun _ _ hv => ⟨trivial, trivial⟩) ?_
      rintro _ w ⟨rfl, hS⟩
      replace hS : Sat w0 (blks [(b, .cells #[E_si.k k, E_si.v v, .pointer pl, .pointer (some ⟨bc, 0, none⟩), x4, x5] 149 (0, 0)), (bc, .cells #[E_si.k k', E_si.v v', .pointer p1, .pointer p2, .int .i64 (1 + max c1.h c2.h), .int .i64 (1 + c1.m + c2.m)] 149 (0, 0))] * (tree E_si p1 c1 * (tree E_si p2 c2 * (tree E_si pl l * R)))) w := hS.to (by simp only [blks]; ac_rfl)
      refine O_subN rfl rfl rfl rfl rfl rfl (by first | omega | (dsimp only; omega)) ?_
      refine O_assign rfl rfl rfl rfl rfl ?_
      refine R_nil ?_
      refine tn ?_
      refine F_block ?_
      refine F_seq ?_
      refine F_region (p := ⟨_, [0, 0, 0], []⟩) rfl [0, 1, 2] rfl ?_
      refine O_move rfl rfl rfl rfl rfl ?_
      refine O_cmp rfl rfl rfl rfl rfl rfl rfl ?_
      refine O_assign rfl rfl rfl rfl rfl ?_
      refine R_nil ?_
      refine tn ?_
      refine F_false rfl (decide_eq_false (by omega)) ?_
      refine F_seq ?_
      refine F_region (p := ⟨_, [0, 0, 0], []⟩) rfl [0, 1, 2] rfl ?_
      refine O_move rfl rfl rfl rfl rfl ?_
      refine O_cmp rfl rfl rfl rfl rfl rfl rfl ?_
      refine O_assign rfl rfl rfl rfl rfl ?_
      refine R_nil ?_
      refine tn ?_
      refine F_true rfl (decide_eq_true (by omega)) ?_
      refine F_seq ?_
      refine F_seq ?_
      refine F_drawnS hS (by kernel_rfl) (p := ⟨_, [0, 0, 0, 1, 0, 0, 1, 2, 0, 0, 0, 1, 0, 0, 1, 2, 0], [(7, 11), (7, 14)]⟩) rfl (.ofList [0, 1, 2, 3, 4, 5, 6, 7, 8, 9, 10, 11, 12, 13, 14, 15, 16]) (by kernel_rfl) ?_
      intro w hS
      refine O_move rfl rfl rfl rfl rfl ?_
      refine O_nilCheck rfl rfl rfl rfl rfl ?_
      refine O_fieldAddr rfl rfl rfl rfl rfl Tryd.runUnderlying149 rfl Tryd.sizeOf136 ?_
      refine O_loadS hS rfl rfl rfl rfl rfl Tryd.isAgg136 (by repeat (first | exact .here rfl | apply CellAt.there)) (by trivial) ?_
      refine O_nilCheck rfl rfl rfl rfl rfl ?_
      refine O_fieldAddr rfl rfl rfl rfl rfl Tryd.runUnderlying149 rfl Tryd.sizeOf136 ?_
      refine O_loadS hS rfl rfl rfl rfl rfl Tryd.isAgg136 (by repeat (first | exact .here rfl | apply CellAt.there)) (by trivial) ?_
      have hQ : Sat w0 (tree E_si p2 c2 * (blks [(b, .cells #[E_si.k k, E_si.v v, .pointer pl, .pointer (some ⟨bc, 0, none⟩), x4, x5] 149 (0, 0)), (bc, .cells #[E_si.k k', E_si.v v', .pointer p1, .pointer p2, .int .i64 (1 + max c1.h c2.h), .int .i64 (1 + c1.m + c2.m)] 149 (0, 0))] * (tree E_si p1 c1 * (tree E_si pl l * R)))) w := hS.to (by simp only [blks]; ac_rfl)
      have hS_7 := hS
      refine O_call rfl rfl rfl rfl Tryd.call97 rfl ((ht_si _ _ _ hQ).1) (fun _ _ hv => trivial) ?_
      rintro _ w ⟨rfl, hS⟩
      replace hS : Sat w0 (blks [(b, .cells #[E_si.k k, E_si.v v, .pointer pl, .pointer (some ⟨bc, 0, none⟩), x4, x5] 149 (0, 0)), (bc, .cells #[E_si.k k', E_si.v v', .pointer p1, .pointer p2, .int .i64 (1 + max c1.h c2.h), .int .i64 (1 + c1.m + c2.m)] 149 (0, 0))] * (tree E_si p1 c1 * (tree E_si p2 c2 * (tree E_si pl l * R)))) w := hS.to (by simp only [blks]; ac_rfl)
      refine O_move rfl rfl rfl rfl rfl ?_
      refine O_nilCheck rfl rfl rfl rfl rfl ?_
      refine O_fieldAddr rfl rfl rfl rfl rfl Tryd.runUnderlying149 rfl Tryd.sizeOf136 ?_
      refine O_loadS hS rfl rfl rfl rfl rfl Tryd.isAgg136 (by repeat (first | exact .here rfl | apply CellAt.there)) (by exact ⟨CellAt.cell (by repeat (first | exact .here rfl | apply CellAt.there)) hS_7, trivial⟩) ?_
      refine O_nilCheck rfl rfl rfl rfl rfl ?_
      refine O_fieldAddr rfl rfl rfl rfl rfl Tryd.runUnderlying149 rfl Tryd.sizeOf136 ?_
      refine O_loadS hS rfl rfl rfl rfl rfl Tryd.isAgg136 (by repeat (first | exact .here rfl | apply CellAt.there)) (by exact ⟨CellAt.cell (by repeat (first | exact .here rfl | apply CellAt.there)) hS_7, trivial⟩) ?_
      have hQ : Sat w0 (tree E_si p1 c1 * (blks [(b, .cells #[E_si.k k, E_si.v v, .pointer pl, .pointer (some ⟨bc, 0, none⟩), x4, x5] 149 (0, 0)), (bc, .cells #[E_si.k k', E_si.v v', .pointer p1, .pointer p2, .int .i64 (1 + max c1.h c2.h), .int .i64 (1 + c1.m + c2.m)] 149 (0, 0))] * (tree E_si p2 c2 * (tree E_si pl l * R)))) w := hS.to (by simp only [blks]; ac_rfl)
      refine O_call rfl rfl rfl rfl Tryd.call97 rfl ((ht_si _ _ _ hQ).1) (fun _ _ hv => ⟨trivial, ⟨trivial, trivial⟩⟩) ?_
      rintro _ w ⟨rfl, hS⟩
      replace hS : Sat w0 (blks [(b, .cells #[E_si.k k, E_si.v v, .pointer pl, .pointer (some ⟨bc, 0, none⟩), x4, x5] 149 (0, 0)), (bc, .cells #[E_si.k k', E_si.v v', .pointer p1, .pointer p2, .int .i64 (1 + max c1.h c2.h), .int .i64 (1 + c1.m + c2.m)] 149 (0, 0))] * (tree E_si p1 c1 * (tree E_si p2 c2 * (tree E_si pl l * R)))) w := hS.to (by simp only [blks]; ac_rfl)
      refine O_cmp rfl rfl rfl rfl rfl rfl rfl ?_
      refine R_nil ?_
      refine tn ?_
      refine F_false rfl (decide_eq_false (by omega)) ?_
      refine F_skip ?_
      refine tn ?_
      refine F_seq ?_
      refine F_region (p := ⟨_, [0, 2, 0], []⟩) rfl [0, 1, 2] rfl ?_
      refine O_move rfl rfl rfl rfl rfl ?_
      have hQ : Sat w0 (blks [(bc, .cells #[E_si.k k', E_si.v v', .pointer p1, .pointer p2, .int .i64 (1 + max c1.h c2.h), .int .i64 (1 + c1.m + c2.m)] 149 (0, 0))] * (tree E_si p1 c1 * (tree E_si p2 c2 * ((blks [(b, .cells #[E_si.k k, E_si.v v, .pointer pl, .pointer (some ⟨bc, 0, none⟩), x4, x5] 149 (0, 0))] * tree E_si pl l) * R)))) w := hS.to (by simp only [blks]; ac_rfl)
      replace hQ := tree_node_mk rfl rfl hQ
      replace hQ : Sat w0 (blks [(b, .cells #[E_si.k k, E_si.v v, .pointer pl, .pointer (some ⟨bc, 0, none⟩), x4, x5] 149 (0, 0))] * (tree E_si pl l * (tree E_si (some ⟨bc, 0, none⟩) (.node c1 k' v' c2) * R))) w := hQ.to (by ac_rfl)
      refine O_call rfl rfl rfl rfl Tryd.call99 rfl (toLeft_si (by simp only [T.m] at *; omega) hQ) (fun _ _ hv => trivial) ?_
      rintro _ w ⟨pe, rfl, hS⟩
      refine O_assign rfl rfl rfl rfl rfl ?_
      refine R_nil ?_
      refine tn ?_
      refine F_ret ?_
      refine br ?_
      refine tr ?_
      show endF _ _ _ _ _ _
      refine end0 trivial rfl rfl rfl hS ?_
      intro w hS
      exact ⟨_, _, rfl, by simp [T.toList, List.append_assoc], hS⟩
  refine enterF (args := [_]) Tryd.func92 rfl Tryd.ntmps92 rfl rfl ?_
  refine F_seq ?_
  refine F_region (p := ⟨_, [0], []⟩) rfl [0] rfl ?_
  refine O_assign rfl rfl rfl rfl rfl ?_
  refine R_nil ?_
  refine tn ?_
  refine F_seq ?_
  refine F_seq ?_
  refine F_drawnS hS (by kernel_rfl) (p := ⟨_, [0, 0, 0, 1, 2, 0, 0, 0, 1, 2, 0, 0], [(4, 8)]⟩) rfl (.ofList [0, 1, 2, 3, 4, 5, 6, 7, 8, 9, 10, 11]) (by kernel_rfl) ?_
  intro w hS
  refine O_move rfl rfl rfl rfl rfl ?_
  refine O_nilCheck rfl rfl rfl rfl rfl ?_
  refine O_fieldAddr rfl rfl rfl rfl rfl Tryd.runUnderlying149 rfl Tryd.sizeOf136 ?_
  refine O_loadS hS rfl rfl rfl rfl rfl Tryd.isAgg136 (by repeat (first | exact .here rfl | apply CellAt.there)) (by trivial) ?_
  have hS_4 := hS
  refine O_call rfl rfl rfl rfl Tryd.call97 rfl ((ht_si _ _ _ hS.b2).1) (fun _ _ hv => trivial) ?_
  rintro _ w ⟨rfl, hS⟩
  replace hS := hS.b2
  refine O_move rfl rfl rfl rfl rfl ?_
  refine O_nilCheck rfl rfl rfl rfl rfl ?_
  refine O_fieldAddr rfl rfl rfl rfl rfl Tryd.runUnderlying149 rfl Tryd.sizeOf136 ?_
  refine O_loadS hS rfl rfl rfl rfl rfl Tryd.isAgg136 (by repeat (first | exact .here rfl | apply CellAt.there)) (by exact ⟨CellAt.cell (by repeat (first | exact .here rfl | apply CellAt.there)) hS_4, trivial⟩) ?_
  refine O_call rfl rfl rfl rfl Tryd.call97 rfl ((ht_si _ _ _ hS.b3).1) (fun _ _ hv => ⟨trivial, trivial⟩) ?_
  rintro _ w ⟨rfl, hS⟩
  replace hS := hS.f3
  refine O_subN rfl rfl rfl rfl rfl rfl (by first | omega | (dsimp only; omega)) ?_
  refine O_assign rfl rfl rfl rfl rfl ?_
  refine R_nil ?_
  refine tn ?_
  refine F_block ?_
  refine F_seq ?_
  refine F_region (p := ⟨_, [0, 0, 0], []⟩) rfl [0, 1, 2] rfl ?_
  refine O_move rfl rfl rfl rfl rfl ?_
  refine O_cmp rfl rfl rfl rfl rfl rfl rfl ?_
  refine O_assign rfl rfl rfl rfl rfl ?_
  refine R_nil ?_
  refine tn ?_
  refine F_false rfl (decide_eq_false (by omega)) ?_
  refine F_seq ?_
  refine F_region (p := ⟨_, [0, 0, 0], []⟩) rfl [0, 1, 2] rfl ?_
  refine O_move rfl rfl rfl rfl rfl ?_
  refine O_cmp rfl rfl rfl rfl rfl rfl rfl ?_
  refine O_assign rfl rfl rfl rfl rfl ?_
  refine R_nil ?_
  refine tn ?_
  refine F_false rfl (decide_eq_false (by omega)) ?_
  refine F_skip ?_
  refine bn ?_
  refine tn ?_
  refine F_seq ?_
  refine F_region (p := ⟨_, [0, 2, 0], []⟩) rfl [0, 1, 2] rfl ?_
  refine O_move rfl rfl rfl rfl rfl ?_
  refine O_call rfl rfl rfl rfl Tryd.call91 rfl (count_si ht_si ht_si (by omega) hS) (fun _ _ hv => trivial) ?_
  rintro _ w ⟨rfl, hS⟩
  refine O_assign rfl rfl rfl rfl rfl ?_
  refine R_nil ?_
  refine tn ?_
  refine F_ret ?_
  show endF _ _ _ _ _ _
  refine end0 trivial rfl rfl rfl hS ?_
  intro w hS
  exact ⟨_, .node l k v r, rfl, rfl, tree_node_mk rfl rfl hS⟩
theorem put_si {rb : Nat} {x1 : Value} {k : ByteArray} {v : Int} (t : T ByteArray Int) : ∀ {w0 w : World} {R : HProp} {p : Option Addr} (hs : Srt O_si t.toList) (hm : t.m ≤ 4611686018427370000)
    (hS : Sat w0 (blks [(rb, .cells #[E_si.cv, x1] 138 (0, 0))] * (tree E_si p t * R)) w),
    Calls Tryd.prog 82 #[.pointer (some ⟨rb, 0, none⟩), .pointer p, E_si.k k, E_si.v v] w (ret fun u w' => ∃ p' t', u = .tuple #[.pointer p', .bool (get O_si k t.toList).isSome] ∧ t'.toList = ins O_si k v t.toList ∧ Sat w0 (blks [(rb, .cells #[E_si.cv, x1] 138 (0, 0))] * (tree E_si p' t' * R)) w') := by
  induction t with
  | leaf =>
    intro w0 w R p hs hm hS
    obtain ⟨rfl, hN⟩ := tree_leaf hS.b2
    clear hS
    have hS := hN
    refine enterF (args := [_, _, _, _]) Tryd.func82 rfl Tryd.ntmps82 rfl rfl ?_
    refine F_seq ?_
    refine F_region (p := ⟨_, [0, 0], []⟩) rfl [0, 1] rfl ?_
    refine O_assign rfl rfl rfl rfl rfl ?_
    refine O_assign rfl rfl rfl rfl rfl ?_
    refine R_nil ?_
    refine tn ?_
    refine F_seq ?_
    refine F_seq ?_
    refine F_region (p := ⟨_, [0, 0], []⟩) rfl [0, 1] rfl ?_
    refine O_move rfl rfl rfl rfl rfl ?_
    refine O_eqNil rfl rfl rfl rfl rfl rfl Tryd.runUnderlying136 ?_
    refine R_nil ?_
    refine tn ?_
    refine F_true rfl rfl ?_
    refine F_seq ?_
    refine F_region (p := ⟨_, [0, 0, 0, 2, 0], []⟩) rfl [0, 1, 2, 3, 4] rfl ?_
    refine O_move rfl rfl rfl rfl rfl ?_
    refine O_move rfl rfl rfl rfl rfl ?_
    refine O_build rfl rfl rfl rfl rfl (run_buildS [_, _, _, _, _, _] Tryd.zeroValue149 Tryd.runUnderlying149 (fun _ => 1) ⟨Tryd.sizeOf9, Tryd.sizeOf3, Tryd.sizeOf136, Tryd.sizeOf136, Tryd.sizeOf3, Tryd.sizeOf3, trivial⟩ rfl) ?_
    refine O_boxS hS rfl rfl rfl rfl rfl (fun _ _ hv => trivial) ?_
    intro b1 w hS
    refine O_assign rfl rfl rfl rfl rfl ?_
    refine R_nil ?_
    refine tn ?_
    refine F_seq ?_
    refine F_region (p := ⟨_, [0, 2, 0, 0], []⟩) rfl [0, 1, 2, 3] rfl ?_
    refine O_move rfl rfl rfl rfl rfl ?_
    replace hS : Sat w0 (blks [(b1, .cells #[E_si.k k, E_si.v v, .pointer none, .pointer none, .int .i64 0, .int .i64 0] 149 (0, 0)), (rb, .cells #[E_si.cv, x1] 138 (0, 0))] * R) w := hS
    replace hS : Sat w0 (blks [(b1, .cells #[E_si.k k, E_si.v v, .pointer none, .pointer none, .int .i64 0, .int .i64 0] 149 (0, 0))] * (blks [(rb, .cells #[E_si.cv, x1] 138 (0, 0))] * R)) w := hS.to (by simp only [blks]; ac_rfl)
    have hQ := (tree_leaf_mk (E := E_si) (tree_leaf_mk (E := E_si) hS.b2)).f3
    replace hQ : Sat w0 (blks [(b1, .cells #[E_si.k k, E_si.v v, .pointer none, .pointer none, .int .i64 0, .int .i64 0] 149 (0, 0))] * (tree E_si none .leaf * (tree E_si none .leaf * (blks [(rb, .cells #[E_si.cv, x1] 138 (0, 0))] * R)))) w := hQ.to (by ac_rfl)
    refine O_call rfl rfl rfl rfl Tryd.call91 rfl (count_si ht_si ht_si (by simp [T.h, T.m]) hQ) (fun _ _ hv => trivial) ?_
    rintro _ w ⟨rfl, hS⟩
    refine O_assign rfl rfl rfl rfl rfl ?_
    refine O_assign rfl rfl rfl rfl rfl ?_
    refine R_nil ?_
    refine tn ?_
    refine F_ret ?_
    refine tr ?_
    show endF _ _ _ _ _ _
    refine end0 trivial rfl rfl rfl hS ?_
    intro w hS
    exact ⟨_, .node .leaf k v .leaf, rfl, rfl, (tree_node_mk rfl rfl hS).b2⟩
  | node l k0 v0 r ihl ihr =>
    intro w0 w R p hs hm hS
    obtain ⟨b, pl, pr, rfl, hN⟩ := tree_node hS.b2
    clear hS
    have d1 := l.bd
    have d2 := r.bd
    simp only [T.m] at hm
    simp only [T.toList] at hs ⊢
    obtain ⟨s1, s2, s3, s4⟩ := srt_left hs
    have hS : Sat w0 (blks [(rb, .cells #[E_si.cv, x1] 138 (0, 0)), (b, .cells #[E_si.k k0, E_si.v v0, .pointer pl, .pointer pr, .int .i64 (1 + max l.h r.h), .int .i64 (1 + l.m + r.m)] 149 (0, 0))] * (tree E_si pl l * (tree E_si pr r * R))) w := hN.to (by simp only [blks]; ac_rfl)
    clear hN
    cases e1 : O_si.lt k k0 with
    | true =>
      have hc : cmpv O_si k k0 = -1 := by simp [cmpv, e1]
      refine enterF (args := [_, _, _, _]) Tryd.func82 rfl Tryd.ntmps82 rfl rfl ?_
      refine F_seq ?_
      refine F_region (p := ⟨_, [0, 0], []⟩) rfl [0, 1] rfl ?_
      refine O_assign rfl rfl rfl rfl rfl ?_
      refine O_assign rfl rfl rfl rfl rfl ?_
      refine R_nil ?_
      refine tn ?_
      refine F_seq ?_
      refine F_seq ?_
      refine F_region (p := ⟨_, [0, 0], []⟩) rfl [0, 1] rfl ?_
      refine O_move rfl rfl rfl rfl rfl ?_
      refine O_eqNil rfl rfl rfl rfl rfl rfl Tryd.runUnderlying136 ?_
      refine R_nil ?_
      refine tn ?_
      refine F_false rfl rfl ?_
      refine F_skip ?_
      refine tn ?_
      refine F_seq ?_
      refine F_region (p := ⟨_, [0], []⟩) rfl [0] rfl ?_
      refine O_assign rfl rfl rfl rfl rfl ?_
      refine R_nil ?_
      refine tn ?_
      refine F_seq ?_
      refine F_seq ?_
      refine F_drawnS hS (by kernel_rfl) (p := ⟨_, [0, 0, 0, 1, 0, 0, 0, 0, 1, 2, 0], []⟩) rfl (.ofList [0, 1, 2, 3, 4, 5, 6, 7, 8, 9, 10]) (by kernel_rfl) ?_
      intro w hS
      refine O_move rfl rfl rfl rfl rfl ?_
      refine O_nilCheck rfl rfl rfl rfl rfl ?_
      refine O_fieldAddr rfl rfl rfl rfl rfl Tryd.runUnderlying138 rfl Tryd.sizeOf112 ?_
      refine O_loadS hS rfl rfl rfl rfl rfl Tryd.isAgg112 (by repeat (first | exact .here rfl | apply CellAt.there)) (by trivial) ?_
      refine O_move rfl rfl rfl rfl rfl ?_
      refine O_move rfl rfl rfl rfl rfl ?_
      refine O_nilCheck rfl rfl rfl rfl rfl ?_
      refine O_fieldAddr rfl rfl rfl rfl rfl Tryd.runUnderlying149 rfl Tryd.sizeOf9 ?_
      refine O_loadS hS rfl rfl rfl rfl rfl Tryd.isAgg9 (by repeat (first | exact .here rfl | apply CellAt.there)) (by trivial) ?_
      refine O_callv rfl rfl rfl rfl rfl rfl (cmp_si k k0 hS) (fun _ _ hv => trivial) ?_
      rintro _ w ⟨rfl, hS⟩
      refine O_assign rfl rfl rfl rfl rfl ?_
      refine R_nil ?_
      refine tn ?_
      refine F_block ?_
      refine F_seq ?_
      refine F_region (p := ⟨_, [0, 0, 0], []⟩) rfl [0, 1, 2] rfl ?_
      refine O_move rfl rfl rfl rfl rfl ?_
      refine O_cmp rfl rfl rfl rfl rfl rfl rfl ?_
      refine O_assign rfl rfl rfl rfl rfl ?_
      refine R_nil ?_
      refine tn ?_
      refine F_true rfl (decide_eq_true (by omega)) ?_
      refine F_region (p := ⟨_, [0, 0, 0, 0, 0, 1, 0, 0, 2, 0, 0, 0, 0, 0, 2, 0], []⟩) rfl [0, 1, 2, 3, 4, 5, 6, 7, 8, 9, 10, 11, 12, 13, 14, 15] rfl ?_
      refine O_move rfl rfl rfl rfl rfl ?_
      refine O_move rfl rfl rfl rfl rfl ?_
      refine O_move rfl rfl rfl rfl rfl ?_
      refine O_nilCheck rfl rfl rfl rfl rfl ?_
      refine O_fieldAddr rfl rfl rfl rfl rfl Tryd.runUnderlying149 rfl Tryd.sizeOf136 ?_
      refine O_loadS hS rfl rfl rfl rfl rfl Tryd.isAgg136 (by repeat (first | exact .here rfl | apply CellAt.there)) (by trivial) ?_
      refine O_move rfl rfl rfl rfl rfl ?_
      refine O_move rfl rfl rfl rfl rfl ?_
      have hQ : Sat w0 (blks [(rb, .cells #[E_si.cv, x1] 138 (0, 0))] * (tree E_si pl l * (blks [(b, .cells #[E_si.k k0, E_si.v v0, .pointer pl, .pointer pr, .int .i64 (1 + max l.h r.h), .int .i64 (1 + l.m + r.m)] 149 (0, 0))] * (tree E_si pr r * R)))) w := hS.to (by simp only [blks]; ac_rfl)
      refine O_call rfl rfl rfl rfl Tryd.call82 rfl (ihl s1 (by omega) hQ) (fun _ _ hv => trivial) ?_
      rintro _ w ⟨p', t', rfl, ht', hS⟩
      have hm' : t'.m ≤ l.m + 1 := by rw [T.m_len, T.m_len, ht', ins_len]; split <;> omega
      replace hS : Sat w0 (blks [(b, .cells #[E_si.k k0, E_si.v v0, .pointer pl, .pointer pr, .int .i64 (1 + max l.h r.h), .int .i64 (1 + l.m + r.m)] 149 (0, 0))] * (tree E_si p' t' * (tree E_si pr r * (blks [(rb, .cells #[E_si.cv, x1] 138 (0, 0))] * R)))) w := hS.to (by simp only [blks]; ac_rfl)
      refine O_move rfl rfl rfl rfl rfl ?_
      refine O_extract rfl rfl rfl rfl rfl rfl ?_
      refine O_extract rfl rfl rfl rfl rfl rfl ?_
      refine O_nilCheck rfl rfl rfl rfl rfl ?_
      refine O_fieldAddr rfl rfl rfl rfl rfl Tryd.runUnderlying149 rfl Tryd.sizeOf136 ?_
      refine O_storeS hS rfl rfl rfl rfl rfl rfl rfl Tryd.sizeOf136 (by repeat (first | exact .here rfl rfl | apply SetAt.there)) (fun w' hv => trivial) ?_
      intro w hS
      refine O_assign rfl rfl rfl rfl rfl ?_
      refine R_nil ?_
      refine bn ?_
      refine tn ?_
      refine F_seq ?_
      refine F_region (p := ⟨_, [0, 2, 0, 0, 0], []⟩) rfl [0, 1, 2, 3, 4] rfl ?_
      refine O_move rfl rfl rfl rfl rfl ?_
      replace hS : Sat w0 (blks [(b, .cells #[E_si.k k0, E_si.v v0, .pointer p', .pointer pr, .int .i64 (1 + max l.h r.h), .int .i64 (1 + l.m + r.m)] 149 (0, 0))] * (tree E_si p' t' * (tree E_si pr r * (blks [(rb, .cells #[E_si.cv, x1] 138 (0, 0))] * R)))) w := hS
      refine O_call rfl rfl rfl rfl Tryd.call92 rfl (even_si (by omega) hS) (fun _ _ hv => trivial) ?_
      rintro _ w ⟨p'', t'', rfl, ht'', hS⟩
      refine O_move rfl rfl rfl rfl rfl ?_
      refine O_assign rfl rfl rfl rfl rfl ?_
      refine O_assign rfl rfl rfl rfl rfl ?_
      refine R_nil ?_
      refine tn ?_
      refine F_ret ?_
      show endF _ _ _ _ _ _
      refine end0 trivial rfl rfl rfl hS ?_
      intro w hS
      refine ⟨p'', t'', ?_, ?_, hS.b2⟩
      · rw [get_lt e1]; rfl
      · rw [ht'', ht', ins_lt e1]
    | false =>
      cases e2 : O_si.lt k0 k with
      | true =>
        have hc : cmpv O_si k k0 = 1 := by simp [cmpv, e1, e2]
        refine enterF (args := [_, _, _, _]) Tryd.func82 rfl Tryd.ntmps82 rfl rfl ?_
        refine F_seq ?_
        refine F_region (p := ⟨_, [0, 0], []⟩) rfl [0, 1] rfl ?_
        refine O_assign rfl rfl rfl rfl rfl ?_
        refine O_assign rfl rfl rfl rfl rfl ?_
        refine R_nil ?_
        refine tn ?_
        refine F_seq ?_
        refine F_seq ?_
        refine F_region (p := ⟨_, [0, 0], []⟩) rfl [0, 1] rfl ?_
        refine O_move rfl rfl rfl rfl rfl ?_
        refine O_eqNil rfl rfl rfl rfl rfl rfl Tryd.runUnderlying136 ?_
        refine R_nil ?_
        refine tn ?_
        refine F_false rfl rfl ?_
        refine F_skip ?_
        refine tn ?_
        refine F_seq ?_
        refine F_region (p := ⟨_, [0], []⟩) rfl [0] rfl ?_
        refine O_assign rfl rfl rfl rfl rfl ?_
        refine R_nil ?_
        refine tn ?_
        refine F_seq ?_
        refine F_seq ?_
        refine F_drawnS hS (by kernel_rfl) (p := ⟨_, [0, 0, 0, 1, 0, 0, 0, 0, 1, 2, 0], []⟩) rfl (.ofList [0, 1, 2, 3, 4, 5, 6, 7, 8, 9, 10]) (by kernel_rfl) ?_
        intro w hS
        refine O_move rfl rfl rfl rfl rfl ?_
        refine O_nilCheck rfl rfl rfl rfl rfl ?_
        refine O_fieldAddr rfl rfl rfl rfl rfl Tryd.runUnderlying138 rfl Tryd.sizeOf112 ?_
        refine O_loadS hS rfl rfl rfl rfl rfl Tryd.isAgg112 (by repeat (first | exact .here rfl | apply CellAt.there)) (by trivial) ?_
        refine O_move rfl rfl rfl rfl rfl ?_
        refine O_move rfl rfl rfl rfl rfl ?_
        refine O_nilCheck rfl rfl rfl rfl rfl ?_
        refine O_fieldAddr rfl rfl rfl rfl rfl Tryd.runUnderlying149 rfl Tryd.sizeOf9 ?_
        refine O_loadS hS rfl rfl rfl rfl rfl Tryd.isAgg9 (by repeat (first | exact .here rfl | apply CellAt.there)) (by trivial) ?_
        refine O_callv rfl rfl rfl rfl rfl rfl (cmp_si k k0 hS) (fun _ _ hv => trivial) ?_
        rintro _ w ⟨rfl, hS⟩
        refine O_assign rfl rfl rfl rfl rfl ?_
        refine R_nil ?_
        refine tn ?_
        refine F_block ?_
        refine F_seq ?_
        refine F_region (p := ⟨_, [0, 0, 0], []⟩) rfl [0, 1, 2] rfl ?_
        refine O_move rfl rfl rfl rfl rfl ?_
        refine O_cmp rfl rfl rfl rfl rfl rfl rfl ?_
        refine O_assign rfl rfl rfl rfl rfl ?_
        refine R_nil ?_
        refine tn ?_
        refine F_false rfl (decide_eq_false (by omega)) ?_
        refine F_seq ?_
        refine F_region (p := ⟨_, [0, 0, 0], []⟩) rfl [0, 1, 2] rfl ?_
        refine O_move rfl rfl rfl rfl rfl ?_
        refine O_cmp rfl rfl rfl rfl rfl rfl rfl ?_
        refine O_assign rfl rfl rfl rfl rfl ?_
        refine R_nil ?_
        refine tn ?_
        refine F_true rfl (decide_eq_true (by omega)) ?_
        refine F_region (p := ⟨_, [0, 0, 0, 0, 0, 1, 0, 0, 2, 0, 0, 0, 0, 0, 2, 0], []⟩) rfl [0, 1, 2, 3, 4, 5, 6, 7, 8, 9, 10, 11, 12, 13, 14, 15] rfl ?_
        refine O_move rfl rfl rfl rfl rfl ?_
        refine O_move rfl rfl rfl rfl rfl ?_
        refine O_move rfl rfl rfl rfl rfl ?_
        refine O_nilCheck rfl rfl rfl rfl rfl ?_
        refine O_fieldAddr rfl rfl rfl rfl rfl Tryd.runUnderlying149 rfl Tryd.sizeOf136 ?_
        refine O_loadS hS rfl rfl rfl rfl rfl Tryd.isAgg136 (by repeat (first | exact .here rfl | apply CellAt.there)) (by trivial) ?_
        refine O_move rfl rfl rfl rfl rfl ?_
        refine O_move rfl rfl rfl rfl rfl ?_
        have hQ : Sat w0 (blks [(rb, .cells #[E_si.cv, x1] 138 (0, 0))] * (tree E_si pr r * (blks [(b, .cells #[E_si.k k0, E_si.v v0, .pointer pl, .pointer pr, .int .i64 (1 + max l.h r.h), .int .i64 (1 + l.m + r.m)] 149 (0, 0))] * (tree E_si pl l * R)))) w := hS.to (by simp only [blks]; ac_rfl)
        refine O_call rfl rfl rfl rfl Tryd.call82 rfl (ihr s2 (by omega) hQ) (fun _ _ hv => trivial) ?_
        rintro _ w ⟨p', t', rfl, ht', hS⟩
        have hm' : t'.m ≤ r.m + 1 := by rw [T.m_len, T.m_len, ht', ins_len]; split <;> omega
        replace hS : Sat w0 (blks [(b, .cells #[E_si.k k0, E_si.v v0, .pointer pl, .pointer pr, .int .i64 (1 + max l.h r.h), .int .i64 (1 + l.m + r.m)] 149 (0, 0))] * (tree E_si pl l * (tree E_si p' t' * (blks [(rb, .cells #[E_si.cv, x1] 138 (0, 0))] * R)))) w := hS.to (by simp only [blks]; ac_rfl)
        refine O_move rfl rfl rfl rfl rfl ?_
        refine O_extract rfl rfl rfl rfl rfl rfl ?_
        refine O_extract rfl rfl rfl rfl rfl rfl ?_
        refine O_nilCheck rfl rfl rfl rfl rfl ?_
        refine O_fieldAddr rfl rfl rfl rfl rfl Tryd.runUnderlying149 rfl Tryd.sizeOf136 ?_
        refine O_storeS hS rfl rfl rfl rfl rfl rfl rfl Tryd.sizeOf136 (by repeat (first | exact .here rfl rfl | apply SetAt.there)) (fun w' hv => trivial) ?_
        intro w hS
        refine O_assign rfl rfl rfl rfl rfl ?_
        refine R_nil ?_
        refine bn ?_
        refine tn ?_
        refine F_seq ?_
        refine F_region (p := ⟨_, [0, 2, 0, 0, 0], []⟩) rfl [0, 1, 2, 3, 4] rfl ?_
        refine O_move rfl rfl rfl rfl rfl ?_
        replace hS : Sat w0 (blks [(b, .cells #[E_si.k k0, E_si.v v0, .pointer pl, .pointer p', .int .i64 (1 + max l.h r.h), .int .i64 (1 + l.m + r.m)] 149 (0, 0))] * (tree E_si pl l * (tree E_si p' t' * (blks [(rb, .cells #[E_si.cv, x1] 138 (0, 0))] * R)))) w := hS
        refine O_call rfl rfl rfl rfl Tryd.call92 rfl (even_si (by omega) hS) (fun _ _ hv => trivial) ?_
        rintro _ w ⟨p'', t'', rfl, ht'', hS⟩
        refine O_move rfl rfl rfl rfl rfl ?_
        refine O_assign rfl rfl rfl rfl rfl ?_
        refine O_assign rfl rfl rfl rfl rfl ?_
        refine R_nil ?_
        refine tn ?_
        refine F_ret ?_
        show endF _ _ _ _ _ _
        refine end0 trivial rfl rfl rfl hS ?_
        intro w hS
        refine ⟨p'', t'', ?_, ?_, hS.b2⟩
        · rw [get_gt_ e2 s3]; rfl
        · rw [ht'', ht', ins_gt_ e2 s3]
      | false =>
        have hc : cmpv O_si k k0 = 0 := by simp [cmpv, e1, e2]
        refine enterF (args := [_, _, _, _]) Tryd.func82 rfl Tryd.ntmps82 rfl rfl ?_
        refine F_seq ?_
        refine F_region (p := ⟨_, [0, 0], []⟩) rfl [0, 1] rfl ?_
        refine O_assign rfl rfl rfl rfl rfl ?_
        refine O_assign rfl rfl rfl rfl rfl ?_
        refine R_nil ?_
        refine tn ?_
        refine F_seq ?_
        refine F_seq ?_
        refine F_region (p := ⟨_, [0, 0], []⟩) rfl [0, 1] rfl ?_
        refine O_move rfl rfl rfl rfl rfl ?_
        refine O_eqNil rfl rfl rfl rfl rfl rfl Tryd.runUnderlying136 ?_
        refine R_nil ?_
        refine tn ?_
        refine F_false rfl rfl ?_
        refine F_skip ?_
        refine tn ?_
        refine F_seq ?_
        refine F_region (p := ⟨_, [0], []⟩) rfl [0] rfl ?_
        refine O_assign rfl rfl rfl rfl rfl ?_
        refine R_nil ?_
        refine tn ?_
        refine F_seq ?_
        refine F_seq ?_
        refine F_drawnS hS (by kernel_rfl) (p := ⟨_, [0, 0, 0, 1, 0, 0, 0, 0, 1, 2, 0], []⟩) rfl (.ofList [0, 1, 2, 3, 4, 5, 6, 7, 8, 9, 10]) (by kernel_rfl) ?_
        intro w hS
        refine O_move rfl rfl rfl rfl rfl ?_
        refine O_nilCheck rfl rfl rfl rfl rfl ?_
        refine O_fieldAddr rfl rfl rfl rfl rfl Tryd.runUnderlying138 rfl Tryd.sizeOf112 ?_
        refine O_loadS hS rfl rfl rfl rfl rfl Tryd.isAgg112 (by repeat (first | exact .here rfl | apply CellAt.there)) (by trivial) ?_
        refine O_move rfl rfl rfl rfl rfl ?_
        refine O_move rfl rfl rfl rfl rfl ?_
        refine O_nilCheck rfl rfl rfl rfl rfl ?_
        refine O_fieldAddr rfl rfl rfl rfl rfl Tryd.runUnderlying149 rfl Tryd.sizeOf9 ?_
        refine O_loadS hS rfl rfl rfl rfl rfl Tryd.isAgg9 (by repeat (first | exact .here rfl | apply CellAt.there)) (by trivial) ?_
        refine O_callv rfl rfl rfl rfl rfl rfl (cmp_si k k0 hS) (fun _ _ hv => trivial) ?_
        rintro _ w ⟨rfl, hS⟩
        refine O_assign rfl rfl rfl rfl rfl ?_
        refine R_nil ?_
        refine tn ?_
        refine F_block ?_
        refine F_seq ?_
        refine F_region (p := ⟨_, [0, 0, 0], []⟩) rfl [0, 1, 2] rfl ?_
        refine O_move rfl rfl rfl rfl rfl ?_
        refine O_cmp rfl rfl rfl rfl rfl rfl rfl ?_
        refine O_assign rfl rfl rfl rfl rfl ?_
        refine R_nil ?_
        refine tn ?_
        refine F_false rfl (decide_eq_false (by omega)) ?_
        refine F_seq ?_
        refine F_region (p := ⟨_, [0, 0, 0], []⟩) rfl [0, 1, 2] rfl ?_
        refine O_move rfl rfl rfl rfl rfl ?_
        refine O_cmp rfl rfl rfl rfl rfl rfl rfl ?_
        refine O_assign rfl rfl rfl rfl rfl ?_
        refine R_nil ?_
        refine tn ?_
        refine F_false rfl (decide_eq_false (by omega)) ?_
        refine F_region (p := ⟨_, [0, 0, 0, 0, 2], []⟩) rfl [0, 1, 2, 3, 4] rfl ?_
        refine O_move rfl rfl rfl rfl rfl ?_
        refine O_move rfl rfl rfl rfl rfl ?_
        refine O_nilCheck rfl rfl rfl rfl rfl ?_
        refine O_fieldAddr rfl rfl rfl rfl rfl Tryd.runUnderlying149 rfl Tryd.sizeOf3 ?_
        refine O_storeS hS rfl rfl rfl rfl rfl rfl rfl Tryd.sizeOf3 (by repeat (first | exact .here rfl rfl | apply SetAt.there)) (fun w' hv => trivial) ?_
        intro w hS
        refine R_nil ?_
        refine bn ?_
        refine tn ?_
        refine F_seq ?_
        refine F_region (p := ⟨_, [0, 2, 0, 0, 0], []⟩) rfl [0, 1, 2, 3, 4] rfl ?_
        refine O_move rfl rfl rfl rfl rfl ?_
        replace hS : Sat w0 (blks [(rb, .cells #[E_si.cv, x1] 138 (0, 0)), (b, .cells #[E_si.k k0, E_si.v v, .pointer pl, .pointer pr, .int .i64 (1 + max l.h r.h), .int .i64 (1 + l.m + r.m)] 149 (0, 0))] * (tree E_si pl l * (tree E_si pr r * R))) w := hS
        replace hS : Sat w0 (blks [(b, .cells #[E_si.k k0, E_si.v v, .pointer pl, .pointer pr, .int .i64 (1 + max l.h r.h), .int .i64 (1 + l.m + r.m)] 149 (0, 0))] * (tree E_si pl l * (tree E_si pr r * (blks [(rb, .cells #[E_si.cv, x1] 138 (0, 0))] * R)))) w := hS.to (by simp only [blks]; ac_rfl)
        refine O_call rfl rfl rfl rfl Tryd.call92 rfl (even_si (by omega) hS) (fun _ _ hv => trivial) ?_
        rintro _ w ⟨p'', t'', rfl, ht'', hS⟩
        refine O_move rfl rfl rfl rfl rfl ?_
        refine O_assign rfl rfl rfl rfl rfl ?_
        refine O_assign rfl rfl rfl rfl rfl ?_
        refine R_nil ?_
        refine tn ?_
        refine F_ret ?_
        show endF _ _ _ _ _ _
        refine end0 trivial rfl rfl rfl hS ?_
        intro w hS
        refine ⟨p'', t'', ?_, ?_, hS.b2⟩
        · rw [get_eq e1 e2 s3]; rfl
        · rw [ht'', ins_eq e1 e2 s3]
theorem New_si {w0 w : World} {R : HProp} (hS : Sat w0 R w) : Calls Tryd.prog 52 #[E_si.cv] w (ret fun u w' => ∃ rb, u = .pointer (some ⟨rb, 0, none⟩) ∧ Sat w0 (rackP E_si O_si rb [] * R) w') := by
  replace hS := hS.noblks
  refine enterF (args := [_]) Tryd.func52 rfl Tryd.ntmps52 rfl rfl ?_
  refine F_seq ?_
  refine F_region (p := ⟨_, [0], []⟩) rfl [0] rfl ?_
  refine O_assign rfl rfl rfl rfl rfl ?_
  refine R_nil ?_
  refine tn ?_
  refine F_seq ?_
  refine F_region (p := ⟨_, [0, 0, 2, 0], []⟩) rfl [0, 1, 2, 3] rfl ?_
  refine O_move rfl rfl rfl rfl rfl ?_
  refine O_build rfl rfl rfl rfl rfl (run_buildS [_, _] Tryd.zeroValue138 Tryd.runUnderlying138 (fun _ => 1) ⟨Tryd.sizeOf112, Tryd.sizeOf136, trivial⟩ rfl) ?_
  refine O_boxS hS rfl rfl rfl rfl rfl (fun _ _ hv => trivial) ?_
  intro b1 w hS
  refine O_assign rfl rfl rfl rfl rfl ?_
  refine R_nil ?_
  refine tn ?_
  refine F_ret ?_
  show endF _ _ _ _ _ _
  refine end0 trivial rfl rfl rfl hS ?_
  intro w hS
  exact ⟨_, rfl, rackP_mk (t := .leaf) rfl (by simp [Srt]) ((tree_leaf_mk (E := E_si) (hS.to (by simp only [blks]; ac_rfl))).b2)⟩
theorem Put_si {w0 w : World} {R : HProp} {rb : Nat} {xs : List (ByteArray × Int)} (k : ByteArray) (v : Int) (hm : (xs.length : Int) ≤ 4611686018427370000) (hS : Sat w0 (rackP E_si O_si rb xs * R) w) :
    Calls Tryd.prog 75 #[.pointer (some ⟨rb, 0, none⟩), E_si.k k, E_si.v v] w (ret fun u w' => u = .bool (get O_si k xs).isSome ∧ Sat w0 (rackP E_si O_si rb (ins O_si k v xs) * R) w') := by
  obtain ⟨root, t, rfl, hs, hS⟩ := rackP_open hS
  have hm' : t.m ≤ 4611686018427370000 := by rw [T.m_len]; exact hm
  refine enterF (args := [_, _, _]) Tryd.func75 rfl Tryd.ntmps75 rfl rfl ?_
  refine F_seq ?_
  refine F_region (p := ⟨_, [0], []⟩) rfl [0] rfl ?_
  refine O_assign rfl rfl rfl rfl rfl ?_
  refine R_nil ?_
  refine tn ?_
  refine F_seq ?_
  refine F_region (p := ⟨_, [0, 0, 0, 0, 1, 0, 0, 2, 0, 0, 0, 0, 0], []⟩) rfl [0, 1, 2, 3, 4, 5, 6, 7, 8, 9, 10, 11, 12] rfl ?_
  refine O_move rfl rfl rfl rfl rfl ?_
  refine O_move rfl rfl rfl rfl rfl ?_
  refine O_nilCheck rfl rfl rfl rfl rfl ?_
  refine O_fieldAddr rfl rfl rfl rfl rfl Tryd.runUnderlying138 rfl Tryd.sizeOf136 ?_
  refine O_loadS hS rfl rfl rfl rfl rfl Tryd.isAgg136 (by repeat (first | exact .here rfl | apply CellAt.there)) (by trivial) ?_
  refine O_move rfl rfl rfl rfl rfl ?_
  refine O_move rfl rfl rfl rfl rfl ?_
  refine O_call rfl rfl rfl rfl Tryd.call82 rfl (put_si t hs hm' hS) (fun _ _ hv => trivial) ?_
  rintro _ w ⟨p', t', rfl, ht', hS⟩
  refine O_move rfl rfl rfl rfl rfl ?_
  refine O_extract rfl rfl rfl rfl rfl rfl ?_
  refine O_extract rfl rfl rfl rfl rfl rfl ?_
  refine O_assign rfl rfl rfl rfl rfl ?_
  refine O_assign rfl rfl rfl rfl rfl ?_
  refine R_nil ?_
  refine tn ?_
  refine F_seq ?_
  refine F_region (p := ⟨_, [0, 0, 0, 0, 2], []⟩) rfl [0, 1, 2, 3, 4] rfl ?_
  refine O_move rfl rfl rfl rfl rfl ?_
  refine O_move rfl rfl rfl rfl rfl ?_
  refine O_nilCheck rfl rfl rfl rfl rfl ?_
  refine O_fieldAddr rfl rfl rfl rfl rfl Tryd.runUnderlying138 rfl Tryd.sizeOf136 ?_
  refine O_storeS hS rfl rfl rfl rfl rfl rfl rfl Tryd.sizeOf136 (by repeat (first | exact .here rfl rfl | apply SetAt.there)) (fun w' hv => trivial) ?_
  intro w hS
  refine R_nil ?_
  refine tn ?_
  refine F_seq ?_
  refine F_region (p := ⟨_, [0, 0], []⟩) rfl [0, 1] rfl ?_
  refine O_move rfl rfl rfl rfl rfl ?_
  refine O_assign rfl rfl rfl rfl rfl ?_
  refine R_nil ?_
  refine tn ?_
  refine F_ret ?_
  show endF _ _ _ _ _ _
  refine end0 trivial rfl rfl rfl hS ?_
  intro w hS
  exact ⟨rfl, rackP_mk ht' (ins_srt hs) hS⟩
theorem Get_si {w0 w : World} {R : HProp} {rb : Nat} {xs : List (ByteArray × Int)} (k : ByteArray) (hS : Sat w0 (rackP E_si O_si rb xs * R) w) :
    Calls Tryd.prog 64 #[.pointer (some ⟨rb, 0, none⟩), E_si.k k] w (ret fun u w' => u = getV E_si (.int .i64 0) (get O_si k xs) ∧ Sat w0 (rackP E_si O_si rb xs * R) w') := by
  obtain ⟨root, t0, rfl, hs, hS⟩ := rackP_open hS
  refine enterF (args := [_, _]) Tryd.func64 rfl Tryd.ntmps64 rfl rfl ?_
  refine F_seq ?_
  refine F_region (p := ⟨_, [0, 0], []⟩) rfl [0, 1] rfl ?_
  refine O_assign rfl rfl rfl rfl rfl ?_
  refine O_assign rfl rfl rfl rfl rfl ?_
  refine R_nil ?_
  refine tn ?_
  refine F_seq ?_
  refine F_seq ?_
  refine F_region (p := ⟨_, [0, 0, 0, 1, 0], []⟩) rfl [0, 1, 2, 3, 4] rfl ?_
  refine O_move rfl rfl rfl rfl rfl ?_
  refine O_nilCheck rfl rfl rfl rfl rfl ?_
  refine O_fieldAddr rfl rfl rfl rfl rfl Tryd.runUnderlying138 rfl Tryd.sizeOf136 ?_
  refine O_loadS hS rfl rfl rfl rfl rfl Tryd.isAgg136 (by repeat (first | exact .here rfl | apply CellAt.there)) (by trivial) ?_
  refine O_assign rfl rfl rfl rfl rfl ?_
  refine R_nil ?_
  refine tn ?_
  refine F_block ?_
  refine F_loop (α := Option Addr × T ByteArray Int) (fun x => [(0, .pointer (some ⟨rb, 0, none⟩)), (1, E_si.k k), (4, (.int .i64 0)), (5, .bool false), (6, .pointer x.1)]) (fun x w => get O_si k x.2.toList = get O_si k t0.toList ∧ Srt O_si x.2.toList ∧ ∃ C : HProp, Sat w0 (blks [(rb, .cells #[E_si.cv, .pointer root] 138 (0, 0))] * (tree E_si x.1 x.2 * (C * R))) w ∧ ∀ R' w', Sat w0 (tree E_si x.1 x.2 * (C * R')) w' → Sat w0 (tree E_si root t0 * R') w') (fun x => x.2.sz) (root, t0) ⟨rfl, rfl, rfl, rfl, rfl, trivial⟩ ⟨rfl, hs, hemp, hS.to (by ac_rfl), fun R' w' h' => h'.to (by ac_rfl)⟩ ?_
  clear hS
  rintro ⟨p, t⟩ w ⟨hg, hs', C, hS, hC⟩
  cases t with
  | leaf =>
    obtain ⟨rfl, hN⟩ := tree_leaf hS.b2
    clear hS
    have hS := hN
    refine F_seq ?_
    refine F_seq ?_
    refine F_region (p := ⟨_, [0, 0], []⟩) rfl [0, 1] rfl ?_
    refine O_move rfl rfl rfl rfl rfl ?_
    refine O_neNil rfl rfl rfl rfl rfl rfl Tryd.runUnderlying136 ?_
    refine R_nil ?_
    refine tn ?_
    refine F_false rfl rfl ?_
    refine F_exit ?_
    refine tx ?_
    refine tx ?_
    refine Go.Sl.bx rfl ?_
    refine tn ?_
    refine F_seq ?_
    refine F_region (p := ⟨_, [0], []⟩) rfl [0] rfl ?_
    refine O_assign rfl rfl rfl rfl rfl ?_
    refine R_nil ?_
    refine tn ?_
    refine F_seq ?_
    refine F_region (p := ⟨_, [0, 0, 0], []⟩) rfl [0, 1, 2] rfl ?_
    refine O_move rfl rfl rfl rfl rfl ?_
    refine O_assign rfl rfl rfl rfl rfl ?_
    refine O_assign rfl rfl rfl rfl rfl ?_
    refine R_nil ?_
    refine tn ?_
    refine F_ret ?_
    show endF _ _ _ _ _ _
    refine end0 trivial rfl rfl rfl hS ?_
    intro w hS
    refine ⟨by rw [← hg]; rfl, ?_⟩
    exact rackP_mk rfl hs ((hC _ _ ((tree_leaf_mk (E := E_si) (hS.to (A := _) (by ac_rfl)) : Sat w0 (tree E_si none .leaf * (C * (blks [(rb, .cells #[E_si.cv, .pointer root] 138 (0, 0))] * R))) w))).b2)
  | node l k0 v0 r =>
    obtain ⟨b, pl, pr, rfl, hN⟩ := tree_node hS.b2
    clear hS
    simp only [T.toList] at hg hs'
    obtain ⟨s1, s2, s3, s4⟩ := srt_left hs'
    have hS : Sat w0 (blks [(rb, .cells #[E_si.cv, .pointer root] 138 (0, 0)), (b, .cells #[E_si.k k0, E_si.v v0, .pointer pl, .pointer pr, .int .i64 (1 + max l.h r.h), .int .i64 (1 + l.m + r.m)] 149 (0, 0))] * (tree E_si pl l * (tree E_si pr r * (C * R)))) w := hN.to (by simp only [blks]; ac_rfl)
    clear hN
    cases e1 : O_si.lt k k0 with
    | true =>
      have hc : cmpv O_si k k0 = -1 := by simp [cmpv, e1]
      refine F_seq ?_
      refine F_seq ?_
      refine F_region (p := ⟨_, [0, 0], []⟩) rfl [0, 1] rfl ?_
      refine O_move rfl rfl rfl rfl rfl ?_
      refine O_neNil rfl rfl rfl rfl rfl rfl Tryd.runUnderlying136 ?_
      refine R_nil ?_
      refine tn ?_
      refine F_true rfl rfl ?_
      refine F_skip ?_
      refine tn ?_
      refine F_block ?_
      refine F_seq ?_
      refine F_drawnS hS (by kernel_rfl) (p := ⟨_, [0, 0, 0, 1, 0, 0, 0, 0, 1, 2, 0], []⟩) rfl (.ofList [0, 1, 2, 3, 4, 5, 6, 7, 8, 9, 10]) (by kernel_rfl) ?_
      intro w hS
      refine O_move rfl rfl rfl rfl rfl ?_
      refine O_nilCheck rfl rfl rfl rfl rfl ?_
      refine O_fieldAddr rfl rfl rfl rfl rfl Tryd.runUnderlying138 rfl Tryd.sizeOf112 ?_
      refine O_loadS hS rfl rfl rfl rfl rfl Tryd.isAgg112 (by repeat (first | exact .here rfl | apply CellAt.there)) (by trivial) ?_
      refine O_move rfl rfl rfl rfl rfl ?_
      refine O_move rfl rfl rfl rfl rfl ?_
      refine O_nilCheck rfl rfl rfl rfl rfl ?_
      refine O_fieldAddr rfl rfl rfl rfl rfl Tryd.runUnderlying149 rfl Tryd.sizeOf9 ?_
      refine O_loadS hS rfl rfl rfl rfl rfl Tryd.isAgg9 (by repeat (first | exact .here rfl | apply CellAt.there)) (by trivial) ?_
      refine O_callv rfl rfl rfl rfl rfl rfl (cmp_si k k0 hS) (fun _ _ hv => trivial) ?_
      rintro _ w ⟨rfl, hS⟩
      refine O_assign rfl rfl rfl rfl rfl ?_
      refine R_nil ?_
      refine tn ?_
      refine F_seq ?_
      refine F_seq ?_
      refine F_region (p := ⟨_, [0, 0], []⟩) rfl [0, 1] rfl ?_
      refine O_move rfl rfl rfl rfl rfl ?_
      refine O_cmp rfl rfl rfl rfl rfl rfl rfl ?_
      refine R_nil ?_
      refine tn ?_
      refine F_false rfl (decide_eq_false (by omega)) ?_
      refine F_skip ?_
      refine tn ?_
      refine F_seq ?_
      refine F_region (p := ⟨_, [0, 0], []⟩) rfl [0, 1] rfl ?_
      refine O_move rfl rfl rfl rfl rfl ?_
      refine O_cmp rfl rfl rfl rfl rfl rfl rfl ?_
      refine R_nil ?_
      refine tn ?_
      refine F_true rfl (decide_eq_true (by omega)) ?_
      refine F_region (p := ⟨_, [0, 0, 0, 1, 0], []⟩) rfl [0, 1, 2, 3, 4] rfl ?_
      refine O_move rfl rfl rfl rfl rfl ?_
      refine O_nilCheck rfl rfl rfl rfl rfl ?_
      refine O_fieldAddr rfl rfl rfl rfl rfl Tryd.runUnderlying149 rfl Tryd.sizeOf136 ?_
      refine O_loadS hS rfl rfl rfl rfl rfl Tryd.isAgg136 (by repeat (first | exact .here rfl | apply CellAt.there)) (by trivial) ?_
      refine O_assign rfl rfl rfl rfl rfl ?_
      refine R_nil ?_
      refine bn ?_
      refine tn ⟨rfl, rfl, (pl, l), ⟨rfl, rfl, rfl, rfl, rfl, trivial⟩, ⟨?_, s1, (blks [(b, .cells #[E_si.k k0, E_si.v v0, .pointer pl, .pointer pr, .int .i64 (1 + max l.h r.h), .int .i64 (1 + l.m + r.m)] 149 (0, 0))] * tree E_si pr r) * C, ?_, ?_⟩, ?_⟩
      · rw [← hg, get_lt e1]
      · exact hS.to (by simp only [blks]; ac_rfl)
      · intro R' w' h'; dsimp only at h'
        have h2 : Sat w0 (blks [(b, .cells #[E_si.k k0, E_si.v v0, .pointer pl, .pointer pr, .int .i64 (1 + max l.h r.h), .int .i64 (1 + l.m + r.m)] 149 (0, 0))] * (tree E_si pl l * (tree E_si pr r * (C * R')))) w' := h'.to (by ac_rfl)
        exact hC R' w' (tree_node_mk rfl rfl h2)
      · simp only [T.sz]; omega
    | false =>
      cases e2 : O_si.lt k0 k with
      | true =>
        have hc : cmpv O_si k k0 = 1 := by simp [cmpv, e1, e2]
        refine F_seq ?_
        refine F_seq ?_
        refine F_region (p := ⟨_, [0, 0], []⟩) rfl [0, 1] rfl ?_
        refine O_move rfl rfl rfl rfl rfl ?_
        refine O_neNil rfl rfl rfl rfl rfl rfl Tryd.runUnderlying136 ?_
        refine R_nil ?_
        refine tn ?_
        refine F_true rfl rfl ?_
        refine F_skip ?_
        refine tn ?_
        refine F_block ?_
        refine F_seq ?_
        refine F_drawnS hS (by kernel_rfl) (p := ⟨_, [0, 0, 0, 1, 0, 0, 0, 0, 1, 2, 0], []⟩) rfl (.ofList [0, 1, 2, 3, 4, 5, 6, 7, 8, 9, 10]) (by kernel_rfl) ?_
        intro w hS
        refine O_move rfl rfl rfl rfl rfl ?_
        refine O_nilCheck rfl rfl rfl rfl rfl ?_
        refine O_fieldAddr rfl rfl rfl rfl rfl Tryd.runUnderlying138 rfl Tryd.sizeOf112 ?_
        refine O_loadS hS rfl rfl rfl rfl rfl Tryd.isAgg112 (by repeat (first | exact .here rfl | apply CellAt.there)) (by trivial) ?_
        refine O_move rfl rfl rfl rfl rfl ?_
        refine O_move rfl rfl rfl rfl rfl ?_
        refine O_nilCheck rfl rfl rfl rfl rfl ?_
        refine O_fieldAddr rfl rfl rfl rfl rfl Tryd.runUnderlying149 rfl Tryd.sizeOf9 ?_
        refine O_loadS hS rfl rfl rfl rfl rfl Tryd.isAgg9 (by repeat (first | exact .here rfl | apply CellAt.there)) (by trivial) ?_
        refine O_callv rfl rfl rfl rfl rfl rfl (cmp_si k k0 hS) (fun _ _ hv => trivial) ?_
        rintro _ w ⟨rfl, hS⟩
        refine O_assign rfl rfl rfl rfl rfl ?_
        refine R_nil ?_
        refine tn ?_
        refine F_seq ?_
        refine F_seq ?_
        refine F_region (p := ⟨_, [0, 0], []⟩) rfl [0, 1] rfl ?_
        refine O_move rfl rfl rfl rfl rfl ?_
        refine O_cmp rfl rfl rfl rfl rfl rfl rfl ?_
        refine R_nil ?_
        refine tn ?_
        refine F_false rfl (decide_eq_false (by omega)) ?_
        refine F_skip ?_
        refine tn ?_
        refine F_seq ?_
        refine F_region (p := ⟨_, [0, 0], []⟩) rfl [0, 1] rfl ?_
        refine O_move rfl rfl rfl rfl rfl ?_
        refine O_cmp rfl rfl rfl rfl rfl rfl rfl ?_
        refine R_nil ?_
        refine tn ?_
        refine F_false rfl (decide_eq_false (by omega)) ?_
        refine F_region (p := ⟨_, [0, 0, 0, 1, 0], []⟩) rfl [0, 1, 2, 3, 4] rfl ?_
        refine O_move rfl rfl rfl rfl rfl ?_
        refine O_nilCheck rfl rfl rfl rfl rfl ?_
        refine O_fieldAddr rfl rfl rfl rfl rfl Tryd.runUnderlying149 rfl Tryd.sizeOf136 ?_
        refine O_loadS hS rfl rfl rfl rfl rfl Tryd.isAgg136 (by repeat (first | exact .here rfl | apply CellAt.there)) (by trivial) ?_
        refine O_assign rfl rfl rfl rfl rfl ?_
        refine R_nil ?_
        refine bn ?_
        refine tn ⟨rfl, rfl, (pr, r), ⟨rfl, rfl, rfl, rfl, rfl, trivial⟩, ⟨?_, s2, (blks [(b, .cells #[E_si.k k0, E_si.v v0, .pointer pl, .pointer pr, .int .i64 (1 + max l.h r.h), .int .i64 (1 + l.m + r.m)] 149 (0, 0))] * tree E_si pl l) * C, ?_, ?_⟩, ?_⟩
        · rw [← hg, get_gt_ e2 s3]
        · exact hS.to (by simp only [blks]; ac_rfl)
        · intro R' w' h'; dsimp only at h'
          have h2 : Sat w0 (blks [(b, .cells #[E_si.k k0, E_si.v v0, .pointer pl, .pointer pr, .int .i64 (1 + max l.h r.h), .int .i64 (1 + l.m + r.m)] 149 (0, 0))] * (tree E_si pl l * (tree E_si pr r * (C * R')))) w' := h'.to (by ac_rfl)
          exact hC R' w' (tree_node_mk rfl rfl h2)
        · simp only [T.sz]; omega
      | false =>
        have hc : cmpv O_si k k0 = 0 := by simp [cmpv, e1, e2]
        refine F_seq ?_
        refine F_seq ?_
        refine F_region (p := ⟨_, [0, 0], []⟩) rfl [0, 1] rfl ?_
        refine O_move rfl rfl rfl rfl rfl ?_
        refine O_neNil rfl rfl rfl rfl rfl rfl Tryd.runUnderlying136 ?_
        refine R_nil ?_
        refine tn ?_
        refine F_true rfl rfl ?_
        refine F_skip ?_
        refine tn ?_
        refine F_block ?_
        refine F_seq ?_
        refine F_drawnS hS (by kernel_rfl) (p := ⟨_, [0, 0, 0, 1, 0, 0, 0, 0, 1, 2, 0], []⟩) rfl (.ofList [0, 1, 2, 3, 4, 5, 6, 7, 8, 9, 10]) (by kernel_rfl) ?_
        intro w hS
        refine O_move rfl rfl rfl rfl rfl ?_
        refine O_nilCheck rfl rfl rfl rfl rfl ?_
        refine O_fieldAddr rfl rfl rfl rfl rfl Tryd.runUnderlying138 rfl Tryd.sizeOf112 ?_
        refine O_loadS hS rfl rfl rfl rfl rfl Tryd.isAgg112 (by repeat (first | exact .here rfl | apply CellAt.there)) (by trivial) ?_
        refine O_move rfl rfl rfl rfl rfl ?_
        refine O_move rfl rfl rfl rfl rfl ?_
        refine O_nilCheck rfl rfl rfl rfl rfl ?_
        refine O_fieldAddr rfl rfl rfl rfl rfl Tryd.runUnderlying149 rfl Tryd.sizeOf9 ?_
        refine O_loadS hS rfl rfl rfl rfl rfl Tryd.isAgg9 (by repeat (first | exact .here rfl | apply CellAt.there)) (by trivial) ?_
        refine O_callv rfl rfl rfl rfl rfl rfl (cmp_si k k0 hS) (fun _ _ hv => trivial) ?_
        rintro _ w ⟨rfl, hS⟩
        refine O_assign rfl rfl rfl rfl rfl ?_
        refine R_nil ?_
        refine tn ?_
        refine F_seq ?_
        refine F_seq ?_
        refine F_region (p := ⟨_, [0, 0], []⟩) rfl [0, 1] rfl ?_
        refine O_move rfl rfl rfl rfl rfl ?_
        refine O_cmp rfl rfl rfl rfl rfl rfl rfl ?_
        refine R_nil ?_
        refine tn ?_
        refine F_true rfl (decide_eq_true (by omega)) ?_
        refine F_seq ?_
        refine F_region (p := ⟨_, [0, 0, 0, 1, 0, 0], []⟩) rfl [0, 1, 2, 3, 4, 5] rfl ?_
        refine O_move rfl rfl rfl rfl rfl ?_
        refine O_nilCheck rfl rfl rfl rfl rfl ?_
        refine O_fieldAddr rfl rfl rfl rfl rfl Tryd.runUnderlying149 rfl Tryd.sizeOf3 ?_
        refine O_loadS hS rfl rfl rfl rfl rfl Tryd.isAgg3 (by repeat (first | exact .here rfl | apply CellAt.there)) (by trivial) ?_
        refine O_assign rfl rfl rfl rfl rfl ?_
        refine O_assign rfl rfl rfl rfl rfl ?_
        refine R_nil ?_
        refine tn ?_
        refine F_ret ?_
        refine tr ?_
        refine br ?_
        refine tr ?_
        refine br ?_
        refine tr ?_
        show endF _ _ _ _ _ _
        refine end0 trivial rfl rfl rfl hS ?_
        intro w hS
        refine ⟨by rw [← hg, get_eq e1 e2 s3]; rfl, ?_⟩
        have hq : Sat w0 (blks [(b, .cells #[E_si.k k0, E_si.v v0, .pointer pl, .pointer pr, .int .i64 (1 + max l.h r.h), .int .i64 (1 + l.m + r.m)] 149 (0, 0))] * (tree E_si pl l * (tree E_si pr r * (C * (blks [(rb, .cells #[E_si.cv, .pointer root] 138 (0, 0))] * R))))) w := hS.to (by simp only [blks]; ac_rfl)
        exact rackP_mk rfl hs (hC _ _ (tree_node_mk rfl rfl hq)).b2
theorem ahead_si {w0 w : World} {B : HProp} (k : ByteArray) (hS : Sat w0 B w) : FV Tryd.prog (.func (.func 90) #[] #[]) [E_si.k k].toArray w (fun v w' => v = .bool false ∧ Sat w0 B w') := by
  refine FV.of_calls Tryd.call90 ?_
  show Calls Tryd.prog 90 (#[] ++ [E_si.k k].toArray ++ #[]) w _
  rw [Array.empty_append, Array.append_empty]
  refine enterF (args := [_]) Tryd.func90 rfl Tryd.ntmps90 rfl rfl ?_
  refine F_seq ?_
  refine F_region (p := ⟨_, [0], []⟩) rfl [0] rfl ?_
  refine O_assign rfl rfl rfl rfl rfl ?_
  refine R_nil ?_
  refine tn ?_
  refine F_seq ?_
  refine F_region (p := ⟨_, [0], []⟩) rfl [0] rfl ?_
  refine O_assign rfl rfl rfl rfl rfl ?_
  refine R_nil ?_
  refine tn ?_
  refine F_ret ?_
  show endF _ _ _ _ _ _
  refine end0 trivial rfl rfl rfl hS ?_
  intro w hS
  exact ⟨rfl, hS⟩
theorem up_si {w0 : World} {y : Value} {J Jx : List (ByteArray × Int) → HProp} {xs : List (ByteArray × Int)}
    (hy : ∀ pre x post R w, xs = pre ++ x :: post → Sat w0 (J pre * R) w → FV Tryd.prog y [E_si.k x.1, E_si.v x.2].toArray w (fun r w' => (r = .bool true ∧ Sat w0 (J (pre ++ [x]) * R) w') ∨ (r = .bool false ∧ Sat w0 (Jx (pre ++ [x]) * R) w')))
    (t : T ByteArray Int) : ∀ {w : World} {R : HProp} {p : Option Addr} {pre post : List (ByteArray × Int)} (hx : xs = pre ++ (t.toList ++ post)) (hS : Sat w0 (tree E_si p t * (J pre * R)) w),
    Calls Tryd.prog 89 #[.pointer p, .func (.func 90) #[] #[], y] w (ret fun u w' => (u = .bool true ∧ Sat w0 (tree E_si p t * (J (pre ++ t.toList) * R)) w') ∨ (u = .bool false ∧ ∃ q, q <+: t.toList ∧ Sat w0 (tree E_si p t * (Jx (pre ++ q) * R)) w')) := by
  induction t with
  | leaf =>
    intro w R p pre post hx hS
    obtain ⟨rfl, hN⟩ := tree_leaf hS
    clear hS
    have hS := hN
    refine enterF (args := [_, _, _]) Tryd.func89 rfl Tryd.ntmps89 rfl rfl ?_
    refine F_seq ?_
    refine F_region (p := ⟨_, [0], []⟩) rfl [0] rfl ?_
    refine O_assign rfl rfl rfl rfl rfl ?_
    refine R_nil ?_
    refine tn ?_
    refine F_seq ?_
    refine F_seq ?_
    refine F_region (p := ⟨_, [0, 0], []⟩) rfl [0, 1] rfl ?_
    refine O_move rfl rfl rfl rfl rfl ?_
    refine O_eqNil rfl rfl rfl rfl rfl rfl Tryd.runUnderlying136 ?_
    refine R_nil ?_
    refine tn ?_
    refine F_true rfl rfl ?_
    refine F_seq ?_
    refine F_region (p := ⟨_, [0], []⟩) rfl [0] rfl ?_
    refine O_assign rfl rfl rfl rfl rfl ?_
    refine R_nil ?_
    refine tn ?_
    refine F_ret ?_
    refine tr ?_
    show endF _ _ _ _ _ _
    refine end0 trivial rfl rfl rfl hS ?_
    intro w hS
    exact .inl ⟨rfl, tree_leaf_mk (by simpa [T.toList] using hS)⟩
  | node l k v r ihl ihr =>
    intro w R p pre post hx hS
    obtain ⟨b, pl, pr, rfl, hN⟩ := tree_node hS
    clear hS
    simp only [T.toList, List.append_assoc, List.cons_append] at hx ⊢
    have hS : Sat w0 (blks [(b, .cells #[E_si.k k, E_si.v v, .pointer pl, .pointer pr, .int .i64 (1 + max l.h r.h), .int .i64 (1 + l.m + r.m)] 149 (0, 0))] * (tree E_si pl l * (tree E_si pr r * (J pre * R)))) w := hN
    clear hN
    refine enterF (args := [_, _, _]) Tryd.func89 rfl Tryd.ntmps89 rfl rfl ?_
    refine F_seq ?_
    refine F_region (p := ⟨_, [0], []⟩) rfl [0] rfl ?_
    refine O_assign rfl rfl rfl rfl rfl ?_
    refine R_nil ?_
    refine tn ?_
    refine F_seq ?_
    refine F_seq ?_
    refine F_region (p := ⟨_, [0, 0], []⟩) rfl [0, 1] rfl ?_
    refine O_move rfl rfl rfl rfl rfl ?_
    refine O_eqNil rfl rfl rfl rfl rfl rfl Tryd.runUnderlying136 ?_
    refine R_nil ?_
    refine tn ?_
    refine F_false rfl rfl ?_
    refine F_skip ?_
    refine tn ?_
    refine F_seq ?_
    refine F_seq ?_
    refine F_region (p := ⟨_, [0, 0, 0, 0, 1, 2], []⟩) rfl [0, 1, 2, 3, 4, 5] rfl ?_
    refine O_move rfl rfl rfl rfl rfl ?_
    refine O_move rfl rfl rfl rfl rfl ?_
    refine O_nilCheck rfl rfl rfl rfl rfl ?_
    refine O_fieldAddr rfl rfl rfl rfl rfl Tryd.runUnderlying149 rfl Tryd.sizeOf9 ?_
    refine O_loadS hS rfl rfl rfl rfl rfl Tryd.isAgg9 (by repeat (first | exact .here rfl | apply CellAt.there)) (by trivial) ?_
    refine O_callv rfl rfl rfl rfl rfl rfl (ahead_si k hS) (fun _ _ hv => trivial) ?_
    rintro _ w ⟨rfl, hS⟩
    refine R_nil ?_
    refine tn ?_
    refine F_false rfl rfl ?_
    refine F_skip ?_
    refine tn ?_
    refine F_seq ?_
    refine F_drawnS hS (by kernel_rfl) (p := ⟨_, [0, 0, 0, 1, 0, 0, 2, 0, 0, 0, 0, 0, 1, 0, 0, 0, 1, 2, 0, 0, 0, 0, 0, 1, 0, 0, 2, 0, 0], []⟩) rfl (.ofList [0, 1, 2, 3, 4, 5, 6, 7, 8, 9, 10, 11, 12, 13, 14, 15, 16, 17, 18, 19, 20, 21, 22, 23, 24, 25, 26, 27, 28]) (by kernel_rfl) ?_
    intro w hS
    refine O_move rfl rfl rfl rfl rfl ?_
    refine O_nilCheck rfl rfl rfl rfl rfl ?_
    refine O_fieldAddr rfl rfl rfl rfl rfl Tryd.runUnderlying149 rfl Tryd.sizeOf136 ?_
    refine O_loadS hS rfl rfl rfl rfl rfl Tryd.isAgg136 (by repeat (first | exact .here rfl | apply CellAt.there)) (by trivial) ?_
    refine O_move rfl rfl rfl rfl rfl ?_
    refine O_move rfl rfl rfl rfl rfl ?_
    have hQ : Sat w0 (tree E_si pl l * (J pre * (blks [(b, .cells #[E_si.k k, E_si.v v, .pointer pl, .pointer pr, .int .i64 (1 + max l.h r.h), .int .i64 (1 + l.m + r.m)] 149 (0, 0))] * (tree E_si pr r * R)))) w := hS.to (by simp only [blks]; ac_rfl)
    refine O_call rfl rfl rfl rfl Tryd.call89 rfl (ihl (post := (k, v) :: (r.toList ++ post)) hx hQ) (fun _ _ hv => trivial) ?_
    rintro _ w (⟨rfl, hS⟩ | ⟨rfl, q, hq, hS⟩)
    · replace hS : Sat w0 (blks [(b, .cells #[E_si.k k, E_si.v v, .pointer pl, .pointer pr, .int .i64 (1 + max l.h r.h), .int .i64 (1 + l.m + r.m)] 149 (0, 0))] * (tree E_si pl l * (tree E_si pr r * (J (pre ++ l.toList) * R)))) w := hS.to (by simp only [blks]; ac_rfl)
      refine O_move rfl rfl rfl rfl rfl ?_
      refine O_move rfl rfl rfl rfl rfl ?_
      refine O_move rfl rfl rfl rfl rfl ?_
      refine O_nilCheck rfl rfl rfl rfl rfl ?_
      refine O_fieldAddr rfl rfl rfl rfl rfl Tryd.runUnderlying149 rfl Tryd.sizeOf9 ?_
      refine O_loadS hS rfl rfl rfl rfl rfl Tryd.isAgg9 (by repeat (first | exact .here rfl | apply CellAt.there)) (by trivial) ?_
      refine O_move rfl rfl rfl rfl rfl ?_
      refine O_nilCheck rfl rfl rfl rfl rfl ?_
      refine O_fieldAddr rfl rfl rfl rfl rfl Tryd.runUnderlying149 rfl Tryd.sizeOf3 ?_
      refine O_loadS hS rfl rfl rfl rfl rfl Tryd.isAgg3 (by repeat (first | exact .here rfl | apply CellAt.there)) (by trivial) ?_
      have hQ : Sat w0 (J (pre ++ l.toList) * (blks [(b, .cells #[E_si.k k, E_si.v v, .pointer pl, .pointer pr, .int .i64 (1 + max l.h r.h), .int .i64 (1 + l.m + r.m)] 149 (0, 0))] * (tree E_si pl l * (tree E_si pr r * R)))) w := hS.to (by simp only [blks]; ac_rfl)
      refine O_callv rfl rfl rfl rfl rfl rfl (hy (pre ++ l.toList) (k, v) (r.toList ++ post) _ _ (by simpa using hx) hQ) (fun _ _ hv => trivial) ?_
      rintro _ w (⟨rfl, hS⟩ | ⟨rfl, hS⟩)
      · replace hS : Sat w0 (blks [(b, .cells #[E_si.k k, E_si.v v, .pointer pl, .pointer pr, .int .i64 (1 + max l.h r.h), .int .i64 (1 + l.m + r.m)] 149 (0, 0))] * (tree E_si pl l * (tree E_si pr r * (J (pre ++ l.toList ++ [(k, v)]) * R)))) w := hS.to (by simp only [blks]; ac_rfl)
        refine O_pickT rfl rfl rfl rfl rfl rfl ?_
        refine O_move rfl rfl rfl rfl rfl ?_
        refine O_move rfl rfl rfl rfl rfl ?_
        refine O_nilCheck rfl rfl rfl rfl rfl ?_
        refine O_fieldAddr rfl rfl rfl rfl rfl Tryd.runUnderlying149 rfl Tryd.sizeOf136 ?_
        refine O_loadS hS rfl rfl rfl rfl rfl Tryd.isAgg136 (by repeat (first | exact .here rfl | apply CellAt.there)) (by trivial) ?_
        refine O_move rfl rfl rfl rfl rfl ?_
        refine O_move rfl rfl rfl rfl rfl ?_
        have hQ : Sat w0 (tree E_si pr r * (J (pre ++ l.toList ++ [(k, v)]) * (blks [(b, .cells #[E_si.k k, E_si.v v, .pointer pl, .pointer pr, .int .i64 (1 + max l.h r.h), .int .i64 (1 + l.m + r.m)] 149 (0, 0))] * (tree E_si pl l * R)))) w := hS.to (by simp only [blks]; ac_rfl)
        refine O_call rfl rfl rfl rfl Tryd.call89 rfl (ihr (post := post) (by simpa using hx) hQ) (fun _ _ hv => trivial) ?_
        rintro _ w (⟨rfl, hS⟩ | ⟨rfl, q, hq, hS⟩)
        · replace hS : Sat w0 (blks [(b, .cells #[E_si.k k, E_si.v v, .pointer pl, .pointer pr, .int .i64 (1 + max l.h r.h), .int .i64 (1 + l.m + r.m)] 149 (0, 0))] * (tree E_si pl l * (tree E_si pr r * (J (pre ++ l.toList ++ [(k, v)] ++ r.toList) * R)))) w := hS.to (by simp only [blks]; ac_rfl)
          refine O_pickT rfl rfl rfl rfl rfl rfl ?_
          refine O_assign rfl rfl rfl rfl rfl ?_
          refine R_nil ?_
          refine tn ?_
          refine F_ret ?_
          show endF _ _ _ _ _ _
          refine end0 trivial rfl rfl rfl hS ?_
          intro w hS
          exact .inl ⟨rfl, tree_node_mk rfl rfl (by simpa [List.append_assoc] using hS)⟩
        · replace hS : Sat w0 (blks [(b, .cells #[E_si.k k, E_si.v v, .pointer pl, .pointer pr, .int .i64 (1 + max l.h r.h), .int .i64 (1 + l.m + r.m)] 149 (0, 0))] * (tree E_si pl l * (tree E_si pr r * (Jx (pre ++ l.toList ++ [(k, v)] ++ q) * R)))) w := hS.to (by simp only [blks]; ac_rfl)
          refine O_pickT rfl rfl rfl rfl rfl rfl ?_
          refine O_assign rfl rfl rfl rfl rfl ?_
          refine R_nil ?_
          refine tn ?_
          refine F_ret ?_
          show endF _ _ _ _ _ _
          refine end0 trivial rfl rfl rfl hS ?_
          intro w hS
          obtain ⟨z, hz⟩ := hq
          exact .inr ⟨rfl, l.toList ++ (k, v) :: q, ⟨z, by simp [← hz]⟩, tree_node_mk rfl rfl (by simpa [List.append_assoc] using hS)⟩
      · replace hS : Sat w0 (blks [(b, .cells #[E_si.k k, E_si.v v, .pointer pl, .pointer pr, .int .i64 (1 + max l.h r.h), .int .i64 (1 + l.m + r.m)] 149 (0, 0))] * (tree E_si pl l * (tree E_si pr r * (Jx (pre ++ l.toList ++ [(k, v)]) * R)))) w := hS.to (by simp only [blks]; ac_rfl)
        refine O_pickT rfl rfl rfl rfl rfl rfl ?_
        refine O_move rfl rfl rfl rfl rfl ?_
        refine R_skip rfl rfl rfl rfl ?_
        refine R_skip rfl rfl rfl rfl ?_
        refine R_skip rfl rfl rfl rfl ?_
        refine R_skip rfl rfl rfl rfl ?_
        refine R_skip rfl rfl rfl rfl ?_
        refine R_skip rfl rfl rfl rfl ?_
        refine R_skip rfl rfl rfl rfl ?_
        refine O_pickF rfl rfl rfl rfl rfl rfl ?_
        refine O_assign rfl rfl rfl rfl rfl ?_
        refine R_nil ?_
        refine tn ?_
        refine F_ret ?_
        show endF _ _ _ _ _ _
        refine end0 trivial rfl rfl rfl hS ?_
        intro w hS
        exact .inr ⟨rfl, l.toList ++ [(k, v)], ⟨r.toList, by simp⟩, tree_node_mk rfl rfl (by simpa [List.append_assoc] using hS)⟩
    · replace hS : Sat w0 (blks [(b, .cells #[E_si.k k, E_si.v v, .pointer pl, .pointer pr, .int .i64 (1 + max l.h r.h), .int .i64 (1 + l.m + r.m)] 149 (0, 0))] * (tree E_si pl l * (tree E_si pr r * (Jx (pre ++ q) * R)))) w := hS.to (by simp only [blks]; ac_rfl)
      refine O_move rfl rfl rfl rfl rfl ?_
      refine R_skip rfl rfl rfl rfl ?_
      refine R_skip rfl rfl rfl rfl ?_
      refine R_skip rfl rfl rfl rfl ?_
      refine R_skip rfl rfl rfl rfl ?_
      refine R_skip rfl rfl rfl rfl ?_
      refine R_skip rfl rfl rfl rfl ?_
      refine R_skip rfl rfl rfl rfl ?_
      refine R_skip rfl rfl rfl rfl ?_
      refine R_skip rfl rfl rfl rfl ?_
      refine R_skip rfl rfl rfl rfl ?_
      refine O_pickF rfl rfl rfl rfl rfl rfl ?_
      refine O_move rfl rfl rfl rfl rfl ?_
      refine R_skip rfl rfl rfl rfl ?_
      refine R_skip rfl rfl rfl rfl ?_
      refine R_skip rfl rfl rfl rfl ?_
      refine R_skip rfl rfl rfl rfl ?_
      refine R_skip rfl rfl rfl rfl ?_
      refine R_skip rfl rfl rfl rfl ?_
      refine R_skip rfl rfl rfl rfl ?_
      refine O_pickF rfl rfl rfl rfl rfl rfl ?_
      refine O_assign rfl rfl rfl rfl rfl ?_
      refine R_nil ?_
      refine tn ?_
      refine F_ret ?_
      show endF _ _ _ _ _ _
      refine end0 trivial rfl rfl rfl hS ?_
      intro w hS
      exact .inr ⟨rfl, q, hq.trans (by simp), tree_node_mk rfl rfl hS⟩
theorem all_si_iter {rb bx : Nat} {xs : List (ByteArray × Int)} : Iter Tryd.prog (.func (.func 88) #[] #[.pointer (some ⟨bx, 0, none⟩)]) (pt bx (.cells #[.pointer (some ⟨rb, 0, none⟩)] 110) * rackP E_si O_si rb xs) (fun x => [E_si.k x.1, E_si.v x.2].toArray) xs := by
  intro w0 y J Jx hyf hy R w hS
  obtain ⟨yn, ya, yc, rfl⟩ := hyf
  refine FV.of_list (args := [.func yn ya yc]) (cap := [.pointer (some ⟨bx, 0, none⟩)]) Tryd.call88 ?_
  replace hS : Sat w0 (rackP E_si O_si rb xs * (blks [(bx, .cells #[.pointer (some ⟨rb, 0, none⟩)] 110 (0, 0))] * (J [] * R))) w := hS.to (by simp only [blks]; ac_rfl)
  obtain ⟨root, t, rfl, hs, hS⟩ := rackP_open hS
  replace hS : Sat w0 (blks [(rb, .cells #[E_si.cv, .pointer root] 138 (0, 0)), (bx, .cells #[.pointer (some ⟨rb, 0, none⟩)] 110 (0, 0))] * (tree E_si root t * (J [] * R))) w := hS.to (by simp only [blks]; ac_rfl)
  refine enterF (args := [_, _]) Tryd.func88 rfl Tryd.ntmps88 rfl rfl ?_
  refine F_region (p := ⟨_, [1, 0, 0, 1, 0, 2], []⟩) rfl [0, 1, 2, 3, 4, 5] rfl ?_
  refine O_loadS hS rfl rfl rfl rfl rfl Tryd.isAgg110 (by repeat (first | exact .here rfl | apply CellAt.there)) (by trivial) ?_
  refine O_nilCheck rfl rfl rfl rfl rfl ?_
  refine O_fieldAddr rfl rfl rfl rfl rfl Tryd.runUnderlying138 rfl Tryd.sizeOf136 ?_
  refine O_loadS hS rfl rfl rfl rfl rfl Tryd.isAgg136 (by repeat (first | exact .here rfl | apply CellAt.there)) (by trivial) ?_
  refine O_move rfl rfl rfl rfl rfl ?_
  have hQ : Sat w0 (tree E_si root t * (J [] * (blks [(rb, .cells #[E_si.cv, .pointer root] 138 (0, 0)), (bx, .cells #[.pointer (some ⟨rb, 0, none⟩)] 110 (0, 0))] * R))) w := hS.to (by simp only [blks]; ac_rfl)
  refine O_call rfl rfl rfl rfl Tryd.call89 rfl (up_si (xs := t.toList) hy t (post := []) (by simp) hQ) (fun _ _ hv => trivial) ?_
  rintro _ w hS
  refine R_nil ?_
  rcases hS with ⟨rfl, hS⟩ | ⟨rfl, q, hq, hS⟩
  ·
    show endF _ _ _ _ _ _
    refine end0 trivial rfl rfl rfl hS ?_
    intro w hS
    replace hS : Sat w0 (blks [(rb, .cells #[E_si.cv, .pointer root] 138 (0, 0))] * (tree E_si root t * (blks [(bx, .cells #[.pointer (some ⟨rb, 0, none⟩)] 110 (0, 0))] * (J t.toList * R)))) w := hS.to (by simp only [blks, List.nil_append]; ac_rfl)
    exact .inl ((rackP_mk rfl hs hS).to (by simp only [blks]; ac_rfl))
  ·
    show endF _ _ _ _ _ _
    refine end0 trivial rfl rfl rfl hS ?_
    intro w hS
    replace hS : Sat w0 (blks [(rb, .cells #[E_si.cv, .pointer root] 138 (0, 0))] * (tree E_si root t * (blks [(bx, .cells #[.pointer (some ⟨rb, 0, none⟩)] 110 (0, 0))] * (Jx q * R)))) w := hS.to (by simp only [blks, List.nil_append]; ac_rfl)
    exact .inr ⟨q, hq, ((rackP_mk rfl hs hS).to (by simp only [blks]; ac_rfl))⟩
theorem All_si {w0 w : World} {R : HProp} {a : Value} (ha : ∃ rb, a = .pointer (some ⟨rb, 0, none⟩)) (hS : Sat w0 R w) : Calls Tryd.prog 81 #[a] w (ret fun u w' => ∃ bx, u = .func (.func 88) #[] #[.pointer (some ⟨bx, 0, none⟩)] ∧ Sat w0 (pt bx (.cells #[a] 110) * R) w') := by
  obtain ⟨rb, rfl⟩ := ha
  replace hS := hS.noblks
  refine enterF (args := [_]) Tryd.func81 rfl Tryd.ntmps81 rfl rfl ?_
  refine F_seq ?_
  refine F_region (p := ⟨_, [2, 0], []⟩) rfl [0, 1] rfl ?_
  refine O_boxS hS rfl rfl rfl rfl rfl (fun _ _ hv => trivial) ?_
  intro b1 w hS
  refine O_assign rfl rfl rfl rfl rfl ?_
  refine R_nil ?_
  refine tn ?_
  refine F_seq ?_
  refine F_region (p := ⟨_, [0, 0], []⟩) rfl [0, 1] rfl ?_
  refine O_makeFunc rfl rfl rfl rfl rfl rfl ?_
  refine O_assign rfl rfl rfl rfl rfl ?_
  refine R_nil ?_
  refine tn ?_
  refine F_ret ?_
  show endF _ _ _ _ _ _
  refine end0 trivial rfl rfl rfl hS ?_
  intro w hS
  exact ⟨_, rfl, hS.to (by simp only [blks]; ac_rfl)⟩
end Go.Proofs.YtpnigaoibhogfaaDoor
