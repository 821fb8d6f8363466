/- YtpnigaoibhogfaaR1b: a part of the proof: walks over the translated code, and plain facts on lists beside. -/
import Derived.Test.YtpnigaoibhogfaaR0
set_option linter.all false
namespace Go.Proofs.Ytpnigaoibhogfaa
open Go Go.RowKit Go.Sl
set_option linter.unusedVariables false
abbrev E_ib : Enc Int Bool := ⟨fun n => .int .i64 n, fun b => .bool b, 138, 136, .func (.func 39) #[] #[]⟩
abbrev O_ib : Lo Int := O_ii
theorem cmp_ib {w0 w : World} {A : HProp} (a b : Int) (hS : Sat w0 A w) : FV Try.prog E_ib.cv [E_ib.k a, E_ib.k b].toArray w (fun v w' => v = .int .i64 (cmpv O_ib a b) ∧ Sat w0 A w') := cmp_ii a b hS
theorem height_ib_nil {w0 w : World} {R : HProp} (hS : Sat w0 R w) : Calls Try.prog 108 #[.pointer none] w (ret fun v w' => v = .int .i64 0 ∧ Sat w0 R w') := by
  refine enterF (args := [_]) Try.func108 rfl Try.ntmps108 rfl rfl ?_
  refine F_seq ?_
  refine F_region (p := ⟨_, [0], []⟩) rfl [0] rfl ?_
  refine O_assign rfl rfl rfl rfl rfl ?_
  refine R_nil ?_
  refine tn ?_
  refine F_seq ?_
  refine F_seq ?_
  refine F_region (p := ⟨_, [0, 0], []⟩) rfl [0, 1] rfl ?_
  refine O_move rfl rfl rfl rfl rfl ?_
  refine O_eqNil rfl rfl rfl rfl rfl rfl Try.runUnderlying132 ?_
  refine R_nil ?_
  refine tn ?_
  refine F_true rfl rfl ?_
  refine F_seq ?_
  refine F_region (p := ⟨_, [0], []⟩) rfl [0] rfl ?_
  refine O_assign rfl rfl rfl rfl rfl ?_
  refine R_nil ?_
  refine tn ?_
  refine F_ret ?_
  refine tr ?_
  show endF _ _ _ _ _ _
  refine end0 trivial rfl rfl rfl hS ?_
  intro w hS
  exact ⟨rfl, hS⟩
theorem height_ib_at {w0 w : World} {R : HProp} {b : Nat} {x0 x1 x2 x3 : Value} {h m : Int} (hS : Sat w0 (blks [(b, .cells #[x0, x1, x2, x3, .int .i64 h, .int .i64 m] 138 (0, 0))] * R) w) :
    Calls Try.prog 108 #[.pointer (some ⟨b, 0, none⟩)] w (ret fun v w' => v = .int .i64 h ∧ Sat w0 (blks [(b, .cells #[x0, x1, x2, x3, .int .i64 h, .int .i64 m] 138 (0, 0))] * R) w') := by
  refine enterF (args := [_]) Try.func108 rfl Try.ntmps108 rfl rfl ?_
  refine F_seq ?_
  refine F_region (p := ⟨_, [0], []⟩) rfl [0] rfl ?_
  refine O_assign rfl rfl rfl rfl rfl ?_
  refine R_nil ?_
  refine tn ?_
  refine F_seq ?_
  refine F_seq ?_
  refine F_region (p := ⟨_, [0, 0], []⟩) rfl [0, 1] rfl ?_
  refine O_move rfl rfl rfl rfl rfl ?_
  refine O_eqNil rfl rfl rfl rfl rfl rfl Try.runUnderlying132 ?_
  refine R_nil ?_
  refine tn ?_
  refine F_false rfl rfl ?_
  refine F_skip ?_
  refine tn ?_
  refine F_seq ?_
  refine F_region (p := ⟨_, [0, 0, 0, 1, 0], []⟩) rfl [0, 1, 2, 3, 4] rfl ?_
  refine O_move rfl rfl rfl rfl rfl ?_
  refine O_nilCheck rfl rfl rfl rfl rfl ?_
  refine O_fieldAddr rfl rfl rfl rfl rfl Try.runUnderlying138 rfl Try.sizeOf3 ?_
  refine O_loadS hS rfl rfl rfl rfl rfl Try.isAgg3 (by repeat (first | exact .here rfl | apply CellAt.there)) (by trivial) ?_
  refine O_assign rfl rfl rfl rfl rfl ?_
  refine R_nil ?_
  refine tn ?_
  refine F_ret ?_
  show endF _ _ _ _ _ _
  refine end0 trivial rfl rfl rfl hS ?_
  intro w hS
  exact ⟨rfl, hS⟩
theorem size_ib_nil {w0 w : World} {R : HProp} (hS : Sat w0 R w) : Calls Try.prog 77 #[.pointer none] w (ret fun v w' => v = .int .i64 0 ∧ Sat w0 R w') := by
  refine enterF (args := [_]) Try.func77 rfl Try.ntmps77 rfl rfl ?_
  refine F_seq ?_
  refine F_region (p := ⟨_, [0], []⟩) rfl [0] rfl ?_
  refine O_assign rfl rfl rfl rfl rfl ?_
  refine R_nil ?_
  refine tn ?_
  refine F_seq ?_
  refine F_seq ?_
  refine F_region (p := ⟨_, [0, 0], []⟩) rfl [0, 1] rfl ?_
  refine O_move rfl rfl rfl rfl rfl ?_
  refine O_eqNil rfl rfl rfl rfl rfl rfl Try.runUnderlying132 ?_
  refine R_nil ?_
  refine tn ?_
  refine F_true rfl rfl ?_
  refine F_seq ?_
  refine F_region (p := ⟨_, [0], []⟩) rfl [0] rfl ?_
  refine O_assign rfl rfl rfl rfl rfl ?_
  refine R_nil ?_
  refine tn ?_
  refine F_ret ?_
  refine tr ?_
  show endF _ _ _ _ _ _
  refine end0 trivial rfl rfl rfl hS ?_
  intro w hS
  exact ⟨rfl, hS⟩
theorem size_ib_at {w0 w : World} {R : HProp} {b : Nat} {x0 x1 x2 x3 : Value} {h m : Int} (hS : Sat w0 (blks [(b, .cells #[x0, x1, x2, x3, .int .i64 h, .int .i64 m] 138 (0, 0))] * R) w) :
    Calls Try.prog 77 #[.pointer (some ⟨b, 0, none⟩)] w (ret fun v w' => v = .int .i64 m ∧ Sat w0 (blks [(b, .cells #[x0, x1, x2, x3, .int .i64 h, .int .i64 m] 138 (0, 0))] * R) w') := by
  refine enterF (args := [_]) Try.func77 rfl Try.ntmps77 rfl rfl ?_
  refine F_seq ?_
  refine F_region (p := ⟨_, [0], []⟩) rfl [0] rfl ?_
  refine O_assign rfl rfl rfl rfl rfl ?_
  refine R_nil ?_
  refine tn ?_
  refine F_seq ?_
  refine F_seq ?_
  refine F_region (p := ⟨_, [0, 0], []⟩) rfl [0, 1] rfl ?_
  refine O_move rfl rfl rfl rfl rfl ?_
  refine O_eqNil rfl rfl rfl rfl rfl rfl Try.runUnderlying132 ?_
  refine R_nil ?_
  refine tn ?_
  refine F_false rfl rfl ?_
  refine F_skip ?_
  refine tn ?_
  refine F_seq ?_
  refine F_region (p := ⟨_, [0, 0, 0, 1, 0], []⟩) rfl [0, 1, 2, 3, 4] rfl ?_
  refine O_move rfl rfl rfl rfl rfl ?_
  refine O_nilCheck rfl rfl rfl rfl rfl ?_
  refine O_fieldAddr rfl rfl rfl rfl rfl Try.runUnderlying138 rfl Try.sizeOf3 ?_
  refine O_loadS hS rfl rfl rfl rfl rfl Try.isAgg3 (by repeat (first | exact .here rfl | apply CellAt.there)) (by trivial) ?_
  refine O_assign rfl rfl rfl rfl rfl ?_
  refine R_nil ?_
  refine tn ?_
  refine F_ret ?_
  show endF _ _ _ _ _ _
  refine end0 trivial rfl rfl rfl hS ?_
  intro w hS
  exact ⟨rfl, hS⟩
/-- What stands at p, of this height and size. -/
def Ht_ib (A : HProp) (p : Option Addr) (h m : Int) : Prop := ∀ w0 R w, Sat w0 (A * R) w →
  Calls Try.prog 108 #[.pointer p] w (ret fun v w' => v = .int .i64 h ∧ Sat w0 (A * R) w') ∧ Calls Try.prog 77 #[.pointer p] w (ret fun v w' => v = .int .i64 m ∧ Sat w0 (A * R) w')
theorem ht_ib_at {A : HProp} {b : Nat} {x0 x1 x2 x3 : Value} {h m : Int} : Ht_ib (blks [(b, .cells #[x0, x1, x2, x3, .int .i64 h, .int .i64 m] 138 (0, 0))] * A) (some ⟨b, 0, none⟩) h m := fun w0 R w hS =>
  ⟨Calls.mono' (height_ib_at (hS.to (star_assoc _ _ _))) (fun e w' ⟨v, he, hv, hS⟩ => ⟨v, he, hv, hS.to (star_assoc _ _ _).symm⟩), Calls.mono' (size_ib_at (hS.to (star_assoc _ _ _))) (fun e w' ⟨v, he, hv, hS⟩ => ⟨v, he, hv, hS.to (star_assoc _ _ _).symm⟩)⟩
theorem ht_ib {p : Option Addr} {t : T _ _} : Ht_ib (tree E_ib p t) p t.h t.m := fun w0 R w hS => by
  cases t with
  | leaf =>
    obtain ⟨rfl, _⟩ := tree_leaf hS
    exact ⟨height_ib_nil hS, size_ib_nil hS⟩
  | node l k v r =>
    obtain ⟨b, pl, pr, rfl, hN⟩ := tree_node hS
    refine ⟨Calls.mono' (height_ib_at hN) ?_, Calls.mono' (size_ib_at hN) ?_⟩
    all_goals (rintro e w' ⟨v, he, hv, hS⟩; exact ⟨v, he, hv, tree_node_mk rfl rfl hS⟩)
theorem count_ib {w0 w : World} {A B R : HProp} {b : Nat} {pl pr : Option Addr} {x0 x1 x4 x5 : Value} {hl hr ml mr : Int} (hA : Ht_ib A pl hl ml) (hB : Ht_ib B pr hr mr)
    (b1 : 0 ≤ hl ∧ 0 ≤ hr ∧ 0 ≤ ml ∧ 0 ≤ mr ∧ hl ≤ ml ∧ hr ≤ mr ∧ ml + mr ≤ 4611686018427387904) (hS : Sat w0 (blks [(b, .cells #[x0, x1, .pointer pl, .pointer pr, x4, x5] 138 (0, 0))] * (A * (B * R))) w) :
    Calls Try.prog 98 #[.pointer (some ⟨b, 0, none⟩)] w (ret fun v w' => v = .pointer (some ⟨b, 0, none⟩) ∧ Sat w0 (blks [(b, .cells #[x0, x1, .pointer pl, .pointer pr, .int .i64 (1 + max hl hr), .int .i64 (1 + ml + mr)] 138 (0, 0))] * (A * (B * R))) w') := by
  refine enterF (args := [_]) Try.func98 rfl Try.ntmps98 rfl rfl ?_
  refine F_seq ?_
  refine F_region (p := ⟨_, [0], []⟩) rfl [0] rfl ?_
  refine O_assign rfl rfl rfl rfl rfl ?_
  refine R_nil ?_
  refine tn ?_
  refine F_seq ?_
  refine F_drawnS hS (by kernel_rfl) (p := ⟨_, [0, 0, 0, 0, 1, 2, 0, 0, 0, 1, 2, 0, 0, 0, 0, 2], [(5, 9)]⟩) rfl (.ofList [0, 1, 2, 3, 4, 5, 6, 7, 8, 9, 10, 11, 12, 13, 14, 15]) (by kernel_rfl) ?_
  intro w hS
  refine O_move rfl rfl rfl rfl rfl ?_
  refine O_move rfl rfl rfl rfl rfl ?_
  refine O_nilCheck rfl rfl rfl rfl rfl ?_
  refine O_fieldAddr rfl rfl rfl rfl rfl Try.runUnderlying138 rfl Try.sizeOf132 ?_
  refine O_loadS hS rfl rfl rfl rfl rfl Try.isAgg132 (by repeat (first | exact .here rfl | apply CellAt.there)) (by trivial) ?_
  have hS_5 := hS
  refine O_call rfl rfl rfl rfl Try.call108 rfl ((hA _ _ _ hS.b2).1) (fun _ _ hv => trivial) ?_
  rintro _ w ⟨rfl, hS⟩
  replace hS := hS.b2
  refine O_move rfl rfl rfl rfl rfl ?_
  refine O_nilCheck rfl rfl rfl rfl rfl ?_
  refine O_fieldAddr rfl rfl rfl rfl rfl Try.runUnderlying138 rfl Try.sizeOf132 ?_
  refine O_loadS hS rfl rfl rfl rfl rfl Try.isAgg132 (by repeat (first | exact .here rfl | apply CellAt.there)) (by exact ⟨CellAt.cell (by repeat (first | exact .here rfl | apply CellAt.there)) hS_5, trivial⟩) ?_
  refine O_call rfl rfl rfl rfl Try.call108 rfl ((hB _ _ _ hS.b3).1) (fun _ _ hv => ⟨trivial, trivial⟩) ?_
  rintro _ w ⟨rfl, hS⟩
  replace hS := hS.f3
  refine O_max2 rfl rfl rfl rfl rfl rfl ?_
  refine O_addN rfl rfl rfl rfl rfl rfl (by first | omega | (dsimp only; omega)) ?_
  refine O_nilCheck rfl rfl rfl rfl rfl ?_
  refine O_fieldAddr rfl rfl rfl rfl rfl Try.runUnderlying138 rfl Try.sizeOf3 ?_
  refine O_storeS hS rfl rfl rfl rfl rfl rfl rfl Try.sizeOf3 (by repeat (first | exact .here rfl rfl | apply SetAt.there)) (fun w' hv => ⟨trivial, trivial⟩) ?_
  intro w hS
  refine R_nil ?_
  refine tn ?_
  refine F_seq ?_
  refine F_drawnS hS (by kernel_rfl) (p := ⟨_, [0, 0, 0, 0, 1, 2, 0, 0, 0, 0, 1, 2, 0, 0, 0, 2], [(5, 10)]⟩) rfl (.ofList [0, 1, 2, 3, 4, 5, 6, 7, 8, 9, 10, 11, 12, 13, 14, 15]) (by kernel_rfl) ?_
  intro w hS
  refine O_move rfl rfl rfl rfl rfl ?_
  refine O_move rfl rfl rfl rfl rfl ?_
  refine O_nilCheck rfl rfl rfl rfl rfl ?_
  refine O_fieldAddr rfl rfl rfl rfl rfl Try.runUnderlying138 rfl Try.sizeOf132 ?_
  refine O_loadS hS rfl rfl rfl rfl rfl Try.isAgg132 (by repeat (first | exact .here rfl | apply CellAt.there)) (by trivial) ?_
  have hS_5 := hS
  refine O_call rfl rfl rfl rfl Try.call77 rfl ((hA _ _ _ hS.b2).2) (fun _ _ hv => trivial) ?_
  rintro _ w ⟨rfl, hS⟩
  replace hS := hS.b2
  refine O_addN rfl rfl rfl rfl rfl rfl (by first | omega | (dsimp only; omega)) ?_
  refine O_move rfl rfl rfl rfl rfl ?_
  refine O_nilCheck rfl rfl rfl rfl rfl ?_
  refine O_fieldAddr rfl rfl rfl rfl rfl Try.runUnderlying138 rfl Try.sizeOf132 ?_
  refine O_loadS hS rfl rfl rfl rfl rfl Try.isAgg132 (by repeat (first | exact .here rfl | apply CellAt.there)) (by exact ⟨CellAt.cell (by repeat (first | exact .here rfl | apply CellAt.there)) hS_5, trivial⟩) ?_
  refine O_call rfl rfl rfl rfl Try.call77 rfl ((hB _ _ _ hS.b3).2) (fun _ _ hv => ⟨trivial, trivial⟩) ?_
  rintro _ w ⟨rfl, hS⟩
  replace hS := hS.f3
  refine O_addN rfl rfl rfl rfl rfl rfl (by first | omega | (dsimp only; omega)) ?_
  refine O_nilCheck rfl rfl rfl rfl rfl ?_
  refine O_fieldAddr rfl rfl rfl rfl rfl Try.runUnderlying138 rfl Try.sizeOf3 ?_
  refine O_storeS hS rfl rfl rfl rfl rfl rfl rfl Try.sizeOf3 (by repeat (first | exact .here rfl rfl | apply SetAt.there)) (fun w' hv => ⟨trivial, trivial⟩) ?_
  intro w hS
  refine R_nil ?_
  refine tn ?_
  refine F_seq ?_
  refine F_region (p := ⟨_, [0, 0], []⟩) rfl [0, 1] rfl ?_
  refine O_move rfl rfl rfl rfl rfl ?_
  refine O_assign rfl rfl rfl rfl rfl ?_
  refine R_nil ?_
  refine tn ?_
  refine F_ret ?_
  show endF _ _ _ _ _ _
  refine end0 trivial rfl rfl rfl hS ?_
  intro w hS
  exact ⟨rfl, hS⟩
theorem toRight_ib {w0 w : World} {R : HProp} {b : Nat} {pc po : Option Addr} {k k' : _} {v v' : _} {x4 x5 : Value} {c1 c2 o : T _ _} (hm : c1.m + c2.m + o.m ≤ 4611686018427387000)
    (hS : Sat w0 (blks [(b, .cells #[E_ib.k k, E_ib.v v, .pointer pc, .pointer po, x4, x5] 138 (0, 0))] * (tree E_ib pc (.node c1 k' v' c2) * (tree E_ib po o * R))) w) :
    Calls Try.prog 110 #[.pointer (some ⟨b, 0, none⟩)] w (ret fun u w' => ∃ p', u = .pointer p' ∧ Sat w0 (tree E_ib p' (.node c1 k' v' (.node c2 k v o)) * R) w') := by
  have d1 := c1.bd
  have d2 := c2.bd
  have d3 := o.bd
  obtain ⟨bc, p1, p2, rfl, hS⟩ := tree_node hS.b2
  replace hS : Sat w0 (blks [(b, .cells #[E_ib.k k, E_ib.v v, .pointer (some ⟨bc, 0, none⟩), .pointer po, x4, x5] 138 (0, 0)), (bc, .cells #[E_ib.k k', E_ib.v v', .pointer p1, .pointer p2, .int .i64 (1 + max c1.h c2.h), .int .i64 (1 + c1.m + c2.m)] 138 (0, 0))] * (tree E_ib p1 c1 * (tree E_ib p2 c2 * (tree E_ib po o * R)))) w := hS.to (by simp only [blks]; ac_rfl)
  refine enterF (args := [_]) Try.func110 rfl Try.ntmps110 rfl rfl ?_
  refine F_seq ?_
  refine F_region (p := ⟨_, [0], []⟩) rfl [0] rfl ?_
  refine O_assign rfl rfl rfl rfl rfl ?_
  refine R_nil ?_
  refine tn ?_
  refine F_seq ?_
  refine F_region (p := ⟨_, [0, 0, 0, 1, 0], []⟩) rfl [0, 1, 2, 3, 4] rfl ?_
  refine O_move rfl rfl rfl rfl rfl ?_
  refine O_nilCheck rfl rfl rfl rfl rfl ?_
  refine O_fieldAddr rfl rfl rfl rfl rfl Try.runUnderlying138 rfl Try.sizeOf132 ?_
  refine O_loadS hS rfl rfl rfl rfl rfl Try.isAgg132 (by repeat (first | exact .here rfl | apply CellAt.there)) (by trivial) ?_
  refine O_assign rfl rfl rfl rfl rfl ?_
  refine R_nil ?_
  refine tn ?_
  refine F_seq ?_
  refine F_drawnS hS (by kernel_rfl) (p := ⟨_, [0, 0, 0, 0, 0, 1, 0, 2, 0, 0, 2, 0, 0, 2], [(5, 7)]⟩) rfl (.ofList [0, 1, 2, 3, 4, 5, 6, 7, 8, 9, 10, 11, 12, 13]) (by kernel_rfl) ?_
  intro w hS
  refine O_move rfl rfl rfl rfl rfl ?_
  refine O_move rfl rfl rfl rfl rfl ?_
  refine O_move rfl rfl rfl rfl rfl ?_
  refine O_nilCheck rfl rfl rfl rfl rfl ?_
  refine O_fieldAddr rfl rfl rfl rfl rfl Try.runUnderlying138 rfl Try.sizeOf132 ?_
  refine O_loadS hS rfl rfl rfl rfl rfl Try.isAgg132 (by repeat (first | exact .here rfl | apply CellAt.there)) (by trivial) ?_
  refine O_move rfl rfl rfl rfl rfl ?_
  have hQ : Sat w0 (blks [(b, .cells #[E_ib.k k, E_ib.v v, .pointer (some ⟨bc, 0, none⟩), .pointer po, x4, x5] 138 (0, 0))] * ((blks [(bc, .cells #[E_ib.k k', E_ib.v v', .pointer p1, .pointer p2, .int .i64 (1 + max c1.h c2.h), .int .i64 (1 + c1.m + c2.m)] 138 (0, 0))] * (tree E_ib p1 c1 * tree E_ib p2 c2)) * (tree E_ib po o * R))) w := hS.to (by simp only [blks]; ac_rfl)
  have hS_7 := hS
  refine O_call rfl rfl rfl rfl Try.call98 rfl (count_ib ht_ib_at ht_ib (by omega) hQ) (fun _ _ hv => ⟨CellAt.cell (by repeat (first | exact .here rfl | apply CellAt.there)) (Sat.i2 hv.2), trivial⟩) ?_
  rintro _ w ⟨rfl, hS⟩
  replace hS : Sat w0 (blks [(b, .cells #[E_ib.k k, E_ib.v v, .pointer (some ⟨bc, 0, none⟩), .pointer po, .int .i64 (1 + max (1 + max c1.h c2.h) o.h), .int .i64 (1 + (1 + c1.m + c2.m) + o.m)] 138 (0, 0)), (bc, .cells #[E_ib.k k', E_ib.v v', .pointer p1, .pointer p2, .int .i64 (1 + max c1.h c2.h), .int .i64 (1 + c1.m + c2.m)] 138 (0, 0))] * (tree E_ib p1 c1 * (tree E_ib p2 c2 * (tree E_ib po o * R)))) w := hS.to (by simp only [blks]; ac_rfl)
  refine O_nilCheck rfl rfl rfl rfl rfl ?_
  refine O_fieldAddr rfl rfl rfl rfl rfl Try.runUnderlying138 rfl Try.sizeOf132 ?_
  refine O_storeS hS rfl rfl rfl rfl rfl rfl rfl Try.sizeOf132 (by repeat (first | exact .here rfl rfl | apply SetAt.there)) (fun w' hv => ⟨trivial, trivial⟩) ?_
  intro w hS
  refine O_nilCheck rfl rfl rfl rfl rfl ?_
  refine O_fieldAddr rfl rfl rfl rfl rfl Try.runUnderlying138 rfl Try.sizeOf132 ?_
  refine O_storeS hS rfl rfl rfl rfl rfl rfl rfl Try.sizeOf132 (by repeat (first | exact .here rfl rfl | apply SetAt.there)) (fun w' hv => ⟨trivial, trivial⟩) ?_
  intro w hS
  refine R_nil ?_
  refine tn ?_
  refine F_seq ?_
  refine F_region (p := ⟨_, [0, 2], []⟩) rfl [0, 1] rfl ?_
  refine O_move rfl rfl rfl rfl rfl ?_
  replace hS : Sat w0 (blks [(b, .cells #[E_ib.k k, E_ib.v v, .pointer p2, .pointer po, .int .i64 (1 + max (1 + max c1.h c2.h) o.h), .int .i64 (1 + (1 + c1.m + c2.m) + o.m)] 138 (0, 0)), (bc, .cells #[E_ib.k k', E_ib.v v', .pointer p1, .pointer (some ⟨b, 0, none⟩), .int .i64 (1 + max c1.h c2.h), .int .i64 (1 + c1.m + c2.m)] 138 (0, 0))] * (tree E_ib p1 c1 * (tree E_ib p2 c2 * (tree E_ib po o * R)))) w := hS
  replace hS : Sat w0 (blks [(b, .cells #[E_ib.k k, E_ib.v v, .pointer p2, .pointer po, .int .i64 (1 + max (1 + max c1.h c2.h) o.h), .int .i64 (1 + (1 + c1.m + c2.m) + o.m)] 138 (0, 0))] * (tree E_ib p2 c2 * (tree E_ib po o * (blks [(bc, .cells #[E_ib.k k', E_ib.v v', .pointer p1, .pointer (some ⟨b, 0, none⟩), .int .i64 (1 + max c1.h c2.h), .int .i64 (1 + c1.m + c2.m)] 138 (0, 0))] * (tree E_ib p1 c1 * R))))) w := hS.to (by simp only [blks]; ac_rfl)
  refine O_call rfl rfl rfl rfl Try.call98 rfl (count_ib ht_ib ht_ib (by omega) hS) (fun _ _ hv => trivial) ?_
  rintro _ w ⟨rfl, hS⟩
  replace hS : Sat w0 (blks [(bc, .cells #[E_ib.k k', E_ib.v v', .pointer p1, .pointer (some ⟨b, 0, none⟩), .int .i64 (1 + max c1.h c2.h), .int .i64 (1 + c1.m + c2.m)] 138 (0, 0))] * (tree E_ib p1 c1 * ((blks [(b, .cells #[E_ib.k k, E_ib.v v, .pointer p2, .pointer po, .int .i64 (1 + max c2.h o.h), .int .i64 (1 + c2.m + o.m)] 138 (0, 0))] * (tree E_ib p2 c2 * tree E_ib po o)) * R))) w := hS.to (by simp only [blks]; ac_rfl)
  refine R_nil ?_
  refine tn ?_
  refine F_seq ?_
  refine F_region (p := ⟨_, [0, 2, 0], []⟩) rfl [0, 1, 2] rfl ?_
  refine O_move rfl rfl rfl rfl rfl ?_
  refine O_call rfl rfl rfl rfl Try.call98 rfl (count_ib ht_ib ht_ib_at (by omega) hS) (fun _ _ hv => trivial) ?_
  rintro _ w ⟨rfl, hS⟩
  refine O_assign rfl rfl rfl rfl rfl ?_
  refine R_nil ?_
  refine tn ?_
  refine F_ret ?_
  show endF _ _ _ _ _ _
  refine end0 trivial rfl rfl rfl hS ?_
  intro w hS
  have hq : Sat w0 (blks [(b, .cells #[E_ib.k k, E_ib.v v, .pointer p2, .pointer po, .int .i64 (1 + max c2.h o.h), .int .i64 (1 + c2.m + o.m)] 138 (0, 0))] * (tree E_ib p2 c2 * (tree E_ib po o * (blks [(bc, .cells #[E_ib.k k', E_ib.v v', .pointer p1, .pointer (some ⟨b, 0, none⟩), .int .i64 (1 + max c1.h (1 + max c2.h o.h)), .int .i64 (1 + c1.m + (1 + c2.m + o.m))] 138 (0, 0))] * (tree E_ib p1 c1 * R))))) w := hS.to (by simp only [blks]; ac_rfl)
  have hq := tree_node_mk rfl rfl hq
  replace hq : Sat w0 (blks [(bc, .cells #[E_ib.k k', E_ib.v v', .pointer p1, .pointer (some ⟨b, 0, none⟩), .int .i64 (1 + max c1.h (1 + max c2.h o.h)), .int .i64 (1 + c1.m + (1 + c2.m + o.m))] 138 (0, 0))] * (tree E_ib p1 c1 * (tree E_ib (some ⟨b, 0, none⟩) (.node c2 k v o) * R))) w := hq.to (by ac_rfl)
  exact ⟨_, rfl, tree_node_mk rfl rfl hq⟩
theorem toLeft_ib {w0 w : World} {R : HProp} {b : Nat} {pc po : Option Addr} {k k' : _} {v v' : _} {x4 x5 : Value} {c1 c2 o : T _ _} (hm : c1.m + c2.m + o.m ≤ 4611686018427387000)
    (hS : Sat w0 (blks [(b, .cells #[E_ib.k k, E_ib.v v, .pointer po, .pointer pc, x4, x5] 138 (0, 0))] * (tree E_ib po o * (tree E_ib pc (.node c1 k' v' c2) * R))) w) :
    Calls Try.prog 109 #[.pointer (some ⟨b, 0, none⟩)] w (ret fun u w' => ∃ p', u = .pointer p' ∧ Sat w0 (tree E_ib p' (.node (.node o k v c1) k' v' c2) * R) w') := by
  have d1 := c1.bd
  have d2 := c2.bd
  have d3 := o.bd
  obtain ⟨bc, p1, p2, rfl, hS⟩ := tree_node hS.b3
  replace hS : Sat w0 (blks [(b, .cells #[E_ib.k k, E_ib.v v, .pointer po, .pointer (some ⟨bc, 0, none⟩), x4, x5] 138 (0, 0)), (bc, .cells #[E_ib.k k', E_ib.v v', .pointer p1, .pointer p2, .int .i64 (1 + max c1.h c2.h), .int .i64 (1 + c1.m + c2.m)] 138 (0, 0))] * (tree E_ib p1 c1 * (tree E_ib p2 c2 * (tree E_ib po o * R)))) w := hS.to (by simp only [blks]; ac_rfl)
  refine enterF (args := [_]) Try.func109 rfl Try.ntmps109 rfl rfl ?_
  refine F_seq ?_
  refine F_region (p := ⟨_, [0], []⟩) rfl [0] rfl ?_
  refine O_assign rfl rfl rfl rfl rfl ?_
  refine R_nil ?_
  refine tn ?_
  refine F_seq ?_
  refine F_region (p := ⟨_, [0, 0, 0, 1, 0], []⟩) rfl [0, 1, 2, 3, 4] rfl ?_
  refine O_move rfl rfl rfl rfl rfl ?_
  refine O_nilCheck rfl rfl rfl rfl rfl ?_
  refine O_fieldAddr rfl rfl rfl rfl rfl Try.runUnderlying138 rfl Try.sizeOf132 ?_
  refine O_loadS hS rfl rfl rfl rfl rfl Try.isAgg132 (by repeat (first | exact .here rfl | apply CellAt.there)) (by trivial) ?_
  refine O_assign rfl rfl rfl rfl rfl ?_
  refine R_nil ?_
  refine tn ?_
  refine F_seq ?_
  refine F_drawnS hS (by kernel_rfl) (p := ⟨_, [0, 0, 0, 0, 0, 1, 0, 2, 0, 0, 2, 0, 0, 2], [(5, 7)]⟩) rfl (.ofList [0, 1, 2, 3, 4, 5, 6, 7, 8, 9, 10, 11, 12, 13]) (by kernel_rfl) ?_
  intro w hS
  refine O_move rfl rfl rfl rfl rfl ?_
  refine O_move rfl rfl rfl rfl rfl ?_
  refine O_move rfl rfl rfl rfl rfl ?_
  refine O_nilCheck rfl rfl rfl rfl rfl ?_
  refine O_fieldAddr rfl rfl rfl rfl rfl Try.runUnderlying138 rfl Try.sizeOf132 ?_
  refine O_loadS hS rfl rfl rfl rfl rfl Try.isAgg132 (by repeat (first | exact .here rfl | apply CellAt.there)) (by trivial) ?_
  refine O_move rfl rfl rfl rfl rfl ?_
  have hQ : Sat w0 (blks [(b, .cells #[E_ib.k k, E_ib.v v, .pointer po, .pointer (some ⟨bc, 0, none⟩), x4, x5] 138 (0, 0))] * (tree E_ib po o * ((blks [(bc, .cells #[E_ib.k k', E_ib.v v', .pointer p1, .pointer p2, .int .i64 (1 + max c1.h c2.h), .int .i64 (1 + c1.m + c2.m)] 138 (0, 0))] * (tree E_ib p1 c1 * tree E_ib p2 c2)) * R))) w := hS.to (by simp only [blks]; ac_rfl)
  have hS_7 := hS
  refine O_call rfl rfl rfl rfl Try.call98 rfl (count_ib ht_ib ht_ib_at (by omega) hQ) (fun _ _ hv => ⟨CellAt.cell (by repeat (first | exact .here rfl | apply CellAt.there)) (Sat.i3 hv.2), trivial⟩) ?_
  rintro _ w ⟨rfl, hS⟩
  replace hS : Sat w0 (blks [(b, .cells #[E_ib.k k, E_ib.v v, .pointer po, .pointer (some ⟨bc, 0, none⟩), .int .i64 (1 + max o.h (1 + max c1.h c2.h)), .int .i64 (1 + o.m + (1 + c1.m + c2.m))] 138 (0, 0)), (bc, .cells #[E_ib.k k', E_ib.v v', .pointer p1, .pointer p2, .int .i64 (1 + max c1.h c2.h), .int .i64 (1 + c1.m + c2.m)] 138 (0, 0))] * (tree E_ib p1 c1 * (tree E_ib p2 c2 * (tree E_ib po o * R)))) w := hS.to (by simp only [blks]; ac_rfl)
  refine O_nilCheck rfl rfl rfl rfl rfl ?_
  refine O_fieldAddr rfl rfl rfl rfl rfl Try.runUnderlying138 rfl Try.sizeOf132 ?_
  refine O_storeS hS rfl rfl rfl rfl rfl rfl rfl Try.sizeOf132 (by repeat (first | exact .here rfl rfl | apply SetAt.there)) (fun w' hv => ⟨trivial, trivial⟩) ?_
  intro w hS
  refine O_nilCheck rfl rfl rfl rfl rfl ?_
  refine O_fieldAddr rfl rfl rfl rfl rfl Try.runUnderlying138 rfl Try.sizeOf132 ?_
  refine O_storeS hS rfl rfl rfl rfl rfl rfl rfl Try.sizeOf132 (by repeat (first | exact .here rfl rfl | apply SetAt.there)) (fun w' hv => ⟨trivial, trivial⟩) ?_
  intro w hS
  refine R_nil ?_
  refine tn ?_
  refine F_seq ?_
  refine F_region (p := ⟨_, [0, 2], []⟩) rfl [0, 1] rfl ?_
  refine O_move rfl rfl rfl rfl rfl ?_
  replace hS : Sat w0 (blks [(b, .cells #[E_ib.k k, E_ib.v v, .pointer po, .pointer p1, .int .i64 (1 + max o.h (1 + max c1.h c2.h)), .int .i64 (1 + o.m + (1 + c1.m + c2.m))] 138 (0, 0)), (bc, .cells #[E_ib.k k', E_ib.v v', .pointer (some ⟨b, 0, none⟩), .pointer p2, .int .i64 (1 + max c1.h c2.h), .int .i64 (1 + c1.m + c2.m)] 138 (0, 0))] * (tree E_ib p1 c1 * (tree E_ib p2 c2 * (tree E_ib po o * R)))) w := hS
  replace hS : Sat w0 (blks [(b, .cells #[E_ib.k k, E_ib.v v, .pointer po, .pointer p1, .int .i64 (1 + max o.h (1 + max c1.h c2.h)), .int .i64 (1 + o.m + (1 + c1.m + c2.m))] 138 (0, 0))] * (tree E_ib po o * (tree E_ib p1 c1 * (blks [(bc, .cells #[E_ib.k k', E_ib.v v', .pointer (some ⟨b, 0, none⟩), .pointer p2, .int .i64 (1 + max c1.h c2.h), .int .i64 (1 + c1.m + c2.m)] 138 (0, 0))] * (tree E_ib p2 c2 * R))))) w := hS.to (by simp only [blks]; ac_rfl)
  refine O_call rfl rfl rfl rfl Try.call98 rfl (count_ib ht_ib ht_ib (by omega) hS) (fun _ _ hv => trivial) ?_
  rintro _ w ⟨rfl, hS⟩
  replace hS : Sat w0 (blks [(bc, .cells #[E_ib.k k', E_ib.v v', .pointer (some ⟨b, 0, none⟩), .pointer p2, .int .i64 (1 + max c1.h c2.h), .int .i64 (1 + c1.m + c2.m)] 138 (0, 0))] * ((blks [(b, .cells #[E_ib.k k, E_ib.v v, .pointer po, .pointer p1, .int .i64 (1 + max o.h c1.h), .int .i64 (1 + o.m + c1.m)] 138 (0, 0))] * (tree E_ib po o * tree E_ib p1 c1)) * (tree E_ib p2 c2 * R))) w := hS.to (by simp only [blks]; ac_rfl)
  refine R_nil ?_
  refine tn ?_
  refine F_seq ?_
  refine F_region (p := ⟨_, [0, 2, 0], []⟩) rfl [0, 1, 2] rfl ?_
  refine O_move rfl rfl rfl rfl rfl ?_
  refine O_call rfl rfl rfl rfl Try.call98 rfl (count_ib ht_ib_at ht_ib (by omega) hS) (fun _ _ hv => trivial) ?_
  rintro _ w ⟨rfl, hS⟩
  refine O_assign rfl rfl rfl rfl rfl ?_
  refine R_nil ?_
  refine tn ?_
  refine F_ret ?_
  show endF _ _ _ _ _ _
  refine end0 trivial rfl rfl rfl hS ?_
  intro w hS
  have hq : Sat w0 (blks [(b, .cells #[E_ib.k k, E_ib.v v, .pointer po, .pointer p1, .int .i64 (1 + max o.h c1.h), .int .i64 (1 + o.m + c1.m)] 138 (0, 0))] * (tree E_ib po o * (tree E_ib p1 c1 * (blks [(bc, .cells #[E_ib.k k', E_ib.v v', .pointer (some ⟨b, 0, none⟩), .pointer p2, .int .i64 (1 + max (1 + max o.h c1.h) c2.h), .int .i64 (1 + (1 + o.m + c1.m) + c2.m)] 138 (0, 0))] * (tree E_ib p2 c2 * R))))) w := hS.to (by simp only [blks]; ac_rfl)
  have hq := tree_node_mk rfl rfl hq
  replace hq : Sat w0 (blks [(bc, .cells #[E_ib.k k', E_ib.v v', .pointer (some ⟨b, 0, none⟩), .pointer p2, .int .i64 (1 + max (1 + max o.h c1.h) c2.h), .int .i64 (1 + (1 + o.m + c1.m) + c2.m)] 138 (0, 0))] * (tree E_ib (some ⟨b, 0, none⟩) (.node o k v c1) * (tree E_ib p2 c2 * R))) w := hq.to (by ac_rfl)
  exact ⟨_, rfl, tree_node_mk rfl rfl hq⟩
theorem even_ib {w0 w : World} {R : HProp} {b : Nat} {pl pr : Option Addr} {k : _} {v : _} {x4 x5 : Value} {l r : T _ _} (hm : l.m + r.m ≤ 4611686018427380000)
    (hS : Sat w0 (blks [(b, .cells #[E_ib.k k, E_ib.v v, .pointer pl, .pointer pr, x4, x5] 138 (0, 0))] * (tree E_ib pl l * (tree E_ib pr r * R))) w) :
    Calls Try.prog 99 #[.pointer (some ⟨b, 0, none⟩)] w (ret fun u w' => ∃ p' t', u = .pointer p' ∧ t'.toList = l.toList ++ (k, v) :: r.toList ∧ Sat w0 (tree E_ib p' t' * R) w') := by
  have d1 := l.bd
  have d2 := r.bd
  by_cases cL : 1 < l.h - r.h
  · obtain ⟨c1, k', v', c2, rfl⟩ := T.h0 (t := l) (by omega)
    have d3 := c1.bd
    have d4 := c2.bd
    simp only [T.h, T.m] at cL d1 d2 hm
    obtain ⟨bc, p1, p2, rfl, hS⟩ := tree_node hS.b2
    replace hS : Sat w0 (blks [(b, .cells #[E_ib.k k, E_ib.v v, .pointer (some ⟨bc, 0, none⟩), .pointer pr, x4, x5] 138 (0, 0)), (bc, .cells #[E_ib.k k', E_ib.v v', .pointer p1, .pointer p2, .int .i64 (1 + max c1.h c2.h), .int .i64 (1 + c1.m + c2.m)] 138 (0, 0))] * (tree E_ib p1 c1 * (tree E_ib p2 c2 * (tree E_ib pr r * R)))) w := hS.to (by simp only [blks]; ac_rfl)
    by_cases cd : c1.h < c2.h
    · obtain ⟨d1', k2, v2, d2', rfl⟩ := T.h0 (t := c2) (by omega)
      refine enterF (args := [_]) Try.func99 rfl Try.ntmps99 rfl rfl ?_
      refine F_seq ?_
      refine F_region (p := ⟨_, [0], []⟩) rfl [0] rfl ?_
      refine O_assign rfl rfl rfl rfl rfl ?_
      refine R_nil ?_
      refine tn ?_
      refine F_seq ?_
      refine F_seq ?_
      refine F_drawnS hS (by kernel_rfl) (p := ⟨_, [0, 0, 0, 1, 2, 0, 0, 0, 1, 2, 0, 0], [(4, 8)]⟩) rfl (.ofList [0, 1, 2, 3, 4, 5, 6, 7, 8, 9, 10, 11]) (by kernel_rfl) ?_
      intro w hS
      refine O_move rfl rfl rfl rfl rfl ?_
      refine O_nilCheck rfl rfl rfl rfl rfl ?_
      refine O_fieldAddr rfl rfl rfl rfl rfl Try.runUnderlying138 rfl Try.sizeOf132 ?_
      refine O_loadS hS rfl rfl rfl rfl rfl Try.isAgg132 (by repeat (first | exact .here rfl | apply CellAt.there)) (by trivial) ?_
      have hQ : Sat w0 ((blks [(bc, .cells #[E_ib.k k', E_ib.v v', .pointer p1, .pointer p2, .int .i64 (1 + max c1.h (T.node d1' k2 v2 d2').h), .int .i64 (1 + c1.m + (T.node d1' k2 v2 d2').m)] 138 (0, 0))] * (tree E_ib p1 c1 * tree E_ib p2 (T.node d1' k2 v2 d2'))) * (blks [(b, .cells #[E_ib.k k, E_ib.v v, .pointer (some ⟨bc, 0, none⟩), .pointer pr, x4, x5] 138 (0, 0))] * (tree E_ib pr r * R))) w := hS.to (by simp only [blks]; ac_rfl)
      have hS_4 := hS
      refine O_call rfl rfl rfl rfl Try.call108 rfl ((ht_ib_at _ _ _ hQ).1) (fun _ _ hv => trivial) ?_
      rintro _ w ⟨rfl, hS⟩
      replace hS : Sat w0 (blks [(b, .cells #[E_ib.k k, E_ib.v v, .pointer (some ⟨bc, 0, none⟩), .pointer pr, x4, x5] 138 (0, 0)), (bc, .cells #[E_ib.k k', E_ib.v v', .pointer p1, .pointer p2, .int .i64 (1 + max c1.h (T.node d1' k2 v2 d2').h), .int .i64 (1 + c1.m + (T.node d1' k2 v2 d2').m)] 138 (0, 0))] * (tree E_ib p1 c1 * (tree E_ib p2 (T.node d1' k2 v2 d2') * (tree E_ib pr r * R)))) w := hS.to (by simp only [blks]; ac_rfl)
      refine O_move rfl rfl rfl rfl rfl ?_
      refine O_nilCheck rfl rfl rfl rfl rfl ?_
      refine O_fieldAddr rfl rfl rfl rfl rfl Try.runUnderlying138 rfl Try.sizeOf132 ?_
      refine O_loadS hS rfl rfl rfl rfl rfl Try.isAgg132 (by repeat (first | exact .here rfl | apply CellAt.there)) (by exact ⟨CellAt.cell (by repeat (first | exact .here rfl | apply CellAt.there)) hS_4, trivial⟩) ?_
      have hQ : Sat w0 (tree E_ib pr r * (blks [(b, .cells #[E_ib.k k, E_ib.v v, .pointer (some ⟨bc, 0, none⟩), .pointer pr, x4, x5] 138 (0, 0))] * ((blks [(bc, .cells #[E_ib.k k', E_ib.v v', .pointer p1, .pointer p2, .int .i64 (1 + max c1.h (T.node d1' k2 v2 d2').h), .int .i64 (1 + c1.m + (T.node d1' k2 v2 d2').m)] 138 (0, 0))] * (tree E_ib p1 c1 * tree E_ib p2 (T.node d1' k2 v2 d2'))) * R))) w := hS.to (by simp only [blks]; ac_rfl)
      refine O_call rfl rfl rfl rfl Try.call108 rfl ((ht_ib _ _ _ hQ).1) (fun _ _ hv => ⟨trivial, trivial⟩) ?_
      rintro _ w ⟨rfl, hS⟩
      replace hS : Sat w0 (blks [(b, .cells #[E_ib.k k, E_ib.v v, .pointer (some ⟨bc, 0, none⟩), .pointer pr, x4, x5] 138 (0, 0)), (bc, .cells #[E_ib.k k', E_ib.v v', .pointer p1, .pointer p2, .int .i64 (1 + max c1.h (T.node d1' k2 v2 d2').h), .int .i64 (1 + c1.m + (T.node d1' k2 v2 d2').m)] 138 (0, 0))] * (tree E_ib p1 c1 * (tree E_ib p2 (T.node d1' k2 v2 d2') * (tree E_ib pr r * R)))) w := hS.to (by simp only [blks]; ac_rfl)
      refine O_subN rfl rfl rfl rfl rfl rfl (by first | omega | (dsimp only; omega)) ?_
      refine O_assign rfl rfl rfl rfl rfl ?_
      refine R_nil ?_
      refine tn ?_
      refine F_block ?_
      refine F_seq ?_
      refine F_region (p := ⟨_, [0, 0, 0], []⟩) rfl [0, 1, 2] rfl ?_
      refine O_move rfl rfl rfl rfl rfl ?_
      refine O_cmp rfl rfl rfl rfl rfl rfl rfl ?_
      refine O_assign rfl rfl rfl rfl rfl ?_
      refine R_nil ?_
      refine tn ?_
      refine F_true rfl (decide_eq_true (by omega)) ?_
      refine F_seq ?_
      refine F_seq ?_
      refine F_drawnS hS (by kernel_rfl) (p := ⟨_, [0, 0, 0, 1, 0, 0, 1, 2, 0, 0, 0, 1, 0, 0, 1, 2, 0], [(7, 11), (7, 14)]⟩) rfl (.ofList [0, 1, 2, 3, 4, 5, 6, 7, 8, 9, 10, 11, 12, 13, 14, 15, 16]) (by kernel_rfl) ?_
      intro w hS
      refine O_move rfl rfl rfl rfl rfl ?_
      refine O_nilCheck rfl rfl rfl rfl rfl ?_
      refine O_fieldAddr rfl rfl rfl rfl rfl Try.runUnderlying138 rfl Try.sizeOf132 ?_
      refine O_loadS hS rfl rfl rfl rfl rfl Try.isAgg132 (by repeat (first | exact .here rfl | apply CellAt.there)) (by trivial) ?_
      refine O_nilCheck rfl rfl rfl rfl rfl ?_
      refine O_fieldAddr rfl rfl rfl rfl rfl Try.runUnderlying138 rfl Try.sizeOf132 ?_
      refine O_loadS hS rfl rfl rfl rfl rfl Try.isAgg132 (by repeat (first | exact .here rfl | apply CellAt.there)) (by trivial) ?_
      have hQ : Sat w0 (tree E_ib p1 c1 * (blks [(b, .cells #[E_ib.k k, E_ib.v v, .pointer (some ⟨bc, 0, none⟩), .pointer pr, x4, x5] 138 (0, 0)), (bc, .cells #[E_ib.k k', E_ib.v v', .pointer p1, .pointer p2, .int .i64 (1 + max c1.h (T.node d1' k2 v2 d2').h), .int .i64 (1 + c1.m + (T.node d1' k2 v2 d2').m)] 138 (0, 0))] * (tree E_ib p2 (T.node d1' k2 v2 d2') * (tree E_ib pr r * R)))) w := hS.to (by simp only [blks]; ac_rfl)
      have hS_7 := hS
      refine O_call rfl rfl rfl rfl Try.call108 rfl ((ht_ib _ _ _ hQ).1) (fun _ _ hv => trivial) ?_
      rintro _ w ⟨rfl, hS⟩
      replace hS : Sat w0 (blks [(b, .cells #[E_ib.k k, E_ib.v v, .pointer (some ⟨bc, 0, none⟩), .pointer pr, x4, x5] 138 (0, 0)), (bc, .cells #[E_ib.k k', E_ib.v v', .pointer p1, .pointer p2, .int .i64 (1 + max c1.h (T.node d1' k2 v2 d2').h), .int .i64 (1 + c1.m + (T.node d1' k2 v2 d2').m)] 138 (0, 0))] * (tree E_ib p1 c1 * (tree E_ib p2 (T.node d1' k2 v2 d2') * (tree E_ib pr r * R)))) w := hS.to (by simp only [blks]; ac_rfl)
      refine O_move rfl rfl rfl rfl rfl ?_
      refine O_nilCheck rfl rfl rfl rfl rfl ?_
      refine O_fieldAddr rfl rfl rfl rfl rfl Try.runUnderlying138 rfl Try.sizeOf132 ?_
      refine O_loadS hS rfl rfl rfl rfl rfl Try.isAgg132 (by repeat (first | exact .here rfl | apply CellAt.there)) (by exact ⟨CellAt.cell (by repeat (first | exact .here rfl | apply CellAt.there)) hS_7, trivial⟩) ?_
      refine O_nilCheck rfl rfl rfl rfl rfl ?_
      refine O_fieldAddr rfl rfl rfl rfl rfl Try.runUnderlying138 rfl Try.sizeOf132 ?_
      refine O_loadS hS rfl rfl rfl rfl rfl Try.isAgg132 (by repeat (first | exact .here rfl | apply CellAt.there)) (by exact ⟨CellAt.cell (by repeat (first | exact .here rfl | apply CellAt.there)) hS_7, trivial⟩) ?_
      have hQ : Sat w0 (tree E_ib p2 (T.node d1' k2 v2 d2') * (blks [(b, .cells #[E_ib.k k, E_ib.v v, .pointer (some ⟨bc, 0, none⟩), .pointer pr, x4, x5] 138 (0, 0)), (bc, .cells #[E_ib.k k', E_ib.v v', .pointer p1, .pointer p2, .int .i64 (1 + max c1.h (T.node d1' k2 v2 d2').h), .int .i64 (1 + c1.m + (T.node d1' k2 v2 d2').m)] 138 (0, 0))] * (tree E_ib p1 c1 * (tree E_ib pr r * R)))) w := hS.to (by simp only [blks]; ac_rfl)
      refine O_call rfl rfl rfl rfl Try.call108 rfl ((ht_ib _ _ _ hQ).1) (fun _ _ hv => ⟨trivial, ⟨trivial, trivial⟩⟩) ?_
      rintro _ w ⟨rfl, hS⟩
      replace hS : Sat w0 (blks [(b, .cells #[E_ib.k k, E_ib.v v, .pointer (some ⟨bc, 0, none⟩), .pointer pr, x4, x5] 138 (0, 0)), (bc, .cells #[E_ib.k k', E_ib.v v', .pointer p1, .pointer p2, .int .i64 (1 + max c1.h (T.node d1' k2 v2 d2').h), .int .i64 (1 + c1.m + (T.node d1' k2 v2 d2').m)] 138 (0, 0))] * (tree E_ib p1 c1 * (tree E_ib p2 (T.node d1' k2 v2 d2') * (tree E_ib pr r * R)))) w := hS.to (by simp only [blks]; ac_rfl)
      refine O_cmp rfl rfl rfl rfl rfl rfl rfl ?_
      refine R_nil ?_
      refine tn ?_
      refine F_true rfl (decide_eq_true (by omega)) ?_
      refine F_region (p := ⟨_, [0, 0, 0, 0, 1, 2, 0, 0, 2], []⟩) rfl [0, 1, 2, 3, 4, 5, 6, 7, 8] rfl ?_
      refine O_move rfl rfl rfl rfl rfl ?_
      refine O_move rfl rfl rfl rfl rfl ?_
      refine O_nilCheck rfl rfl rfl rfl rfl ?_
      refine O_fieldAddr rfl rfl rfl rfl rfl Try.runUnderlying138 rfl Try.sizeOf132 ?_
      refine O_loadS hS rfl rfl rfl rfl rfl Try.isAgg132 (by repeat (first | exact .here rfl | apply CellAt.there)) (by trivial) ?_
      have hQ : Sat w0 (blks [(bc, .cells #[E_ib.k k', E_ib.v v', .pointer p1, .pointer p2, .int .i64 (1 + max c1.h (T.node d1' k2 v2 d2').h), .int .i64 (1 + c1.m + (T.node d1' k2 v2 d2').m)] 138 (0, 0))] * (tree E_ib p1 c1 * (tree E_ib p2 (T.node d1' k2 v2 d2') * ((blks [(b, .cells #[E_ib.k k, E_ib.v v, .pointer (some ⟨bc, 0, none⟩), .pointer pr, x4, x5] 138 (0, 0))] * tree E_ib pr r) * R)))) w := hS.to (by simp only [blks]; ac_rfl)
      refine O_call rfl rfl rfl rfl Try.call109 rfl (toLeft_ib (by simp only [T.m] at *; omega) hQ) (fun _ _ hv => trivial) ?_
      rintro _ w ⟨pn, rfl, hS⟩
      replace hS : Sat w0 (blks [(b, .cells #[E_ib.k k, E_ib.v v, .pointer (some ⟨bc, 0, none⟩), .pointer pr, x4, x5] 138 (0, 0))] * (tree E_ib pn (.node (.node c1 k' v' d1') k2 v2 d2') * (tree E_ib pr r * R))) w := hS.to (by simp only [blks]; ac_rfl)
      refine O_nilCheck rfl rfl rfl rfl rfl ?_
      refine O_fieldAddr rfl rfl rfl rfl rfl Try.runUnderlying138 rfl Try.sizeOf132 ?_
      refine O_storeS hS rfl rfl rfl rfl rfl rfl rfl Try.sizeOf132 (by repeat (first | exact .here rfl rfl | apply SetAt.there)) (fun w' hv => trivial) ?_
      intro w hS
      refine R_nil ?_
      refine tn ?_
      refine F_seq ?_
      refine F_region (p := ⟨_, [0, 2, 0], []⟩) rfl [0, 1, 2] rfl ?_
      refine O_move rfl rfl rfl rfl rfl ?_
      replace hS : Sat w0 (blks [(b, .cells #[E_ib.k k, E_ib.v v, .pointer pn, .pointer pr, x4, x5] 138 (0, 0))] * (tree E_ib pn (.node (.node c1 k' v' d1') k2 v2 d2') * (tree E_ib pr r * R))) w := hS
      refine O_call rfl rfl rfl rfl Try.call110 rfl (toRight_ib (by simp only [T.m] at *; omega) hS) (fun _ _ hv => trivial) ?_
      rintro _ w ⟨pe, rfl, hS⟩
      refine O_assign rfl rfl rfl rfl rfl ?_
      refine R_nil ?_
      refine tn ?_
      refine F_ret ?_
      refine br ?_
      refine tr ?_
      show endF _ _ _ _ _ _
      refine end0 trivial rfl rfl rfl hS ?_
      intro w hS
      exact ⟨_, _, rfl, by simp [T.toList, List.append_assoc], hS⟩
    ·
      refine enterF (args := [_]) Try.func99 rfl Try.ntmps99 rfl rfl ?_
      refine F_seq ?_
      refine F_region (p := ⟨_, [0], []⟩) rfl [0] rfl ?_
      refine O_assign rfl rfl rfl rfl rfl ?_
      refine R_nil ?_
      refine tn ?_
      refine F_seq ?_
      refine F_seq ?_
      refine F_drawnS hS (by kernel_rfl) (p := ⟨_, [0, 0, 0, 1, 2, 0, 0, 0, 1, 2, 0, 0], [(4, 8)]⟩) rfl (.ofList [0, 1, 2, 3, 4, 5, 6, 7, 8, 9, 10, 11]) (by kernel_rfl) ?_
      intro w hS
      refine O_move rfl rfl rfl rfl rfl ?_
      refine O_nilCheck rfl rfl rfl rfl rfl ?_
      refine O_fieldAddr rfl rfl rfl rfl rfl Try.runUnderlying138 rfl Try.sizeOf132 ?_
      refine O_loadS hS rfl rfl rfl rfl rfl Try.isAgg132 (by repeat (first | exact .here rfl | apply CellAt.there)) (by trivial) ?_
      have hQ : Sat w0 ((blks [(bc, .cells #[E_ib.k k', E_ib.v v', .pointer p1, .pointer p2, .int .i64 (1 + max c1.h c2.h), .int .i64 (1 + c1.m + c2.m)] 138 (0, 0))] * (tree E_ib p1 c1 * tree E_ib p2 c2)) * (blks [(b, .cells #[E_ib.k k, E_ib.v v, .pointer (some ⟨bc, 0, none⟩), .pointer pr, x4, x5] 138 (0, 0))] * (tree E_ib pr r * R))) w := hS.to (by simp only [blks]; ac_rfl)
      have hS_4 := hS
      refine O_call rfl rfl rfl rfl Try.call108 rfl ((ht_ib_at _ _ _ hQ).1) (fun _ _ hv => trivial) ?_
      rintro _ w ⟨rfl, hS⟩
      replace hS : Sat w0 (blks [(b, .cells #[E_ib.k k, E_ib.v v, .pointer (some ⟨bc, 0, none⟩), .pointer pr, x4, x5] 138 (0, 0)), (bc, .cells #[E_ib.k k', E_ib.v v', .pointer p1, .pointer p2, .int .i64 (1 + max c1.h c2.h), .int .i64 (1 + c1.m + c2.m)] 138 (0, 0))] * (tree E_ib p1 c1 * (tree E_ib p2 c2 * (tree E_ib pr r * R)))) w := hS.to (by simp only [blks]; ac_rfl)
      refine O_move rfl rfl rfl rfl rfl ?_
      refine O_nilCheck rfl rfl rfl rfl rfl ?_
      refine O_fieldAddr rfl rfl rfl rfl rfl Try.runUnderlying138 rfl Try.sizeOf132 ?_
      refine O_loadS hS rfl rfl rfl rfl rfl Try.isAgg132 (by repeat (first | exact .here rfl | apply CellAt.there)) (by exact ⟨CellAt.cell (by repeat (first | exact .here rfl | apply CellAt.there)) hS_4, trivial⟩) ?_
      have hQ : Sat w0 (tree E_ib pr r * (blks [(b, .cells #[E_ib.k k, E_ib.v v, .pointer (some ⟨bc, 0, none⟩), .pointer pr, x4, x5] 138 (0, 0))] * ((blks [(bc, .cells #[E_ib.k k', E_ib.v v', .pointer p1, .pointer p2, .int .i64 (1 + max c1.h c2.h), .int .i64 (1 + c1.m + c2.m)] 138 (0, 0))] * (tree E_ib p1 c1 * tree E_ib p2 c2)) * R))) w := hS.to (by simp only [blks]; ac_rfl)
      refine O_call rfl rfl rfl rfl Try.call108 rfl ((ht_ib _ _ _ hQ).1) (fun _ _ hv => ⟨trivial, trivial⟩) ?_
      rintro _ w ⟨rfl, hS⟩
      replace hS : Sat w0 (blks [(b, .cells #[E_ib.k k, E_ib.v v, .pointer (some ⟨bc, 0, none⟩), .pointer pr, x4, x5] 138 (0, 0)), (bc, .cells #[E_ib.k k', E_ib.v v', .pointer p1, .pointer p2, .int .i64 (1 + max c1.h c2.h), .int .i64 (1 + c1.m + c2.m)] 138 (0, 0))] * (tree E_ib p1 c1 * (tree E_ib p2 c2 * (tree E_ib pr r * R)))) w := hS.to (by simp only [blks]; ac_rfl)
      refine O_subN rfl rfl rfl rfl rfl rfl (by first | omega | (dsimp only; omega)) ?_
      refine O_assign rfl rfl rfl rfl rfl ?_
      refine R_nil ?_
      refine tn ?_
      refine F_block ?_
      refine F_seq ?_
      refine F_region (p := ⟨_, [0, 0, 0], []⟩) rfl [0, 1, 2] rfl ?_
      refine O_move rfl rfl rfl rfl rfl ?_
      refine O_cmp rfl rfl rfl rfl rfl rfl rfl ?_
      refine O_assign rfl rfl rfl rfl rfl ?_
      refine R_nil ?_
      refine tn ?_
      refine F_true rfl (decide_eq_true (by omega)) ?_
      refine F_seq ?_
      refine F_seq ?_
      refine F_drawnS hS (by kernel_rfl) (p := ⟨_, [0, 0, 0, 1, 0, 0, 1, 2, 0, 0, 0, 1, 0, 0, 1, 2, 0], [(7, 11), (7, 14)]⟩) rfl (.ofList [0, 1, 2, 3, 4, 5, 6, 7, 8, 9, 10, 11, 12, 13, 14, 15, 16]) (by kernel_rfl) ?_
      intro w hS
      refine O_move rfl rfl rfl rfl rfl ?_
      refine O_nilCheck rfl rfl rfl rfl rfl ?_
      refine O_fieldAddr rfl rfl rfl rfl rfl Try.runUnderlying138 rfl Try.sizeOf132 ?_
      refine O_loadS hS rfl rfl rfl rfl rfl Try.isAgg132 (by repeat (first | exact .here rfl | apply CellAt.there)) (by trivial) ?_
      refine O_nilCheck rfl rfl rfl rfl rfl ?_
      refine O_fieldAddr rfl rfl rfl rfl rfl Try.runUnderlying138 rfl Try.sizeOf132 ?_
      refine O_loadS hS rfl rfl rfl rfl rfl Try.isAgg132 (by repeat (first | exact .here rfl | apply CellAt.there)) (by trivial) ?_
      have hQ : Sat w0 (tree E_ib p1 c1 * (blks [(b, .cells #[E_ib.k k, E_ib.v v, .pointer (some ⟨bc, 0, none⟩), .pointer pr, x4, x5] 138 (0, 0)), (bc, .cells #[E_ib.k k', E_ib.v v', .pointer p1, .pointer p2, .int .i64 (1 + max c1.h c2.h), .int .i64 (1 + c1.m + c2.m)] 138 (0, 0))] * (tree E_ib p2 c2 * (tree E_ib pr r * R)))) w := hS.to (by simp only [blks]; ac_rfl)
      have hS_7 := hS
      refine O_call rfl rfl rfl rfl Try.call108 rfl ((ht_ib _ _ _ hQ).1) (fun _ _ hv => trivial) ?_
      rintro _ w ⟨rfl, hS⟩
      replace hS : Sat w0 (blks [(b, .cells #[E_ib.k k, E_ib.v v, .pointer (some ⟨bc, 0, none⟩), .pointer pr, x4, x5] 138 (0, 0)), (bc, .cells #[E_ib.k k', E_ib.v v', .pointer p1, .pointer p2, .int .i64 (1 + max c1.h c2.h), .int .i64 (1 + c1.m + c2.m)] 138 (0, 0))] * (tree E_ib p1 c1 * (tree E_ib p2 c2 * (tree E_ib pr r * R)))) w := hS.to (by simp only [blks]; ac_rfl)
      refine O_move rfl rfl rfl rfl rfl ?_
      refine O_nilCheck rfl rfl rfl rfl rfl ?_
      refine O_fieldAddr rfl rfl rfl rfl rfl Try.runUnderlying138 rfl Try.sizeOf132 ?_
      refine O_loadS hS rfl rfl rfl rfl rfl Try.isAgg132 (by repeat (first | exact .here rfl | apply CellAt.there)) (by exact ⟨CellAt.cell (by repeat (first | exact .here rfl | apply CellAt.there)) hS_7, trivial⟩) ?_
      refine O_nilCheck rfl rfl rfl rfl rfl ?_
      refine O_fieldAddr rfl rfl rfl rfl rfl Try.runUnderlying138 rfl Try.sizeOf132 ?_
      refine O_loadS hS rfl rfl rfl rfl rfl Try.isAgg132 (by repeat (first | exact .here rfl | apply CellAt.there)) (by exact ⟨CellAt.cell (by repeat (first | exact .here rfl | apply CellAt.there)) hS_7, trivial⟩) ?_
      have hQ : Sat w0 (tree E_ib p2 c2 * (blks [(b, .cells #[E_ib.k k, E_ib.v v, .pointer (some ⟨bc, 0, none⟩), .pointer pr, x4, x5] 138 (0, 0)), (bc, .cells #[E_ib.k k', E_ib.v v', .pointer p1, .pointer p2, .int .i64 (1 + max c1.h c2.h), .int .i64 (1 + c1.m + c2.m)] 138 (0, 0))] * (tree E_ib p1 c1 * (tree E_ib pr r * R)))) w := hS.to (by simp only [blks]; ac_rfl)
      refine O_call rfl rfl rfl rfl Try.call108 rfl ((ht_ib _ _ _ hQ).1) (fun _ _ hv => ⟨trivial, ⟨trivial, trivial⟩⟩) ?_
      rintro _ w ⟨rfl, hS⟩
      replace hS : Sat w0 (blks [(b, .cells #[E_ib.k k, E_ib.v v, .pointer (some ⟨bc, 0, none⟩), .pointer pr, x4, x5] 138 (0, 0)), (bc, .cells #[E_ib.k k', E_ib.v v', .pointer p1, .pointer p2, .int .i64 (1 + max c1.h c2.h), .int .i64 (1 + c1.m + c2.m)] 138 (0, 0))] * (tree E_ib p1 c1 * (tree E_ib p2 c2 * (tree E_ib pr r * R)))) w := hS.to (by simp only [blks]; ac_rfl)
      refine O_cmp rfl rfl rfl rfl rfl rfl rfl ?_
      refine R_nil ?_
      refine tn ?_
      refine F_false rfl (decide_eq_false (by omega)) ?_
      refine F_skip ?_
      refine tn ?_
      refine F_seq ?_
      refine F_region (p := ⟨_, [0, 2, 0], []⟩) rfl [0, 1, 2] rfl ?_
      refine O_move rfl rfl rfl rfl rfl ?_
      have hQ : Sat w0 (blks [(bc, .cells #[E_ib.k k', E_ib.v v', .pointer p1, .pointer p2, .int .i64 (1 + max c1.h c2.h), .int .i64 (1 + c1.m + c2.m)] 138 (0, 0))] * (tree E_ib p1 c1 * (tree E_ib p2 c2 * ((blks [(b, .cells #[E_ib.k k, E_ib.v v, .pointer (some ⟨bc, 0, none⟩), .pointer pr, x4, x5] 138 (0, 0))] * tree E_ib pr r) * R)))) w := hS.to (by simp only [blks]; ac_rfl)
      replace hQ := tree_node_mk rfl rfl hQ
      replace hQ : Sat w0 (blks [(b, .cells #[E_ib.k k, E_ib.v v, .pointer (some ⟨bc, 0, none⟩), .pointer pr, x4, x5] 138 (0, 0))] * (tree E_ib (some ⟨bc, 0, none⟩) (.node c1 k' v' c2) * (tree E_ib pr r * R))) w := hQ.to (by ac_rfl)
      refine O_call rfl rfl rfl rfl Try.call110 rfl (toRight_ib (by simp only [T.m] at *; omega) hQ) (fun _ _ hv => trivial) ?_
      rintro _ w ⟨pe, rfl, hS⟩
      refine O_assign rfl rfl rfl rfl rfl ?_
      refine R_nil ?_
      refine tn ?_
      refine F_ret ?_
      refine br ?_
      refine tr ?_
      show endF _ _ _ _ _ _
      refine end0 trivial rfl rfl rfl hS ?_
      intro w hS
      exact ⟨_, _, rfl, by simp [T.toList, List.append_assoc], hS⟩
  by_cases cR : l.h - r.h < -1
  · obtain ⟨c1, k', v', c2, rfl⟩ := T.h0 (t := r) (by omega)
    have d3 := c1.bd
    have d4 := c2.bd
    simp only [T.h, T.m] at cR d1 d2 hm cL
    obtain ⟨bc, p1, p2, rfl, hS⟩ := tree_node hS.b3
    replace hS : Sat w0 (blks [(b, .cells #[E_ib.k k, E_ib.v v, .pointer pl, .pointer (some ⟨bc, 0, none⟩), x4, x5] 138 (0, 0)), (bc, .cells #[E_ib.k k', E_ib.v v', .pointer p1, .pointer p2, .int .i64 (1 + max c1.h c2.h), .int .i64 (1 + c1.m + c2.m)] 138 (0, 0))] * (tree E_ib p1 c1 * (tree E_ib p2 c2 * (tree E_ib pl l * R)))) w := hS.to (by simp only [blks]; ac_rfl)
    by_cases cd : c2.h < c1.h
    · obtain ⟨d1', k2, v2, d2', rfl⟩ := T.h0 (t := c1) (by omega)
      refine enterF (args := [_]) Try.func99 rfl Try.ntmps99 rfl rfl ?_
      refine F_seq ?_
      refine F_region (p := ⟨_, [0], []⟩) rfl [0] rfl ?_
      refine O_assign rfl rfl rfl rfl rfl ?_
      refine R_nil ?_
      refine tn ?_
      refine F_seq ?_
      refine F_seq ?_
      refine F_drawnS hS (by kernel_rfl) (p := ⟨_, [0, 0, 0, 1, 2, 0, 0, 0, 1, 2, 0, 0], [(4, 8)]⟩) rfl (.ofList [0, 1, 2, 3, 4, 5, 6, 7, 8, 9, 10, 11]) (by kernel_rfl) ?_
      intro w hS
      refine O_move rfl rfl rfl rfl rfl ?_
      refine O_nilCheck rfl rfl rfl rfl rfl ?_
      refine O_fieldAddr rfl rfl rfl rfl rfl Try.runUnderlying138 rfl Try.sizeOf132 ?_
      refine O_loadS hS rfl rfl rfl rfl rfl Try.isAgg132 (by repeat (first | exact .here rfl | apply CellAt.there)) (by trivial) ?_
      have hQ : Sat w0 (tree E_ib pl l * (blks [(b, .cells #[E_ib.k k, E_ib.v v, .pointer pl, .pointer (some ⟨bc, 0, none⟩), x4, x5] 138 (0, 0))] * ((blks [(bc, .cells #[E_ib.k k', E_ib.v v', .pointer p1, .pointer p2, .int .i64 (1 + max (T.node d1' k2 v2 d2').h c2.h), .int .i64 (1 + (T.node d1' k2 v2 d2').m + c2.m)] 138 (0, 0))] * (tree E_ib p1 (T.node d1' k2 v2 d2') * tree E_ib p2 c2)) * R))) w := hS.to (by simp only [blks]; ac_rfl)
      have hS_4 := hS
      refine O_call rfl rfl rfl rfl Try.call108 rfl ((ht_ib _ _ _ hQ).1) (fun _ _ hv => trivial) ?_
      rintro _ w ⟨rfl, hS⟩
      replace hS : Sat w0 (blks [(b, .cells #[E_ib.k k, E_ib.v v, .pointer pl, .pointer (some ⟨bc, 0, none⟩), x4, x5] 138 (0, 0)), (bc, .cells #[E_ib.k k', E_ib.v v', .pointer p1, .pointer p2, .int .i64 (1 + max (T.node d1' k2 v2 d2').h c2.h), .int .i64 (1 + (T.node d1' k2 v2 d2').m + c2.m)] 138 (0, 0))] * (tree E_ib p1 (T.node d1' k2 v2 d2') * (tree E_ib p2 c2 * (tree E_ib pl l * R)))) w := hS.to (by simp only [blks]; ac_rfl)
      refine O_move rfl rfl rfl rfl rfl ?_
      refine O_nilCheck rfl rfl rfl rfl rfl ?_
      refine O_fieldAddr rfl rfl rfl rfl rfl Try.runUnderlying138 rfl Try.sizeOf132 ?_
      refine O_loadS hS rfl rfl rfl rfl rfl Try.isAgg132 (by repeat (first | exact .here rfl | apply CellAt.there)) (by exact ⟨CellAt.cell (by repeat (first | exact .here rfl | apply CellAt.there)) hS_4, trivial⟩) ?_
      have hQ : Sat w0 ((blks [(bc, .cells #[E_ib.k k', E_ib.v v', .pointer p1, .pointer p2, .int .i64 (1 + max (T.node d1' k2 v2 d2').h c2.h), .int .i64 (1 + (T.node d1' k2 v2 d2').m + c2.m)] 138 (0, 0))] * (tree E_ib p1 (T.node d1' k2 v2 d2') * tree E_ib p2 c2)) * (blks [(b, .cells #[E_ib.k k, E_ib.v v, .pointer pl, .pointer (some ⟨bc, 0, none⟩), x4, x5] 138 (0, 0))] * (tree E_ib pl l * R))) w := hS.to (by simp only [blks]; ac_rfl)
      refine O_call rfl rfl rfl rfl Try.call108 rfl ((ht_ib_at _ _ _ hQ).1) (fun _ _ hv => ⟨trivial, trivial⟩) ?_
      rintro _ w ⟨rfl, hS⟩
      replace hS : Sat w0 (blks [(b, .cells #[E_ib.k k, E_ib.v v, .pointer pl, .pointer (some ⟨bc, 0, none⟩), x4, x5] 138 (0, 0)), (bc, .cells #[E_ib.k k', E_ib.v v', .pointer p1, .pointer p2, .int .i64 (1 + max (T.node d1' k2 v2 d2').h c2.h), .int .i64 (1 + (T.node d1' k2 v2 d2').m + c2.m)] 138 (0, 0))] * (tree E_ib p1 (T.node d1' k2 v2 d2') * (tree E_ib p2 c2 * (tree E_ib pl l * R)))) w := hS.to (by simp only [blks]; ac_rfl)
      refine O_subN rfl rfl rfl rfl rfl rfl (by first | omega | (dsimp only; omega)) ?_
      refine O_assign rfl rfl rfl rfl rfl ?_
      refine R_nil ?_
      refine tn ?_
      refine F_block ?_
      refine F_seq ?_
      refine F_region (p := ⟨_, [0, 0, 0], []⟩) rfl [0, 1, 2] rfl ?_
      refine O_move rfl rfl rfl rfl rfl ?_
      refine O_cmp rfl rfl rfl rfl rfl rfl rfl ?_
      refine O_assign rfl rfl rfl rfl rfl ?_
      refine R_nil ?_
      refine tn ?_
      refine F_false rfl (decide_eq_false (by omega)) ?_
      refine F_seq ?_
      refine F_region (p := ⟨_, [0, 0, 0], []⟩) rfl [0, 1, 2] rfl ?_
      refine O_move rfl rfl rfl rfl rfl ?_
      refine O_cmp rfl rfl rfl rfl rfl rfl rfl ?_
      refine O_assign rfl rfl rfl rfl rfl ?_
      refine R_nil ?_
      refine tn ?_
      refine F_true rfl (decide_eq_true (by omega)) ?_
      refine F_seq ?_
      refine F_seq ?_
      refine F_drawnS hS (by kernel_rfl) (p := ⟨_, [0, 0, 0, 1, 0, 0, 1, 2, 0, 0, 0, 1, 0, 0, 1, 2, 0], [(7, 11), (7, 14)]⟩) rfl (.ofList [0, 1, 2, 3, 4, 5, 6, 7, 8, 9, 10, 11, 12, 13, 14, 15, 16]) (by kernel_rfl) ?_
      intro w hS
      refine O_move rfl rfl rfl rfl rfl ?_
      refine O_nilCheck rfl rfl rfl rfl rfl ?_
      refine O_fieldAddr rfl rfl rfl rfl rfl Try.runUnderlying138 rfl Try.sizeOf132 ?_
      refine O_loadS hS rfl rfl rfl rfl rfl Try.isAgg132 (by repeat (first | exact .here rfl | apply CellAt.there)) (by trivial) ?_
      refine O_nilCheck rfl rfl rfl rfl rfl ?_
      refine O_fieldAddr rfl rfl rfl rfl rfl Try.runUnderlying138 rfl Try.sizeOf132 ?_
      refine O_loadS hS rfl rfl rfl rfl rfl Try.isAgg132 (by repeat (first | exact .here rfl | apply CellAt.there)) (by trivial) ?_
      have hQ : Sat w0 (tree E_ib p2 c2 * (blks [(b, .cells #[E_ib.k k, E_ib.v v, .pointer pl, .pointer (some ⟨bc, 0, none⟩), x4, x5] 138 (0, 0)), (bc, .cells #[E_ib.k k', E_ib.v v', .pointer p1, .pointer p2, .int .i64 (1 + max (T.node d1' k2 v2 d2').h c2.h), .int .i64 (1 + (T.node d1' k2 v2 d2').m + c2.m)] 138 (0, 0))] * (tree E_ib p1 (T.node d1' k2 v2 d2') * (tree E_ib pl l * R)))) w := hS.to (by simp only [blks]; ac_rfl)
      have hS_7 := hS
      refine O_call rfl rfl rfl rfl Try.call108 rfl ((ht_ib _ _ _ hQ).1) (fun _ _ hv => trivial) ?_
      rintro _ w ⟨rfl, hS⟩
      replace hS : Sat w0 (blks [(b, .cells #[E_ib.k k, E_ib.v v, .pointer pl, .pointer (some ⟨bc, 0, none⟩), x4, x5] 138 (0, 0)), (bc, .cells #[E_ib.k k', E_ib.v v', .pointer p1, .pointer p2, .int .i64 (1 + max (T.node d1' k2 v2 d2').h c2.h), .int .i64 (1 + (T.node d1' k2 v2 d2').m + c2.m)] 138 (0, 0))] * (tree E_ib p1 (T.node d1' k2 v2 d2') * (tree E_ib p2 c2 * (tree E_ib pl l * R)))) w := hS.to (by simp only [blks]; ac_rfl)
      refine O_move rfl rfl rfl rfl rfl ?_
      refine O_nilCheck rfl rfl rfl rfl rfl ?_
      refine O_fieldAddr rfl rfl rfl rfl rfl Try.runUnderlying138 rfl Try.sizeOf132 ?_
      refine O_loadS hS rfl rfl rfl rfl rfl Try.isAgg132 (by repeat (first | exact .here rfl | apply CellAt.there)) (by exact ⟨CellAt.cell (by repeat (first | exact .here rfl | apply CellAt.there)) hS_7, trivial⟩) ?_
      refine O_nilCheck rfl rfl rfl rfl rfl ?_
      refine O_fieldAddr rfl rfl rfl rfl rfl Try.runUnderlying138 rfl Try.sizeOf132 ?_
      refine O_loadS hS rfl rfl rfl rfl rfl Try.isAgg132 (by repeat (first | exact .here rfl | apply CellAt.there)) (by exact ⟨CellAt.cell (by repeat (first | exact .here rfl | apply CellAt.there)) hS_7, trivial⟩) ?_
      have hQ : Sat w0 (tree E_ib p1 (T.node d1' k2 v2 d2') * (blks [(b, .cells #[E_ib.k k, E_ib.v v, .pointer pl, .pointer (some ⟨bc, 0, none⟩), x4, x5] 138 (0, 0)), (bc, .cells #[E_ib.k k', E_ib.v v', .pointer p1, .pointer p2, .int .i64 (1 + max (T.node d1' k2 v2 d2').h c2.h), .int .i64 (1 + (T.node d1' k2 v2 d2').m + c2.m)] 138 (0, 0))] * (tree E_ib p2 c2 * (tree E_ib pl l * R)))) w := hS.to (by simp only [blks]; ac_rfl)
      refine O_call rfl rfl rfl rfl Try.call108 rfl ((ht_ib _ _ _ hQ).1) (fun _ _ hv => ⟨trivial, ⟨trivial, trivial⟩⟩) ?_
      rintro _ w ⟨rfl, hS⟩
      replace hS : Sat w0 (blks [(b, .cells #[E_ib.k k, E_ib.v v, .pointer pl, .pointer (some ⟨bc, 0, none⟩), x4, x5] 138 (0, 0)), (bc, .cells #[E_ib.k k', E_ib.v v', .pointer p1, .pointer p2, .int .i64 (1 + max (T.node d1' k2 v2 d2').h c2.h), .int .i64 (1 + (T.node d1' k2 v2 d2').m + c2.m)] 138 (0, 0))] * (tree E_ib p1 (T.node d1' k2 v2 d2') * (tree E_ib p2 c2 * (tree E_ib pl l * R)))) w := hS.to (by simp only [blks]; ac_rfl)
      refine O_cmp rfl rfl rfl rfl rfl rfl rfl ?_
      refine R_nil ?_
      refine tn ?_
      refine F_true rfl (decide_eq_true (by omega)) ?_
      refine F_region (p := ⟨_, [0, 0, 0, 0, 1, 2, 0, 0, 2], []⟩) rfl [0, 1, 2, 3, 4, 5, 6, 7, 8] rfl ?_
      refine O_move rfl rfl rfl rfl rfl ?_
      refine O_move rfl rfl rfl rfl rfl ?_
      refine O_nilCheck rfl rfl rfl rfl rfl ?_
      refine O_fieldAddr rfl rfl rfl rfl rfl Try.runUnderlying138 rfl Try.sizeOf132 ?_
      refine O_loadS hS rfl rfl rfl rfl rfl Try.isAgg132 (by repeat (first | exact .here rfl | apply CellAt.there)) (by trivial) ?_
      have hQ : Sat w0 (blks [(bc, .cells #[E_ib.k k', E_ib.v v', .pointer p1, .pointer p2, .int .i64 (1 + max (T.node d1' k2 v2 d2').h c2.h), .int .i64 (1 + (T.node d1' k2 v2 d2').m + c2.m)] 138 (0, 0))] * (tree E_ib p1 (T.node d1' k2 v2 d2') * (tree E_ib p2 c2 * ((blks [(b, .cells #[E_ib.k k, E_ib.v v, .pointer pl, .pointer (some ⟨bc, 0, none⟩), x4, x5] 138 (0, 0))] * tree E_ib pl l) * R)))) w := hS.to (by simp only [blks]; ac_rfl)
      refine O_call rfl rfl rfl rfl Try.call110 rfl (toRight_ib (by simp only [T.m] at *; omega) hQ) (fun _ _ hv => trivial) ?_
      rintro _ w ⟨pn, rfl, hS⟩
      replace hS : Sat w0 (blks [(b, .cells #[E_ib.k k, E_ib.v v, .pointer pl, .pointer (some ⟨bc, 0, none⟩), x4, x5] 138 (0, 0))] * (tree E_ib pn (.node d1' k2 v2 (.node d2' k' v' c2)) * (tree E_ib pl l * R))) w := hS.to (by simp only [blks]; ac_rfl)
      refine O_nilCheck rfl rfl rfl rfl rfl ?_
      refine O_fieldAddr rfl rfl rfl rfl rfl Try.runUnderlying138 rfl Try.sizeOf132 ?_
      refine O_storeS hS rfl rfl rfl rfl rfl rfl rfl Try.sizeOf132 (by repeat (first | exact .here rfl rfl | apply SetAt.there)) (fun w' hv => trivial) ?_
      intro w hS
      refine R_nil ?_
      refine tn ?_
      refine F_seq ?_
      refine F_region (p := ⟨_, [0, 2, 0], []⟩) rfl [0, 1, 2] rfl ?_
      refine O_move rfl rfl rfl rfl rfl ?_
      replace hS : Sat w0 (blks [(b, .cells #[E_ib.k k, E_ib.v v, .pointer pl, .pointer pn, x4, x5] 138 (0, 0))] * (tree E_ib pn (.node d1' k2 v2 (.node d2' k' v' c2)) * (tree E_ib pl l * R))) w := hS
      replace hS : Sat w0 (blks [(b, .cells #[E_ib.k k, E_ib.v v, .pointer pl, .pointer pn, x4, x5] 138 (0, 0))] * (tree E_ib pl l * (tree E_ib pn (.node d1' k2 v2 (.node d2' k' v' c2)) * R))) w := hS.to (by simp only [blks]; ac_rfl)
      refine O_call rfl rfl rfl rfl Try.call109 rfl (toLeft_ib (by simp only [T.m] at *; omega) hS) (fun _ _ hv => trivial) ?_
      rintro _ w ⟨pe, rfl, hS⟩
      refine O_assign rfl rfl rfl rfl rfl ?_
      refine R_nil ?_
      refine tn ?_
      refine F_ret ?_
      refine br ?_
      refine tr ?_
      show endF _ _ _ _ _ _
      refine end0 trivial rfl rfl rfl hS ?_
      intro w hS
      exact ⟨_, _, rfl, by simp [T.toList, List.append_assoc], hS⟩
    ·
      refine enterF (args := [_]) Try.func99 rfl Try.ntmps99 rfl rfl ?_
      refine F_seq ?_
      refine F_region (p := ⟨_, [0], []⟩) rfl [0] rfl ?_
      refine O_assign rfl rfl rfl rfl rfl ?_
      refine R_nil ?_
      refine tn ?_
      refine F_seq ?_
      refine F_seq ?_
      refine F_drawnS hS (by kernel_rfl) (p := ⟨_, [0, 0, 0, 1, 2, 0, 0, 0, 1, 2, 0, 0], [(4, 8)]⟩) rfl (.ofList [0, 1, 2, 3, 4, 5, 6, 7, 8, 9, 10, 11]) (by kernel_rfl) ?_
      intro w hS
      refine O_move rfl rfl rfl rfl rfl ?_
      refine O_nilCheck rfl rfl rfl rfl rfl ?_
      refine O_fieldAddr rfl rfl rfl rfl rfl Try.runUnderlying138 rfl Try.sizeOf132 ?_
      refine O_loadS hS rfl rfl rfl rfl rfl Try.isAgg132 (by repeat (first | exact .here rfl | apply CellAt.there)) (by trivial) ?_
      have hQ : Sat w0 (tree E_ib pl l * (blks [(b, .cells #[E_ib.k k, E_ib.v v, .pointer pl, .pointer (some ⟨bc, 0, none⟩), x4, x5] 138 (0, 0))] * ((blks [(bc, .cells #[E_ib.k k', E_ib.v v', .pointer p1, .pointer p2, .int .i64 (1 + max c1.h c2.h), .int .i64 (1 + c1.m + c2.m)] 138 (0, 0))] * (tree E_ib p1 c1 * tree E_ib p2 c2)) * R))) w := hS.to (by simp only [blks]; ac_rfl)
      have hS_4 := hS
      refine O_call rfl rfl rfl rfl Try.call108 rfl ((ht_ib _ _ _ hQ).1) (fun _ _ hv => trivial) ?_
      rintro _ w ⟨rfl, hS⟩
      replace hS : Sat w0 (blks [(b, .cells #[E_ib.k k, E_ib.v v, .pointer pl, .pointer (some ⟨bc, 0, none⟩), x4, x5] 138 (0, 0)), (bc, .cells #[E_ib.k k', E_ib.v v', .pointer p1, .pointer p2, .int .i64 (1 + max c1.h c2.h), .int .i64 (1 + c1.m + c2.m)] 138 (0, 0))] * (tree E_ib p1 c1 * (tree E_ib p2 c2 * (tree E_ib pl l * R)))) w := hS.to (by simp only [blks]; ac_rfl)
      refine O_move rfl rfl rfl rfl rfl ?_
      refine O_nilCheck rfl rfl rfl rfl rfl ?_
      refine O_fieldAddr rfl rfl rfl rfl rfl Try.runUnderlying138 rfl Try.sizeOf132 ?_
      refine O_loadS hS rfl rfl rfl rfl rfl Try.isAgg132 (by repeat (first | exact .here rfl | apply CellAt.there)) (by exact ⟨CellAt.cell (by repeat (first | exact .here rfl | apply CellAt.there)) hS_4, trivial⟩) ?_
      have hQ : Sat w0 ((blks [(bc, .cells #[E_ib.k k', E_ib.v v', .pointer p1, .pointer p2, .int .i64 (1 + max c1.h c2.h), .int .i64 (1 + c1.m + c2.m)] 138 (0, 0))] * (tree E_ib p1 c1 * tree E_ib p2 c2)) * (blks [(b, .cells #[E_ib.k k, E_ib.v v, .pointer pl, .pointer (some ⟨bc, 0, none⟩), x4, x5] 138 (0, 0))] * (tree E_ib pl l * R))) w := hS.to (by simp only [blks]; ac_rfl)
      refine O_call rfl rfl rfl rfl Try.call108 rfl ((ht_ib_at _ _ _ hQ).1) (fun _ _ hv => ⟨trivial, trivial⟩) ?_
      rintro _ w ⟨rfl, hS⟩
      replace hS : Sat w0 (blks [(b, .cells #[E_ib.k k, E_ib.v v, .pointer pl, .pointer (some ⟨bc, 0, none⟩), x4, x5] 138 (0, 0)), (bc, .cells #[E_ib.k k', E_ib.v v', .pointer p1, .pointer p2, .int .i64 (1 + max c1.h c2.h), .int .i64 (1 + c1.m + c2.m)] 138 (0, 0))] * (tree E_ib p1 c1 * (tree E_ib p2 c2 * (tree E_ib pl l * R)))) w := hS.to (by simp only [blks]; ac_rfl)
      refine O_subN rfl rfl rfl rfl rfl rfl (by first | omega | (dsimp only; omega)) ?_
      refine O_assign rfl rfl rfl rfl rfl ?_
      refine R_nil ?_
      refine tn ?_
      refine F_block ?_
      refine F_seq ?_
      refine F_region (p := ⟨_, [0, 0, 0], []⟩) rfl [0, 1, 2] rfl ?_
      refine O_move rfl rfl rfl rfl rfl ?_
      refine O_cmp rfl rfl rfl rfl rfl rfl rfl ?_
      refine O_assign rfl rfl rfl rfl rfl ?_
      refine R_nil ?_
      refine tn ?_
      refine F_false rfl (decide_eq_false (by omega)) ?_
      refine F_seq ?_
      refine F_region (p := ⟨_, [0, 0, 0], []⟩) rfl [0, 1, 2] rfl ?_
      refine O_move rfl rfl rfl rfl rfl ?_
      refine O_cmp rfl rfl rfl rfl rfl rfl rfl ?_
      refine O_assign rfl rfl rfl rfl rfl ?_
      refine R_nil ?_
      refine tn ?_
      refine F_true rfl (decide_eq_true (by omega)) ?_
      refine F_seq ?_
      refine F_seq ?_
      refine F_drawnS hS (by kernel_rfl) (p := ⟨_, [0, 0, 0, 1, 0, 0, 1, 2, 0, 0, 0, 1, 0, 0, 1, 2, 0], [(7, 11), (7, 14)]⟩) rfl (.ofList [0, 1, 2, 3, 4, 5, 6, 7, 8, 9, 10, 11, 12, 13, 14, 15, 16]) (by kernel_rfl) ?_
      intro w hS
      refine O_move rfl rfl rfl rfl rfl ?_
      refine O_nilCheck rfl rfl rfl rfl rfl ?_
      refine O_fieldAddr rfl rfl rfl rfl rfl Try.runUnderlying138 rfl Try.sizeOf132 ?_
      refine O_loadS hS rfl rfl rfl rfl rfl Try.isAgg132 (by repeat (first | exact .here rfl | apply CellAt.there)) (by trivial) ?_
      refine O_nilCheck rfl rfl rfl rfl rfl ?_
      refine O_fieldAddr rfl rfl rfl rfl rfl Try.runUnderlying138 rfl Try.sizeOf132 ?_
      refine O_loadS hS rfl rfl rfl rfl rfl Try.isAgg132 (by repeat (first | exact .here rfl | apply CellAt.there)) (by trivial) ?_
      have hQ : Sat w0 (tree E_ib p2 c2 * (blks [(b, .cells #[E_ib.k k, E_ib.v v, .pointer pl, .pointer (some ⟨bc, 0, none⟩), x4, x5] 138 (0, 0)), (bc, .cells #[E_ib.k k', E_ib.v v', .pointer p1, .pointer p2, .int .i64 (1 + max c1.h c2.h), .int .i64 (1 + c1.m + c2.m)] 138 (0, 0))] * (tree E_ib p1 c1 * (tree E_ib pl l * R)))) w := hS.to (by simp only [blks]; ac_rfl)
      have hS_7 := hS
      refine O_call rfl rfl rfl rfl Try.call108 rfl ((ht_ib _ _ _ hQ).1) (fun _ _ hv => trivial) ?_
      rintro _ w ⟨rfl, hS⟩
      replace hS : Sat w0 (blks [(b, .cells #[E_ib.k k, E_ib.v v, .pointer pl, .pointer (some ⟨bc, 0, none⟩), x4, x5] 138 (0, 0)), (bc, .cells #[E_ib.k k', E_ib.v v', .pointer p1, .pointer p2, .int .i64 (1 + max c1.h c2.h), .int .i64 (1 + c1.m + c2.m)] 138 (0, 0))] * (tree E_ib p1 c1 * (tree E_ib p2 c2 * (tree E_ib pl l * R)))) w := hS.to (by simp only [blks]; ac_rfl)
      refine O_move rfl rfl rfl rfl rfl ?_
      refine O_nilCheck rfl rfl rfl rfl rfl ?_
      refine O_fieldAddr rfl rfl rfl rfl rfl Try.runUnderlying138 rfl Try.sizeOf132 ?_
      refine O_loadS hS rfl rfl rfl rfl rfl Try.isAgg132 (by repeat (first | exact .here rfl | apply CellAt.there)) (by exact ⟨CellAt.cell (by repeat (first | exact .here rfl | apply CellAt.there)) hS_7, trivial⟩) ?_
      refine O_nilCheck rfl rfl rfl rfl rfl ?_
      refine O_fieldAddr rfl rfl rfl rfl rfl Try.runUnderlying138 rfl Try.sizeOf132 ?_
      refine O_loadS hS rfl rfl rfl rfl rfl Try.isAgg132 (by repeat (first | exact .here rfl | apply CellAt.there)) (by exact ⟨CellAt.cell (by repeat (first | exact .here rfl | apply CellAt.there)) hS_7, trivial⟩) ?_
      have hQ : Sat w0 (tree E_ib p1 c1 * (blks [(b, .cells #[E_ib.k k, E_ib.v v, .pointer pl, .pointer (some ⟨bc, 0, none⟩), x4, x5] 138 (0, 0)), (bc, .cells #[E_ib.k k', E_ib.v v', .pointer p1, .pointer p2, .int .i64 (1 + max c1.h c2.h), .int .i64 (1 + c1.m + c2.m)] 138 (0, 0))] * (tree E_ib p2 c2 * (tree E_ib pl l * R)))) w := hS.to (by simp only [blks]; ac_rfl)
      refine O_call rfl rfl rfl rfl Try.call108 rfl ((ht_ib _ _ _ hQ).1) (fun _ _ hv => ⟨trivial, ⟨trivial, trivial⟩⟩) ?_
      rintro _ w ⟨rfl, hS⟩
      replace hS : Sat w0 (blks [(b, .cells #[E_ib.k k, E_ib.v v, .pointer pl, .pointer (some ⟨bc, 0, none⟩), x4, x5] 138 (0, 0)), (bc, .cells #[E_ib.k k', E_ib.v v', .pointer p1, .pointer p2, .int .i64 (1 + max c1.h c2.h), .int .i64 (1 + c1.m + c2.m)] 138 (0, 0))] * (tree E_ib p1 c1 * (tree E_ib p2 c2 * (tree E_ib pl l * R)))) w := hS.to (by simp only [blks]; ac_rfl)
      refine O_cmp rfl rfl rfl rfl rfl rfl rfl ?_
      refine R_nil ?_
      refine tn ?_
      refine F_false rfl (decide_eq_false (by omega)) ?_
      refine F_skip ?_
      refine tn ?_
      refine F_seq ?_
      refine F_region (p := ⟨_, [0, 2, 0], []⟩) rfl [0, 1, 2] rfl ?_
      refine O_move rfl rfl rfl rfl rfl ?_
      have hQ : Sat w0 (blks [(bc, .cells #[E_ib.k k', E_ib.v v', .pointer p1, .pointer p2, .int .i64 (1 + max c1.h c2.h), .int .i64 (1 + c1.m + c2.m)] 138 (0, 0))] * (tree E_ib p1 c1 * (tree E_ib p2 c2 * ((blks [(b, .cells #[E_ib.k k, E_ib.v v, .pointer pl, .pointer (some ⟨bc, 0, none⟩), x4, x5] 138 (0, 0))] * tree E_ib pl l) * R)))) w := hS.to (by simp only [blks]; ac_rfl)
      replace hQ := tree_node_mk rfl rfl hQ
      replace hQ : Sat w0 (blks [(b, .cells #[E_ib.k k, E_ib.v v, .pointer pl, .pointer (some ⟨bc, 0, none⟩), x4, x5] 138 (0, 0))] * (tree E_ib pl l * (tree E_ib (some ⟨bc, 0, none⟩) (.node c1 k' v' c2) * R))) w := hQ.to (by ac_rfl)
      refine O_call rfl rfl rfl rfl Try.call109 rfl (toLeft_ib (by simp only [T.m] at *; omega) hQ) (fun _ _ hv => trivial) ?_
      rintro _ w ⟨pe, rfl, hS⟩
      refine O_assign rfl rfl rfl rfl rfl ?_
      refine R_nil ?_
      refine tn ?_
      refine F_ret ?_
      refine br ?_
      refine tr ?_
      show endF _ _ _ _ _ _
      refine end0 trivial rfl rfl rfl hS ?_
      intro w hS
      exact ⟨_, _, rfl, by simp [T.toList, List.append_assoc], hS⟩
  refine enterF (args := [_]) Try.func99 rfl Try.ntmps99 rfl rfl ?_
  refine F_seq ?_
  refine F_region (p := ⟨_, [0], []⟩) rfl [0] rfl ?_
  refine O_assign rfl rfl rfl rfl rfl ?_
  refine R_nil ?_
  refine tn ?_
  refine F_seq ?_
  refine F_seq ?_
  refine F_drawnS hS (by kernel_rfl) (p := ⟨_, [0, 0, 0, 1, 2, 0, 0, 0, 1, 2, 0, 0], [(4, 8)]⟩) rfl (.ofList [0, 1, 2, 3, 4, 5, 6, 7, 8, 9, 10, 11]) (by kernel_rfl) ?_
  intro w hS
  refine O_move rfl rfl rfl rfl rfl ?_
  refine O_nilCheck rfl rfl rfl rfl rfl ?_
  refine O_fieldAddr rfl rfl rfl rfl rfl Try.runUnderlying138 rfl Try.sizeOf132 ?_
  refine O_loadS hS rfl rfl rfl rfl rfl Try.isAgg132 (by repeat (first | exact .here rfl | apply CellAt.there)) (by trivial) ?_
  have hS_4 := hS
  refine O_call rfl rfl rfl rfl Try.call108 rfl ((ht_ib _ _ _ hS.b2).1) (fun _ _ hv => trivial) ?_
  rintro _ w ⟨rfl, hS⟩
  replace hS := hS.b2
  refine O_move rfl rfl rfl rfl rfl ?_
  refine O_nilCheck rfl rfl rfl rfl rfl ?_
  refine O_fieldAddr rfl rfl rfl rfl rfl Try.runUnderlying138 rfl Try.sizeOf132 ?_
  refine O_loadS hS rfl rfl rfl rfl rfl Try.isAgg132 (by repeat (first | exact .here rfl | apply CellAt.there)) (by exact ⟨CellAt.cell (by repeat (first | exact .here rfl | apply CellAt.there)) hS_4, trivial⟩) ?_
  refine O_call rfl rfl rfl rfl Try.call108 rfl ((ht_ib _ _ _ hS.b3).1) (fun _ _ hv => ⟨trivial, trivial⟩) ?_
  rintro _ w ⟨rfl, hS⟩
  replace hS := hS.f3
  refine O_subN rfl rfl rfl rfl rfl rfl (by first | omega | (dsimp only; omega)) ?_
  refine O_assign rfl rfl rfl rfl rfl ?_
  refine R_nil ?_
  refine tn ?_
  refine F_block ?_
  refine F_seq ?_
  refine F_region (p := ⟨_, [0, 0, 0], []⟩) rfl [0, 1, 2] rfl ?_
  refine O_move rfl rfl rfl rfl rfl ?_
  refine O_cmp rfl rfl rfl rfl rfl rfl rfl ?_
  refine O_assign rfl rfl rfl rfl rfl ?_
  refine R_nil ?_
  refine tn ?_
  refine F_false rfl (decide_eq_false (by omega)) ?_
  refine F_seq ?_
  refine F_region (p := ⟨_, [0, 0, 0], []⟩) rfl [0, 1, 2] rfl ?_
  refine O_move rfl rfl rfl rfl rfl ?_
  refine O_cmp rfl rfl rfl rfl rfl rfl rfl ?_
  refine O_assign rfl rfl rfl rfl rfl ?_
  refine R_nil ?_
  refine tn ?_
  refine F_false rfl (decide_eq_false (by omega)) ?_
  refine F_skip ?_
  refine bn ?_
  refine tn ?_
  refine F_seq ?_
  refine F_region (p := ⟨_, [0, 2, 0], []⟩) rfl [0, 1, 2] rfl ?_
  refine O_move rfl rfl rfl rfl rfl ?_
  refine O_call rfl rfl rfl rfl Try.call98 rfl (count_ib ht_ib ht_ib (by omega) hS) (fun _ _ hv => trivial) ?_
  rintro _ w ⟨rfl, hS⟩
  refine O_assign rfl rfl rfl rfl rfl ?_
  refine R_nil ?_
  refine tn ?_
  refine F_ret ?_
  show endF _ _ _ _ _ _
  refine end0 trivial rfl rfl rfl hS ?_
  intro w hS
  exact ⟨_, .node l k v r, rfl, rfl, tree_node_mk rfl rfl hS⟩
theorem put_ib {rb : Nat} {x1 : Value} {k : Int} {v : Bool} (t : T Int Bool) : ∀ {w0 w : World} {R : HProp} {p : Option Addr} (hs : Srt O_ib t.toList) (hm : t.m ≤ 4611686018427370000)
    (hS : Sat w0 (blks [(rb, .cells #[E_ib.cv, x1] 136 (0, 0))] * (tree E_ib p t * R)) w),
    Calls Try.prog 76 #[.pointer (some ⟨rb, 0, none⟩), .pointer p, E_ib.k k, E_ib.v v] w (ret fun u w' => ∃ p' t', u = .tuple #[.pointer p', .bool (get O_ib k t.toList).isSome] ∧ t'.toList = ins O_ib k v t.toList ∧ Sat w0 (blks [(rb, .cells #[E_ib.cv, x1] 136 (0, 0))] * (tree E_ib p' t' * R)) w') := by
  induction t with
  | leaf =>
    intro w0 w R p hs hm hS
    obtain ⟨rfl, hN⟩ := tree_leaf hS.b2
    clear hS
    have hS := hN
    refine enterF (args := [_, _, _, _]) Try.func76 rfl Try.ntmps76 rfl rfl ?_
    refine F_seq ?_
    refine F_region (p := ⟨_, [0, 0], []⟩) rfl [0, 1] rfl ?_
    refine O_assign rfl rfl rfl rfl rfl ?_
    refine O_assign rfl rfl rfl rfl rfl ?_
    refine R_nil ?_
    refine tn ?_
    refine F_seq ?_
    refine F_seq ?_
    refine F_region (p := ⟨_, [0, 0], []⟩) rfl [0, 1] rfl ?_
    refine O_move rfl rfl rfl rfl rfl ?_
    refine O_eqNil rfl rfl rfl rfl rfl rfl Try.runUnderlying132 ?_
    refine R_nil ?_
    refine tn ?_
    refine F_true rfl rfl ?_
    refine F_seq ?_
    refine F_region (p := ⟨_, [0, 0, 0, 2, 0], []⟩) rfl [0, 1, 2, 3, 4] rfl ?_
    refine O_move rfl rfl rfl rfl rfl ?_
    refine O_move rfl rfl rfl rfl rfl ?_
    refine O_build rfl rfl rfl rfl rfl (run_buildS [_, _, _, _, _, _] Try.zeroValue138 Try.runUnderlying138 (fun _ => 1) ⟨Try.sizeOf3, Try.sizeOf4, Try.sizeOf132, Try.sizeOf132, Try.sizeOf3, Try.sizeOf3, trivial⟩ rfl) ?_
    refine O_boxS hS rfl rfl rfl rfl rfl (fun _ _ hv => trivial) ?_
    intro b1 w hS
    refine O_assign rfl rfl rfl rfl rfl ?_
    refine R_nil ?_
    refine tn ?_
    refine F_seq ?_
    refine F_region (p := ⟨_, [0, 2, 0, 0], []⟩) rfl [0, 1, 2, 3] rfl ?_
    refine O_move rfl rfl rfl rfl rfl ?_
    replace hS : Sat w0 (blks [(b1, .cells #[E_ib.k k, E_ib.v v, .pointer none, .pointer none, .int .i64 0, .int .i64 0] 138 (0, 0)), (rb, .cells #[E_ib.cv, x1] 136 (0, 0))] * R) w := hS
    replace hS : Sat w0 (blks [(b1, .cells #[E_ib.k k, E_ib.v v, .pointer none, .pointer none, .int .i64 0, .int .i64 0] 138 (0, 0))] * (blks [(rb, .cells #[E_ib.cv, x1] 136 (0, 0))] * R)) w := hS.to (by simp only [blks]; ac_rfl)
    have hQ := (tree_leaf_mk (E := E_ib) (tree_leaf_mk (E := E_ib) hS.b2)).f3
    replace hQ : Sat w0 (blks [(b1, .cells #[E_ib.k k, E_ib.v v, .pointer none, .pointer none, .int .i64 0, .int .i64 0] 138 (0, 0))] * (tree E_ib none .leaf * (tree E_ib none .leaf * (blks [(rb, .cells #[E_ib.cv, x1] 136 (0, 0))] * R)))) w := hQ.to (by ac_rfl)
    refine O_call rfl rfl rfl rfl Try.call98 rfl (count_ib ht_ib ht_ib (by simp [T.h, T.m]) hQ) (fun _ _ hv => trivial) ?_
    rintro _ w ⟨rfl, hS⟩
    refine O_assign rfl rfl rfl rfl rfl ?_
    refine O_assign rfl rfl rfl rfl rfl ?_
    refine R_nil ?_
    refine tn ?_
    refine F_ret ?_
    refine tr ?_
    show endF _ _ _ _ _ _
    refine end0 trivial rfl rfl rfl hS ?_
    intro w hS
    exact ⟨_, .node .leaf k v .leaf, rfl, rfl, (tree_node_mk rfl rfl hS).b2⟩
  | node l k0 v0 r ihl ihr =>
    intro w0 w R p hs hm hS
    obtain ⟨b, pl, pr, rfl, hN⟩ := tree_node hS.b2
    clear hS
    have d1 := l.bd
    have d2 := r.bd
    simp only [T.m] at hm
    simp only [T.toList] at hs ⊢
    obtain ⟨s1, s2, s3, s4⟩ := srt_left hs
    have hS : Sat w0 (blks [(rb, .cells #[E_ib.cv, x1] 136 (0, 0)), (b, .cells #[E_ib.k k0, E_ib.v v0, .pointer pl, .pointer pr, .int .i64 (1 + max l.h r.h), .int .i64 (1 + l.m + r.m)] 138 (0, 0))] * (tree E_ib pl l * (tree E_ib pr r * R))) w := hN.to (by simp only [blks]; ac_rfl)
    clear hN
    cases e1 : O_ib.lt k k0 with
    | true =>
      have hc : cmpv O_ib k k0 = -1 := by simp [cmpv, e1]
      refine enterF (args := [_, _, _, _]) Try.func76 rfl Try.ntmps76 rfl rfl ?_
      refine F_seq ?_
      refine F_region (p := ⟨_, [0, 0], []⟩) rfl [0, 1] rfl ?_
      refine O_assign rfl rfl rfl rfl rfl ?_
      refine O_assign rfl rfl rfl rfl rfl ?_
      refine R_nil ?_
      refine tn ?_
      refine F_seq ?_
      refine F_seq ?_
      refine F_region (p := ⟨_, [0, 0], []⟩) rfl [0, 1] rfl ?_
      refine O_move rfl rfl rfl rfl rfl ?_
      refine O_eqNil rfl rfl rfl rfl rfl rfl Try.runUnderlying132 ?_
      refine R_nil ?_
      refine tn ?_
      refine F_false rfl rfl ?_
      refine F_skip ?_
      refine tn ?_
      refine F_seq ?_
      refine F_region (p := ⟨_, [0], []⟩) rfl [0] rfl ?_
      refine O_assign rfl rfl rfl rfl rfl ?_
      refine R_nil ?_
      refine tn ?_
      refine F_seq ?_
      refine F_seq ?_
      refine F_drawnS hS (by kernel_rfl) (p := ⟨_, [0, 0, 0, 1, 0, 0, 0, 0, 1, 2, 0], []⟩) rfl (.ofList [0, 1, 2, 3, 4, 5, 6, 7, 8, 9, 10]) (by kernel_rfl) ?_
      intro w hS
      refine O_move rfl rfl rfl rfl rfl ?_
      refine O_nilCheck rfl rfl rfl rfl rfl ?_
      refine O_fieldAddr rfl rfl rfl rfl rfl Try.runUnderlying136 rfl Try.sizeOf79 ?_
      refine O_loadS hS rfl rfl rfl rfl rfl Try.isAgg79 (by repeat (first | exact .here rfl | apply CellAt.there)) (by trivial) ?_
      refine O_move rfl rfl rfl rfl rfl ?_
      refine O_move rfl rfl rfl rfl rfl ?_
      refine O_nilCheck rfl rfl rfl rfl rfl ?_
      refine O_fieldAddr rfl rfl rfl rfl rfl Try.runUnderlying138 rfl Try.sizeOf3 ?_
      refine O_loadS hS rfl rfl rfl rfl rfl Try.isAgg3 (by repeat (first | exact .here rfl | apply CellAt.there)) (by trivial) ?_
      refine O_callv rfl rfl rfl rfl rfl rfl (cmp_ib k k0 hS) (fun _ _ hv => trivial) ?_
      rintro _ w ⟨rfl, hS⟩
      refine O_assign rfl rfl rfl rfl rfl ?_
      refine R_nil ?_
      refine tn ?_
      refine F_block ?_
      refine F_seq ?_
      refine F_region (p := ⟨_, [0, 0, 0], []⟩) rfl [0, 1, 2] rfl ?_
      refine O_move rfl rfl rfl rfl rfl ?_
      refine O_cmp rfl rfl rfl rfl rfl rfl rfl ?_
      refine O_assign rfl rfl rfl rfl rfl ?_
      refine R_nil ?_
      refine tn ?_
      refine F_true rfl (decide_eq_true (by omega)) ?_
      refine F_region (p := ⟨_, [0, 0, 0, 0, 0, 1, 0, 0, 2, 0, 0, 0, 0, 0, 2, 0], []⟩) rfl [0, 1, 2, 3, 4, 5, 6, 7, 8, 9, 10, 11, 12, 13, 14, 15] rfl ?_
      refine O_move rfl rfl rfl rfl rfl ?_
      refine O_move rfl rfl rfl rfl rfl ?_
      refine O_move rfl rfl rfl rfl rfl ?_
      refine O_nilCheck rfl rfl rfl rfl rfl ?_
      refine O_fieldAddr rfl rfl rfl rfl rfl Try.runUnderlying138 rfl Try.sizeOf132 ?_
      refine O_loadS hS rfl rfl rfl rfl rfl Try.isAgg132 (by repeat (first | exact .here rfl | apply CellAt.there)) (by trivial) ?_
      refine O_move rfl rfl rfl rfl rfl ?_
      refine O_move rfl rfl rfl rfl rfl ?_
      have hQ : Sat w0 (blks [(rb, .cells #[E_ib.cv, x1] 136 (0, 0))] * (tree E_ib pl l * (blks [(b, .cells #[E_ib.k k0, E_ib.v v0, .pointer pl, .pointer pr, .int .i64 (1 + max l.h r.h), .int .i64 (1 + l.m + r.m)] 138 (0, 0))] * (tree E_ib pr r * R)))) w := hS.to (by simp only [blks]; ac_rfl)
      refine O_call rfl rfl rfl rfl Try.call76 rfl (ihl s1 (by omega) hQ) (fun _ _ hv => trivial) ?_
      rintro _ w ⟨p', t', rfl, ht', hS⟩
      have hm' : t'.m ≤ l.m + 1 := by rw [T.m_len, T.m_len, ht', ins_len]; split <;> omega
      replace hS : Sat w0 (blks [(b, .cells #[E_ib.k k0, E_ib.v v0, .pointer pl, .pointer pr, .int .i64 (1 + max l.h r.h), .int .i64 (1 + l.m + r.m)] 138 (0, 0))] * (tree E_ib p' t' * (tree E_ib pr r * (blks [(rb, .cells #[E_ib.cv, x1] 136 (0, 0))] * R)))) w := hS.to (by simp only [blks]; ac_rfl)
      refine O_move rfl rfl rfl rfl rfl ?_
      refine O_extract rfl rfl rfl rfl rfl rfl ?_
      refine O_extract rfl rfl rfl rfl rfl rfl ?_
      refine O_nilCheck rfl rfl rfl rfl rfl ?_
      refine O_fieldAddr rfl rfl rfl rfl rfl Try.runUnderlying138 rfl Try.sizeOf132 ?_
      refine O_storeS hS rfl rfl rfl rfl rfl rfl rfl Try.sizeOf132 (by repeat (first | exact .here rfl rfl | apply SetAt.there)) (fun w' hv => trivial) ?_
      intro w hS
      refine O_assign rfl rfl rfl rfl rfl ?_
      refine R_nil ?_
      refine bn ?_
      refine tn ?_
      refine F_seq ?_
      refine F_region (p := ⟨_, [0, 2, 0, 0, 0], []⟩) rfl [0, 1, 2, 3, 4] rfl ?_
      refine O_move rfl rfl rfl rfl rfl ?_
      replace hS : Sat w0 (blks [(b, .cells #[E_ib.k k0, E_ib.v v0, .pointer p', .pointer pr, .int .i64 (1 + max l.h r.h), .int .i64 (1 + l.m + r.m)] 138 (0, 0))] * (tree E_ib p' t' * (tree E_ib pr r * (blks [(rb, .cells #[E_ib.cv, x1] 136 (0, 0))] * R)))) w := hS
      refine O_call rfl rfl rfl rfl Try.call99 rfl (even_ib (by omega) hS) (fun _ _ hv => trivial) ?_
      rintro _ w ⟨p'', t'', rfl, ht'', hS⟩
      refine O_move rfl rfl rfl rfl rfl ?_
      refine O_assign rfl rfl rfl rfl rfl ?_
      refine O_assign rfl rfl rfl rfl rfl ?_
      refine R_nil ?_
      refine tn ?_
      refine F_ret ?_
      show endF _ _ _ _ _ _
      refine end0 trivial rfl rfl rfl hS ?_
      intro w hS
      refine ⟨p'', t'', ?_, ?_, hS.b2⟩
      · rw [get_lt e1]; rfl
      · rw [ht'', ht', ins_lt e1]
    | false =>
      cases e2 : O_ib.lt k0 k with
      | true =>
        have hc : cmpv O_ib k k0 = 1 := by simp [cmpv, e1, e2]
        refine enterF (args := [_, _, _, _]) Try.func76 rfl Try.ntmps76 rfl rfl ?_
        refine F_seq ?_
        refine F_region (p := ⟨_, [0, 0], []⟩) rfl [0, 1] rfl ?_
        refine O_assign rfl rfl rfl rfl rfl ?_
        refine O_assign rfl rfl rfl rfl rfl ?_
        refine R_nil ?_
        refine tn ?_
        refine F_seq ?_
        refine F_seq ?_
        refine F_region (p := ⟨_, [0, 0], []⟩) rfl [0, 1] rfl ?_
        refine O_move rfl rfl rfl rfl rfl ?_
        refine O_eqNil rfl rfl rfl rfl rfl rfl Try.runUnderlying132 ?_
        refine R_nil ?_
        refine tn ?_
        refine F_false rfl rfl ?_
        refine F_skip ?_
        refine tn ?_
        refine F_seq ?_
        refine F_region (p := ⟨_, [0], []⟩) rfl [0] rfl ?_
        refine O_assign rfl rfl rfl rfl rfl ?_
        refine R_nil ?_
        refine tn ?_
        refine F_seq ?_
        refine F_seq ?_
        refine F_drawnS hS (by kernel_rfl) (p := ⟨_, [0, 0, 0, 1, 0, 0, 0, 0, 1, 2, 0], []⟩) rfl (.ofList [0, 1, 2, 3, 4, 5, 6, 7, 8, 9, 10]) (by kernel_rfl) ?_
        intro w hS
        refine O_move rfl rfl rfl rfl rfl ?_
        refine O_nilCheck rfl rfl rfl rfl rfl ?_
        refine O_fieldAddr rfl rfl rfl rfl rfl Try.runUnderlying136 rfl Try.sizeOf79 ?_
        refine O_loadS hS rfl rfl rfl rfl rfl Try.isAgg79 (by repeat (first | exact .here rfl | apply CellAt.there)) (by trivial) ?_
        refine O_move rfl rfl rfl rfl rfl ?_
        refine O_move rfl rfl rfl rfl rfl ?_
        refine O_nilCheck rfl rfl rfl rfl rfl ?_
        refine O_fieldAddr rfl rfl rfl rfl rfl Try.runUnderlying138 rfl Try.sizeOf3 ?_
        refine O_loadS hS rfl rfl rfl rfl rfl Try.isAgg3 (by repeat (first | exact .here rfl | apply CellAt.there)) (by trivial) ?_
        refine O_callv rfl rfl rfl rfl rfl rfl (cmp_ib k k0 hS) (fun _ _ hv => trivial) ?_
        rintro _ w ⟨rfl, hS⟩
        refine O_assign rfl rfl rfl rfl rfl ?_
        refine R_nil ?_
        refine tn ?_
        refine F_block ?_
        refine F_seq ?_
        refine F_region (p := ⟨_, [0, 0, 0], []⟩) rfl [0, 1, 2] rfl ?_
        refine O_move rfl rfl rfl rfl rfl ?_
        refine O_cmp rfl rfl rfl rfl rfl rfl rfl ?_
        refine O_assign rfl rfl rfl rfl rfl ?_
        refine R_nil ?_
        refine tn ?_
        refine F_false rfl (decide_eq_false (by omega)) ?_
        refine F_seq ?_
        refine F_region (p := ⟨_, [0, 0, 0], []⟩) rfl [0, 1, 2] rfl ?_
        refine O_move rfl rfl rfl rfl rfl ?_
        refine O_cmp rfl rfl rfl rfl rfl rfl rfl ?_
        refine O_assign rfl rfl rfl rfl rfl ?_
        refine R_nil ?_
        refine tn ?_
        refine F_true rfl (decide_eq_true (by omega)) ?_
        refine F_region (p := ⟨_, [0, 0, 0, 0, 0, 1, 0, 0, 2, 0, 0, 0, 0, 0, 2, 0], []⟩) rfl [0, 1, 2, 3, 4, 5, 6, 7, 8, 9, 10, 11, 12, 13, 14, 15] rfl ?_
        refine O_move rfl rfl rfl rfl rfl ?_
        refine O_move rfl rfl rfl rfl rfl ?_
        refine O_move rfl rfl rfl rfl rfl ?_
        refine O_nilCheck rfl rfl rfl rfl rfl ?_
        refine O_fieldAddr rfl rfl rfl rfl rfl Try.runUnderlying138 rfl Try.sizeOf132 ?_
        refine O_loadS hS rfl rfl rfl rfl rfl Try.isAgg132 (by repeat (first | exact .here rfl | apply CellAt.there)) (by trivial) ?_
        refine O_move rfl rfl rfl rfl rfl ?_
        refine O_move rfl rfl rfl rfl rfl ?_
        have hQ : Sat w0 (blks [(rb, .cells #[E_ib.cv, x1] 136 (0, 0))] * (tree E_ib pr r * (blks [(b, .cells #[E_ib.k k0, E_ib.v v0, .pointer pl, .pointer pr, .int .i64 (1 + max l.h r.h), .int .i64 (1 + l.m + r.m)] 138 (0, 0))] * (tree E_ib pl l * R)))) w := hS.to (by simp only [blks]; ac_rfl)
        refine O_call rfl rfl rfl rfl Try.call76 rfl (ihr s2 (by omega) hQ) (fun _ _ hv => trivial) ?_
        rintro _ w ⟨p', t', rfl, ht', hS⟩
        have hm' : t'.m ≤ r.m + 1 := by rw [T.m_len, T.m_len, ht', ins_len]; split <;> omega
        replace hS : Sat w0 (blks [(b, .cells #[E_ib.k k0, E_ib.v v0, .pointer pl, .pointer pr, .int .i64 (1 + max l.h r.h), .int .i64 (1 + l.m + r.m)] 138 (0, 0))] * (tree E_ib pl l * (tree E_ib p' t' * (blks [(rb, .cells #[E_ib.cv, x1] 136 (0, 0))] * R)))) w := hS.to (by simp only [blks]; ac_rfl)
        refine O_move rfl rfl rfl rfl rfl ?_
        refine O_extract rfl rfl rfl rfl rfl rfl ?_
        refine O_extract rfl rfl rfl rfl rfl rfl ?_
        refine O_nilCheck rfl rfl rfl rfl rfl ?_
        refine O_fieldAddr rfl rfl rfl rfl rfl Try.runUnderlying138 rfl Try.sizeOf132 ?_
        refine O_storeS hS rfl rfl rfl rfl rfl rfl rfl Try.sizeOf132 (by repeat (first | exact .here rfl rfl | apply SetAt.there)) (fun w' hv => trivial) ?_
        intro w hS
        refine O_assign rfl rfl rfl rfl rfl ?_
        refine R_nil ?_
        refine bn ?_
        refine tn ?_
        refine F_seq ?_
        refine F_region (p := ⟨_, [0, 2, 0, 0, 0], []⟩) rfl [0, 1, 2, 3, 4] rfl ?_
        refine O_move rfl rfl rfl rfl rfl ?_
        replace hS : Sat w0 (blks [(b, .cells #[E_ib.k k0, E_ib.v v0, .pointer pl, .pointer p', .int .i64 (1 + max l.h r.h), .int .i64 (1 + l.m + r.m)] 138 (0, 0))] * (tree E_ib pl l * (tree E_ib p' t' * (blks [(rb, .cells #[E_ib.cv, x1] 136 (0, 0))] * R)))) w := hS
        refine O_call rfl rfl rfl rfl Try.call99 rfl (even_ib (by omega) hS) (fun _ _ hv => trivial) ?_
        rintro _ w ⟨p'', t'', rfl, ht'', hS⟩
        refine O_move rfl rfl rfl rfl rfl ?_
        refine O_assign rfl rfl rfl rfl rfl ?_
        refine O_assign rfl rfl rfl rfl rfl ?_
        refine R_nil ?_
        refine tn ?_
        refine F_ret ?_
        show endF _ _ _ _ _ _
        refine end0 trivial rfl rfl rfl hS ?_
        intro w hS
        refine ⟨p'', t'', ?_, ?_, hS.b2⟩
        · rw [get_gt_ e2 s3]; rfl
        · rw [ht'', ht', ins_gt_ e2 s3]
      | false =>
        have hc : cmpv O_ib k k0 = 0 := by simp [cmpv, e1, e2]
        refine enterF (args := [_, _, _, _]) Try.func76 rfl Try.ntmps76 rfl rfl ?_
        refine F_seq ?_
        refine F_region (p := ⟨_, [0, 0], []⟩) rfl [0, 1] rfl ?_
        refine O_assign rfl rfl rfl rfl rfl ?_
        refine O_assign rfl rfl rfl rfl rfl ?_
        refine R_nil ?_
        refine tn ?_
        refine F_seq ?_
        refine F_seq ?_
        refine F_region (p := ⟨_, [0, 0], []⟩) rfl [0, 1] rfl ?_
        refine O_move rfl rfl rfl rfl rfl ?_
        refine O_eqNil rfl rfl rfl rfl rfl rfl Try.runUnderlying132 ?_
        refine R_nil ?_
        refine tn ?_
        refine F_false rfl rfl ?_
        refine F_skip ?_
        refine tn ?_
        refine F_seq ?_
        refine F_region (p := ⟨_, [0], []⟩) rfl [0] rfl ?_
        refine O_assign rfl rfl rfl rfl rfl ?_
        refine R_nil ?_
        refine tn ?_
        refine F_seq ?_
        refine F_seq ?_
        refine F_drawnS hS (by kernel_rfl) (p := ⟨_, [0, 0, 0, 1, 0, 0, 0, 0, 1, 2, 0], []⟩) rfl (.ofList [0, 1, 2, 3, 4, 5, 6, 7, 8, 9, 10]) (by kernel_rfl) ?_
        intro w hS
        refine O_move rfl rfl rfl rfl rfl ?_
        refine O_nilCheck rfl rfl rfl rfl rfl ?_
        refine O_fieldAddr rfl rfl rfl rfl rfl Try.runUnderlying136 rfl Try.sizeOf79 ?_
        refine O_loadS hS rfl rfl rfl rfl rfl Try.isAgg79 (by repeat (first | exact .here rfl | apply CellAt.there)) (by trivial) ?_
        refine O_move rfl rfl rfl rfl rfl ?_
        refine O_move rfl rfl rfl rfl rfl ?_
        refine O_nilCheck rfl rfl rfl rfl rfl ?_
        refine O_fieldAddr rfl rfl rfl rfl rfl Try.runUnderlying138 rfl Try.sizeOf3 ?_
        refine O_loadS hS rfl rfl rfl rfl rfl Try.isAgg3 (by repeat (first | exact .here rfl | apply CellAt.there)) (by trivial) ?_
        refine O_callv rfl rfl rfl rfl rfl rfl (cmp_ib k k0 hS) (fun _ _ hv => trivial) ?_
        rintro _ w ⟨rfl, hS⟩
        refine O_assign rfl rfl rfl rfl rfl ?_
        refine R_nil ?_
        refine tn ?_
        refine F_block ?_
        refine F_seq ?_
        refine F_region (p := ⟨_, [0, 0, 0], []⟩) rfl [0, 1, 2] rfl ?_
        refine O_move rfl rfl rfl rfl rfl ?_
        refine O_cmp rfl rfl rfl rfl rfl rfl rfl ?_
        refine O_assign rfl rfl rfl rfl rfl ?_
        refine R_nil ?_
        refine tn ?_
        refine F_false rfl (decide_eq_false (by omega)) ?_
        refine F_seq ?_
        refine F_region (p := ⟨_, [0, 0, 0], []⟩) rfl [0, 1, 2] rfl ?_
        refine O_move rfl rfl rfl rfl rfl ?_
        refine O_cmp rfl rfl rfl rfl rfl rfl rfl ?_
        refine O_assign rfl rfl rfl rfl rfl ?_
        refine R_nil ?_
        refine tn ?_
        refine F_false rfl (decide_eq_false (by omega)) ?_
        refine F_region (p := ⟨_, [0, 0, 0, 0, 2], []⟩) rfl [0, 1, 2, 3, 4] rfl ?_
        refine O_move rfl rfl rfl rfl rfl ?_
        refine O_move rfl rfl rfl rfl rfl ?_
        refine O_nilCheck rfl rfl rfl rfl rfl ?_
        refine O_fieldAddr rfl rfl rfl rfl rfl Try.runUnderlying138 rfl Try.sizeOf4 ?_
        refine O_storeS hS rfl rfl rfl rfl rfl rfl rfl Try.sizeOf4 (by repeat (first | exact .here rfl rfl | apply SetAt.there)) (fun w' hv => trivial) ?_
        intro w hS
        refine R_nil ?_
        refine bn ?_
        refine tn ?_
        refine F_seq ?_
        refine F_region (p := ⟨_, [0, 2, 0, 0, 0], []⟩) rfl [0, 1, 2, 3, 4] rfl ?_
        refine O_move rfl rfl rfl rfl rfl ?_
        replace hS : Sat w0 (blks [(rb, .cells #[E_ib.cv, x1] 136 (0, 0)), (b, .cells #[E_ib.k k0, E_ib.v v, .pointer pl, .pointer pr, .int .i64 (1 + max l.h r.h), .int .i64 (1 + l.m + r.m)] 138 (0, 0))] * (tree E_ib pl l * (tree E_ib pr r * R))) w := hS
        replace hS : Sat w0 (blks [(b, .cells #[E_ib.k k0, E_ib.v v, .pointer pl, .pointer pr, .int .i64 (1 + max l.h r.h), .int .i64 (1 + l.m + r.m)] 138 (0, 0))] * (tree E_ib pl l * (tree E_ib pr r * (blks [(rb, .cells #[E_ib.cv, x1] 136 (0, 0))] * R)))) w := hS.to (by simp only [blks]; ac_rfl)
        refine O_call rfl rfl rfl rfl Try.call99 rfl (even_ib (by omega) hS) (fun _ _ hv => trivial) ?_
        rintro _ w ⟨p'', t'', rfl, ht'', hS⟩
        refine O_move rfl rfl rfl rfl rfl ?_
        refine O_assign rfl rfl rfl rfl rfl ?_
        refine O_assign rfl rfl rfl rfl rfl ?_
        refine R_nil ?_
        refine tn ?_
        refine F_ret ?_
        show endF _ _ _ _ _ _
        refine end0 trivial rfl rfl rfl hS ?_
        intro w hS
        refine ⟨p'', t'', ?_, ?_, hS.b2⟩
        · rw [get_eq e1 e2 s3]; rfl
        · rw [ht'', ins_eq e1 e2 s3]
theorem least_ib (l : T Int Bool) : ∀ {w0 w : World} {R : HProp} {b : Nat} {pl pr : Option Addr} {k : Int} {v : Bool} {x4 x5 : Value} {r : T Int Bool} (hm : l.m + r.m ≤ 4611686018427370000)
    (hS : Sat w0 (blks [(b, .cells #[E_ib.k k, E_ib.v v, .pointer pl, .pointer pr, x4, x5] 138 (0, 0))] * (tree E_ib pl l * (tree E_ib pr r * R))) w),
    Calls Try.prog 100 #[.pointer (some ⟨b, 0, none⟩)] w (ret fun u w' => ∃ bf p' t' kf vf q1 q2 y4 y5, u = .tuple #[.pointer (some ⟨bf, 0, none⟩), .pointer p'] ∧ l.toList ++ (k, v) :: r.toList = (kf, vf) :: t'.toList ∧
      Sat w0 (blks [(bf, .cells #[E_ib.k kf, E_ib.v vf, .pointer q1, .pointer q2, y4, y5] 138 (0, 0))] * (tree E_ib p' t' * R)) w') := by
  induction l with
  | leaf =>
    intro w0 w R b pl pr k v x4 x5 r hm hS
    obtain ⟨rfl, hN⟩ := tree_leaf hS.b2
    clear hS
    have hS := hN
    refine enterF (args := [_]) Try.func100 rfl Try.ntmps100 rfl rfl ?_
    refine F_seq ?_
    refine F_region (p := ⟨_, [0, 0], []⟩) rfl [0, 1] rfl ?_
    refine O_assign rfl rfl rfl rfl rfl ?_
    refine O_assign rfl rfl rfl rfl rfl ?_
    refine R_nil ?_
    refine tn ?_
    refine F_seq ?_
    refine F_seq ?_
    refine F_region (p := ⟨_, [0, 0, 0, 1, 0], []⟩) rfl [0, 1, 2, 3, 4] rfl ?_
    refine O_move rfl rfl rfl rfl rfl ?_
    refine O_nilCheck rfl rfl rfl rfl rfl ?_
    refine O_fieldAddr rfl rfl rfl rfl rfl Try.runUnderlying138 rfl Try.sizeOf132 ?_
    refine O_loadS hS rfl rfl rfl rfl rfl Try.isAgg132 (by repeat (first | exact .here rfl | apply CellAt.there)) (by trivial) ?_
    refine O_eqNil rfl rfl rfl rfl rfl rfl Try.runUnderlying132 ?_
    refine R_nil ?_
    refine tn ?_
    refine F_true rfl rfl ?_
    refine F_seq ?_
    refine F_drawnS hS (by kernel_rfl) (p := ⟨_, [0, 0, 0, 0, 1, 0, 0], []⟩) rfl (.ofList [0, 1, 2, 3, 4, 5, 6]) (by kernel_rfl) ?_
    intro w hS
    refine O_move rfl rfl rfl rfl rfl ?_
    refine O_move rfl rfl rfl rfl rfl ?_
    refine O_nilCheck rfl rfl rfl rfl rfl ?_
    refine O_fieldAddr rfl rfl rfl rfl rfl Try.runUnderlying138 rfl Try.sizeOf132 ?_
    refine O_loadS hS rfl rfl rfl rfl rfl Try.isAgg132 (by repeat (first | exact .here rfl | apply CellAt.there)) (by trivial) ?_
    refine O_assign rfl rfl rfl rfl rfl ?_
    refine O_assign rfl rfl rfl rfl rfl ?_
    refine R_nil ?_
    refine tn ?_
    refine F_ret ?_
    refine tr ?_
    show endF _ _ _ _ _ _
    refine end0 trivial rfl rfl rfl hS ?_
    intro w hS
    exact ⟨_, _, r, k, v, _, _, _, _, rfl, rfl, hS⟩
  | node l1 k1 v1 l2 ih1 ih2 =>
    intro w0 w R b pl pr k v x4 x5 r hm hS
    obtain ⟨bc, p1, p2, rfl, hN⟩ := tree_node hS.b2
    clear hS
    have d1 := l1.bd
    have d2 := l2.bd
    have d3 := r.bd
    simp only [T.m] at hm
    have hS : Sat w0 (blks [(b, .cells #[E_ib.k k, E_ib.v v, .pointer (some ⟨bc, 0, none⟩), .pointer pr, x4, x5] 138 (0, 0))] * (blks [(bc, .cells #[E_ib.k k1, E_ib.v v1, .pointer p1, .pointer p2, .int .i64 (1 + max l1.h l2.h), .int .i64 (1 + l1.m + l2.m)] 138 (0, 0))] * (tree E_ib p1 l1 * (tree E_ib p2 l2 * (tree E_ib pr r * R))))) w := hN.to (by ac_rfl)
    clear hN
    refine enterF (args := [_]) Try.func100 rfl Try.ntmps100 rfl rfl ?_
    refine F_seq ?_
    refine F_region (p := ⟨_, [0, 0], []⟩) rfl [0, 1] rfl ?_
    refine O_assign rfl rfl rfl rfl rfl ?_
    refine O_assign rfl rfl rfl rfl rfl ?_
    refine R_nil ?_
    refine tn ?_
    refine F_seq ?_
    refine F_seq ?_
    refine F_region (p := ⟨_, [0, 0, 0, 1, 0], []⟩) rfl [0, 1, 2, 3, 4] rfl ?_
    refine O_move rfl rfl rfl rfl rfl ?_
    refine O_nilCheck rfl rfl rfl rfl rfl ?_
    refine O_fieldAddr rfl rfl rfl rfl rfl Try.runUnderlying138 rfl Try.sizeOf132 ?_
    refine O_loadS hS rfl rfl rfl rfl rfl Try.isAgg132 (by repeat (first | exact .here rfl | apply CellAt.there)) (by trivial) ?_
    refine O_eqNil rfl rfl rfl rfl rfl rfl Try.runUnderlying132 ?_
    refine R_nil ?_
    refine tn ?_
    refine F_false rfl rfl ?_
    refine F_skip ?_
    refine tn ?_
    refine F_seq ?_
    refine F_region (p := ⟨_, [0, 0, 0, 1, 2, 0, 0, 0, 0, 0], []⟩) rfl [0, 1, 2, 3, 4, 5, 6, 7, 8, 9] rfl ?_
    refine O_move rfl rfl rfl rfl rfl ?_
    refine O_nilCheck rfl rfl rfl rfl rfl ?_
    refine O_fieldAddr rfl rfl rfl rfl rfl Try.runUnderlying138 rfl Try.sizeOf132 ?_
    refine O_loadS hS rfl rfl rfl rfl rfl Try.isAgg132 (by repeat (first | exact .here rfl | apply CellAt.there)) (by trivial) ?_
    have hQ : Sat w0 (blks [(bc, .cells #[E_ib.k k1, E_ib.v v1, .pointer p1, .pointer p2, .int .i64 (1 + max l1.h l2.h), .int .i64 (1 + l1.m + l2.m)] 138 (0, 0))] * (tree E_ib p1 l1 * (tree E_ib p2 l2 * (blks [(b, .cells #[E_ib.k k, E_ib.v v, .pointer (some ⟨bc, 0, none⟩), .pointer pr, x4, x5] 138 (0, 0))] * (tree E_ib pr r * R))))) w := hS.to (by simp only [blks]; ac_rfl)
    refine O_call rfl rfl rfl rfl Try.call100 rfl (ih1 (by omega) hQ) (fun _ _ hv => trivial) ?_
    rintro _ w ⟨bf, p', t', kf, vf, q1, q2, y4, y5, rfl, ht', hS⟩
    have hm' : t'.m = l1.m + l2.m := by have := congrArg List.length ht'; simp only [List.length_append, List.length_cons] at this; rw [T.m_len, T.m_len, T.m_len]; omega
    have d4 := t'.bd
    replace hS : Sat w0 (blks [(b, .cells #[E_ib.k k, E_ib.v v, .pointer (some ⟨bc, 0, none⟩), .pointer pr, x4, x5] 138 (0, 0))] * (tree E_ib p' t' * (tree E_ib pr r * (blks [(bf, .cells #[E_ib.k kf, E_ib.v vf, .pointer q1, .pointer q2, y4, y5] 138 (0, 0))] * R)))) w := hS.to (by simp only [blks]; ac_rfl)
    refine O_move rfl rfl rfl rfl rfl ?_
    refine O_extract rfl rfl rfl rfl rfl rfl ?_
    refine O_extract rfl rfl rfl rfl rfl rfl ?_
    refine O_assign rfl rfl rfl rfl rfl ?_
    refine O_assign rfl rfl rfl rfl rfl ?_
    refine R_nil ?_
    refine tn ?_
    refine F_seq ?_
    refine F_region (p := ⟨_, [0, 0, 0, 0, 2], []⟩) rfl [0, 1, 2, 3, 4] rfl ?_
    refine O_move rfl rfl rfl rfl rfl ?_
    refine O_move rfl rfl rfl rfl rfl ?_
    refine O_nilCheck rfl rfl rfl rfl rfl ?_
    refine O_fieldAddr rfl rfl rfl rfl rfl Try.runUnderlying138 rfl Try.sizeOf132 ?_
    refine O_storeS hS rfl rfl rfl rfl rfl rfl rfl Try.sizeOf132 (by repeat (first | exact .here rfl rfl | apply SetAt.there)) (fun w' hv => trivial) ?_
    intro w hS
    refine R_nil ?_
    refine tn ?_
    refine F_seq ?_
    refine F_region (p := ⟨_, [0, 0, 2, 0, 0], []⟩) rfl [0, 1, 2, 3, 4] rfl ?_
    refine O_move rfl rfl rfl rfl rfl ?_
    refine O_move rfl rfl rfl rfl rfl ?_
    replace hS : Sat w0 (blks [(b, .cells #[E_ib.k k, E_ib.v v, .pointer p', .pointer pr, x4, x5] 138 (0, 0))] * (tree E_ib p' t' * (tree E_ib pr r * (blks [(bf, .cells #[E_ib.k kf, E_ib.v vf, .pointer q1, .pointer q2, y4, y5] 138 (0, 0))] * R)))) w := hS
    refine O_call rfl rfl rfl rfl Try.call99 rfl (even_ib (by omega) hS) (fun _ _ hv => trivial) ?_
    rintro _ w ⟨p'', t'', rfl, ht'', hS⟩
    refine O_assign rfl rfl rfl rfl rfl ?_
    refine O_assign rfl rfl rfl rfl rfl ?_
    refine R_nil ?_
    refine tn ?_
    refine F_ret ?_
    show endF _ _ _ _ _ _
    refine end0 trivial rfl rfl rfl hS ?_
    intro w hS
    refine ⟨_, _, t'', kf, vf, _, _, _, _, rfl, ?_, hS.b2⟩
    rw [ht'', T.toList, ht']; rfl
theorem drop_ib {rb : Nat} {x1 : Value} {k : Int} (t : T Int Bool) : ∀ {w0 w : World} {R : HProp} {p : Option Addr} (hs : Srt O_ib t.toList) (hm : t.m ≤ 4611686018427370000)
    (hS : Sat w0 (blks [(rb, .cells #[E_ib.cv, x1] 136 (0, 0))] * (tree E_ib p t * R)) w),
    Calls Try.prog 78 #[.pointer (some ⟨rb, 0, none⟩), .pointer p, E_ib.k k] w (ret fun u w' => ∃ p' t', u = .tuple #[.pointer p', .bool (get O_ib k t.toList).isSome] ∧ t'.toList = del O_ib k t.toList ∧ Sat w0 (blks [(rb, .cells #[E_ib.cv, x1] 136 (0, 0))] * (tree E_ib p' t' * R)) w') := by
  induction t with
  | leaf =>
    intro w0 w R p hs hm hS
    obtain ⟨rfl, hN⟩ := tree_leaf hS.b2
    clear hS
    have hS := hN
    refine enterF (args := [_, _, _]) Try.func78 rfl Try.ntmps78 rfl rfl ?_
    refine F_seq ?_
    refine F_region (p := ⟨_, [0, 0], []⟩) rfl [0, 1] rfl ?_
    refine O_assign rfl rfl rfl rfl rfl ?_
    refine O_assign rfl rfl rfl rfl rfl ?_
    refine R_nil ?_
    refine tn ?_
    refine F_seq ?_
    refine F_seq ?_
    refine F_region (p := ⟨_, [0, 0], []⟩) rfl [0, 1] rfl ?_
    refine O_move rfl rfl rfl rfl rfl ?_
    refine O_eqNil rfl rfl rfl rfl rfl rfl Try.runUnderlying132 ?_
    refine R_nil ?_
    refine tn ?_
    refine F_true rfl rfl ?_
    refine F_seq ?_
    refine F_region (p := ⟨_, [0, 0], []⟩) rfl [0, 1] rfl ?_
    refine O_assign rfl rfl rfl rfl rfl ?_
    refine O_assign rfl rfl rfl rfl rfl ?_
    refine R_nil ?_
    refine tn ?_
    refine F_ret ?_
    refine tr ?_
    show endF _ _ _ _ _ _
    refine end0 trivial rfl rfl rfl hS ?_
    intro w hS
    exact ⟨_, .leaf, rfl, rfl, (tree_leaf_mk hS).b2⟩
  | node l k0 v0 r ihl ihr =>
    intro w0 w R p hs hm hS
    obtain ⟨b, pl, pr, rfl, hN⟩ := tree_node hS.b2
    clear hS
    have d1 := l.bd
    have d2 := r.bd
    simp only [T.m] at hm
    simp only [T.toList] at hs ⊢
    obtain ⟨s1, s2, s3, s4⟩ := srt_left hs
    have hS : Sat w0 (blks [(rb, .cells #[E_ib.cv, x1] 136 (0, 0)), (b, .cells #[E_ib.k k0, E_ib.v v0, .pointer pl, .pointer pr, .int .i64 (1 + max l.h r.h), .int .i64 (1 + l.m + r.m)] 138 (0, 0))] * (tree E_ib pl l * (tree E_ib pr r * R))) w := hN.to (by simp only [blks]; ac_rfl)
    clear hN
    cases e1 : O_ib.lt k k0 with
    | true =>
      have hc : cmpv O_ib k k0 = -1 := by simp [cmpv, e1]
      refine enterF (args := [_, _, _]) Try.func78 rfl Try.ntmps78 rfl rfl ?_
      refine F_seq ?_
      refine F_region (p := ⟨_, [0, 0], []⟩) rfl [0, 1] rfl ?_
      refine O_assign rfl rfl rfl rfl rfl ?_
      refine O_assign rfl rfl rfl rfl rfl ?_
      refine R_nil ?_
      refine tn ?_
      refine F_seq ?_
      refine F_seq ?_
      refine F_region (p := ⟨_, [0, 0], []⟩) rfl [0, 1] rfl ?_
      refine O_move rfl rfl rfl rfl rfl ?_
      refine O_eqNil rfl rfl rfl rfl rfl rfl Try.runUnderlying132 ?_
      refine R_nil ?_
      refine tn ?_
      refine F_false rfl rfl ?_
      refine F_skip ?_
      refine tn ?_
      refine F_seq ?_
      refine F_region (p := ⟨_, [0], []⟩) rfl [0] rfl ?_
      refine O_assign rfl rfl rfl rfl rfl ?_
      refine R_nil ?_
      refine tn ?_
      refine F_seq ?_
      refine F_seq ?_
      refine F_drawnS hS (by kernel_rfl) (p := ⟨_, [0, 0, 0, 1, 0, 0, 0, 0, 1, 2, 0], []⟩) rfl (.ofList [0, 1, 2, 3, 4, 5, 6, 7, 8, 9, 10]) (by kernel_rfl) ?_
      intro w hS
      refine O_move rfl rfl rfl rfl rfl ?_
      refine O_nilCheck rfl rfl rfl rfl rfl ?_
      refine O_fieldAddr rfl rfl rfl rfl rfl Try.runUnderlying136 rfl Try.sizeOf79 ?_
      refine O_loadS hS rfl rfl rfl rfl rfl Try.isAgg79 (by repeat (first | exact .here rfl | apply CellAt.there)) (by trivial) ?_
      refine O_move rfl rfl rfl rfl rfl ?_
      refine O_move rfl rfl rfl rfl rfl ?_
      refine O_nilCheck rfl rfl rfl rfl rfl ?_
      refine O_fieldAddr rfl rfl rfl rfl rfl Try.runUnderlying138 rfl Try.sizeOf3 ?_
      refine O_loadS hS rfl rfl rfl rfl rfl Try.isAgg3 (by repeat (first | exact .here rfl | apply CellAt.there)) (by trivial) ?_
      refine O_callv rfl rfl rfl rfl rfl rfl (cmp_ib k k0 hS) (fun _ _ hv => trivial) ?_
      rintro _ w ⟨rfl, hS⟩
      refine O_assign rfl rfl rfl rfl rfl ?_
      refine R_nil ?_
      refine tn ?_
      refine F_block ?_
      refine F_seq ?_
      refine F_region (p := ⟨_, [0, 0, 0], []⟩) rfl [0, 1, 2] rfl ?_
      refine O_move rfl rfl rfl rfl rfl ?_
      refine O_cmp rfl rfl rfl rfl rfl rfl rfl ?_
      refine O_assign rfl rfl rfl rfl rfl ?_
      refine R_nil ?_
      refine tn ?_
      refine F_true rfl (decide_eq_true (by omega)) ?_
      refine F_region (p := ⟨_, [0, 0, 0, 0, 0, 1, 0, 2, 0, 0, 0, 0, 0, 2, 0], []⟩) rfl [0, 1, 2, 3, 4, 5, 6, 7, 8, 9, 10, 11, 12, 13, 14] rfl ?_
      refine O_move rfl rfl rfl rfl rfl ?_
      refine O_move rfl rfl rfl rfl rfl ?_
      refine O_move rfl rfl rfl rfl rfl ?_
      refine O_nilCheck rfl rfl rfl rfl rfl ?_
      refine O_fieldAddr rfl rfl rfl rfl rfl Try.runUnderlying138 rfl Try.sizeOf132 ?_
      refine O_loadS hS rfl rfl rfl rfl rfl Try.isAgg132 (by repeat (first | exact .here rfl | apply CellAt.there)) (by trivial) ?_
      refine O_move rfl rfl rfl rfl rfl ?_
      have hQ : Sat w0 (blks [(rb, .cells #[E_ib.cv, x1] 136 (0, 0))] * (tree E_ib pl l * (blks [(b, .cells #[E_ib.k k0, E_ib.v v0, .pointer pl, .pointer pr, .int .i64 (1 + max l.h r.h), .int .i64 (1 + l.m + r.m)] 138 (0, 0))] * (tree E_ib pr r * R)))) w := hS.to (by simp only [blks]; ac_rfl)
      refine O_call rfl rfl rfl rfl Try.call78 rfl (ihl s1 (by omega) hQ) (fun _ _ hv => trivial) ?_
      rintro _ w ⟨p', t', rfl, ht', hS⟩
      have hm' : t'.m ≤ l.m := by have := del_len (O := O_ib) (k := k) (L := l.toList); rw [T.m_len, T.m_len, ht']; split at this <;> omega
      replace hS : Sat w0 (blks [(b, .cells #[E_ib.k k0, E_ib.v v0, .pointer pl, .pointer pr, .int .i64 (1 + max l.h r.h), .int .i64 (1 + l.m + r.m)] 138 (0, 0))] * (tree E_ib p' t' * (tree E_ib pr r * (blks [(rb, .cells #[E_ib.cv, x1] 136 (0, 0))] * R)))) w := hS.to (by simp only [blks]; ac_rfl)
      refine O_move rfl rfl rfl rfl rfl ?_
      refine O_extract rfl rfl rfl rfl rfl rfl ?_
      refine O_extract rfl rfl rfl rfl rfl rfl ?_
      refine O_nilCheck rfl rfl rfl rfl rfl ?_
      refine O_fieldAddr rfl rfl rfl rfl rfl Try.runUnderlying138 rfl Try.sizeOf132 ?_
      refine O_storeS hS rfl rfl rfl rfl rfl rfl rfl Try.sizeOf132 (by repeat (first | exact .here rfl rfl | apply SetAt.there)) (fun w' hv => trivial) ?_
      intro w hS
      refine O_assign rfl rfl rfl rfl rfl ?_
      refine R_nil ?_
      refine bn ?_
      refine tn ?_
      refine F_seq ?_
      refine F_region (p := ⟨_, [0, 2, 0, 0, 0], []⟩) rfl [0, 1, 2, 3, 4] rfl ?_
      refine O_move rfl rfl rfl rfl rfl ?_
      replace hS : Sat w0 (blks [(b, .cells #[E_ib.k k0, E_ib.v v0, .pointer p', .pointer pr, .int .i64 (1 + max l.h r.h), .int .i64 (1 + l.m + r.m)] 138 (0, 0))] * (tree E_ib p' t' * (tree E_ib pr r * (blks [(rb, .cells #[E_ib.cv, x1] 136 (0, 0))] * R)))) w := hS
      refine O_call rfl rfl rfl rfl Try.call99 rfl (even_ib (by omega) hS) (fun _ _ hv => trivial) ?_
      rintro _ w ⟨p'', t'', rfl, ht'', hS⟩
      refine O_move rfl rfl rfl rfl rfl ?_
      refine O_assign rfl rfl rfl rfl rfl ?_
      refine O_assign rfl rfl rfl rfl rfl ?_
      refine R_nil ?_
      refine tn ?_
      refine F_ret ?_
      show endF _ _ _ _ _ _
      refine end0 trivial rfl rfl rfl hS ?_
      intro w hS
      refine ⟨p'', t'', ?_, ?_, hS.b2⟩
      · rw [get_lt e1]; rfl
      · rw [ht'', ht', del_lt e1]
    | false =>
      cases e2 : O_ib.lt k0 k with
      | true =>
        have hc : cmpv O_ib k k0 = 1 := by simp [cmpv, e1, e2]
        refine enterF (args := [_, _, _]) Try.func78 rfl Try.ntmps78 rfl rfl ?_
        refine F_seq ?_
        refine F_region (p := ⟨_, [0, 0], []⟩) rfl [0, 1] rfl ?_
        refine O_assign rfl rfl rfl rfl rfl ?_
        refine O_assign rfl rfl rfl rfl rfl ?_
        refine R_nil ?_
        refine tn ?_
        refine F_seq ?_
        refine F_seq ?_
        refine F_region (p := ⟨_, [0, 0], []⟩) rfl [0, 1] rfl ?_
        refine O_move rfl rfl rfl rfl rfl ?_
        refine O_eqNil rfl rfl rfl rfl rfl rfl Try.runUnderlying132 ?_
        refine R_nil ?_
        refine tn ?_
        refine F_false rfl rfl ?_
        refine F_skip ?_
        refine tn ?_
        refine F_seq ?_
        refine F_region (p := ⟨_, [0], []⟩) rfl [0] rfl ?_
        refine O_assign rfl rfl rfl rfl rfl ?_
        refine R_nil ?_
        refine tn ?_
        refine F_seq ?_
        refine F_seq ?_
        refine F_drawnS hS (by kernel_rfl) (p := ⟨_, [0, 0, 0, 1, 0, 0, 0, 0, 1, 2, 0], []⟩) rfl (.ofList [0, 1, 2, 3, 4, 5, 6, 7, 8, 9, 10]) (by kernel_rfl) ?_
        intro w hS
        refine O_move rfl rfl rfl rfl rfl ?_
        refine O_nilCheck rfl rfl rfl rfl rfl ?_
        refine O_fieldAddr rfl rfl rfl rfl rfl Try.runUnderlying136 rfl Try.sizeOf79 ?_
        refine O_loadS hS rfl rfl rfl rfl rfl Try.isAgg79 (by repeat (first | exact .here rfl | apply CellAt.there)) (by trivial) ?_
        refine O_move rfl rfl rfl rfl rfl ?_
        refine O_move rfl rfl rfl rfl rfl ?_
        refine O_nilCheck rfl rfl rfl rfl rfl ?_
        refine O_fieldAddr rfl rfl rfl rfl rfl Try.runUnderlying138 rfl Try.sizeOf3 ?_
        refine O_loadS hS rfl rfl rfl rfl rfl Try.isAgg3 (by repeat (first | exact .here rfl | apply CellAt.there)) (by trivial) ?_
        refine O_callv rfl rfl rfl rfl rfl rfl (cmp_ib k k0 hS) (fun _ _ hv => trivial) ?_
        rintro _ w ⟨rfl, hS⟩
        refine O_assign rfl rfl rfl rfl rfl ?_
        refine R_nil ?_
        refine tn ?_
        refine F_block ?_
        refine F_seq ?_
        refine F_region (p := ⟨_, [0, 0, 0], []⟩) rfl [0, 1, 2] rfl ?_
        refine O_move rfl rfl rfl rfl rfl ?_
        refine O_cmp rfl rfl rfl rfl rfl rfl rfl ?_
        refine O_assign rfl rfl rfl rfl rfl ?_
        refine R_nil ?_
        refine tn ?_
        refine F_false rfl (decide_eq_false (by omega)) ?_
        refine F_seq ?_
        refine F_region (p := ⟨_, [0, 0, 0], []⟩) rfl [0, 1, 2] rfl ?_
        refine O_move rfl rfl rfl rfl rfl ?_
        refine O_cmp rfl rfl rfl rfl rfl rfl rfl ?_
        refine O_assign rfl rfl rfl rfl rfl ?_
        refine R_nil ?_
        refine tn ?_
        refine F_true rfl (decide_eq_true (by omega)) ?_
        refine F_region (p := ⟨_, [0, 0, 0, 0, 0, 1, 0, 2, 0, 0, 0, 0, 0, 2, 0], []⟩) rfl [0, 1, 2, 3, 4, 5, 6, 7, 8, 9, 10, 11, 12, 13, 14] rfl ?_
        refine O_move rfl rfl rfl rfl rfl ?_
        refine O_move rfl rfl rfl rfl rfl ?_
        refine O_move rfl rfl rfl rfl rfl ?_
        refine O_nilCheck rfl rfl rfl rfl rfl ?_
        refine O_fieldAddr rfl rfl rfl rfl rfl Try.runUnderlying138 rfl Try.sizeOf132 ?_
        refine O_loadS hS rfl rfl rfl rfl rfl Try.isAgg132 (by repeat (first | exact .here rfl | apply CellAt.there)) (by trivial) ?_
        refine O_move rfl rfl rfl rfl rfl ?_
        have hQ : Sat w0 (blks [(rb, .cells #[E_ib.cv, x1] 136 (0, 0))] * (tree E_ib pr r * (blks [(b, .cells #[E_ib.k k0, E_ib.v v0, .pointer pl, .pointer pr, .int .i64 (1 + max l.h r.h), .int .i64 (1 + l.m + r.m)] 138 (0, 0))] * (tree E_ib pl l * R)))) w := hS.to (by simp only [blks]; ac_rfl)
        refine O_call rfl rfl rfl rfl Try.call78 rfl (ihr s2 (by omega) hQ) (fun _ _ hv => trivial) ?_
        rintro _ w ⟨p', t', rfl, ht', hS⟩
        have hm' : t'.m ≤ r.m := by have := del_len (O := O_ib) (k := k) (L := r.toList); rw [T.m_len, T.m_len, ht']; split at this <;> omega
        replace hS : Sat w0 (blks [(b, .cells #[E_ib.k k0, E_ib.v v0, .pointer pl, .pointer pr, .int .i64 (1 + max l.h r.h), .int .i64 (1 + l.m + r.m)] 138 (0, 0))] * (tree E_ib pl l * (tree E_ib p' t' * (blks [(rb, .cells #[E_ib.cv, x1] 136 (0, 0))] * R)))) w := hS.to (by simp only [blks]; ac_rfl)
        refine O_move rfl rfl rfl rfl rfl ?_
        refine O_extract rfl rfl rfl rfl rfl rfl ?_
        refine O_extract rfl rfl rfl rfl rfl rfl ?_
        refine O_nilCheck rfl rfl rfl rfl rfl ?_
        refine O_fieldAddr rfl rfl rfl rfl rfl Try.runUnderlying138 rfl Try.sizeOf132 ?_
        refine O_storeS hS rfl rfl rfl rfl rfl rfl rfl Try.sizeOf132 (by repeat (first | exact .here rfl rfl | apply SetAt.there)) (fun w' hv => trivial) ?_
        intro w hS
        refine O_assign rfl rfl rfl rfl rfl ?_
        refine R_nil ?_
        refine bn ?_
        refine tn ?_
        refine F_seq ?_
        refine F_region (p := ⟨_, [0, 2, 0, 0, 0], []⟩) rfl [0, 1, 2, 3, 4] rfl ?_
        refine O_move rfl rfl rfl rfl rfl ?_
        replace hS : Sat w0 (blks [(b, .cells #[E_ib.k k0, E_ib.v v0, .pointer pl, .pointer p', .int .i64 (1 + max l.h r.h), .int .i64 (1 + l.m + r.m)] 138 (0, 0))] * (tree E_ib pl l * (tree E_ib p' t' * (blks [(rb, .cells #[E_ib.cv, x1] 136 (0, 0))] * R)))) w := hS
        refine O_call rfl rfl rfl rfl Try.call99 rfl (even_ib (by omega) hS) (fun _ _ hv => trivial) ?_
        rintro _ w ⟨p'', t'', rfl, ht'', hS⟩
        refine O_move rfl rfl rfl rfl rfl ?_
        refine O_assign rfl rfl rfl rfl rfl ?_
        refine O_assign rfl rfl rfl rfl rfl ?_
        refine R_nil ?_
        refine tn ?_
        refine F_ret ?_
        show endF _ _ _ _ _ _
        refine end0 trivial rfl rfl rfl hS ?_
        intro w hS
        refine ⟨p'', t'', ?_, ?_, hS.b2⟩
        · rw [get_gt_ e2 s3]; rfl
        · rw [ht'', ht', del_gt_ e2 s3]
      | false =>
        cases r with
        | leaf =>
          have hc : cmpv O_ib k k0 = 0 := by simp [cmpv, e1, e2]
          obtain ⟨rfl, hN⟩ := tree_leaf hS.b3
          clear hS
          have hS : Sat w0 (blks [(rb, .cells #[E_ib.cv, x1] 136 (0, 0)), (b, .cells #[E_ib.k k0, E_ib.v v0, .pointer pl, .pointer none, .int .i64 (1 + max l.h (T.leaf : T Int Bool).h), .int .i64 (1 + l.m + (T.leaf : T Int Bool).m)] 138 (0, 0))] * (tree E_ib pl l * R)) w := hN
          clear hN
          refine enterF (args := [_, _, _]) Try.func78 rfl Try.ntmps78 rfl rfl ?_
          refine F_seq ?_
          refine F_region (p := ⟨_, [0, 0], []⟩) rfl [0, 1] rfl ?_
          refine O_assign rfl rfl rfl rfl rfl ?_
          refine O_assign rfl rfl rfl rfl rfl ?_
          refine R_nil ?_
          refine tn ?_
          refine F_seq ?_
          refine F_seq ?_
          refine F_region (p := ⟨_, [0, 0], []⟩) rfl [0, 1] rfl ?_
          refine O_move rfl rfl rfl rfl rfl ?_
          refine O_eqNil rfl rfl rfl rfl rfl rfl Try.runUnderlying132 ?_
          refine R_nil ?_
          refine tn ?_
          refine F_false rfl rfl ?_
          refine F_skip ?_
          refine tn ?_
          refine F_seq ?_
          refine F_region (p := ⟨_, [0], []⟩) rfl [0] rfl ?_
          refine O_assign rfl rfl rfl rfl rfl ?_
          refine R_nil ?_
          refine tn ?_
          refine F_seq ?_
          refine F_seq ?_
          refine F_drawnS hS (by kernel_rfl) (p := ⟨_, [0, 0, 0, 1, 0, 0, 0, 0, 1, 2, 0], []⟩) rfl (.ofList [0, 1, 2, 3, 4, 5, 6, 7, 8, 9, 10]) (by kernel_rfl) ?_
          intro w hS
          refine O_move rfl rfl rfl rfl rfl ?_
          refine O_nilCheck rfl rfl rfl rfl rfl ?_
          refine O_fieldAddr rfl rfl rfl rfl rfl Try.runUnderlying136 rfl Try.sizeOf79 ?_
          refine O_loadS hS rfl rfl rfl rfl rfl Try.isAgg79 (by repeat (first | exact .here rfl | apply CellAt.there)) (by trivial) ?_
          refine O_move rfl rfl rfl rfl rfl ?_
          refine O_move rfl rfl rfl rfl rfl ?_
          refine O_nilCheck rfl rfl rfl rfl rfl ?_
          refine O_fieldAddr rfl rfl rfl rfl rfl Try.runUnderlying138 rfl Try.sizeOf3 ?_
          refine O_loadS hS rfl rfl rfl rfl rfl Try.isAgg3 (by repeat (first | exact .here rfl | apply CellAt.there)) (by trivial) ?_
          refine O_callv rfl rfl rfl rfl rfl rfl (cmp_ib k k0 hS) (fun _ _ hv => trivial) ?_
          rintro _ w ⟨rfl, hS⟩
          refine O_assign rfl rfl rfl rfl rfl ?_
          refine R_nil ?_
          refine tn ?_
          refine F_block ?_
          refine F_seq ?_
          refine F_region (p := ⟨_, [0, 0, 0], []⟩) rfl [0, 1, 2] rfl ?_
          refine O_move rfl rfl rfl rfl rfl ?_
          refine O_cmp rfl rfl rfl rfl rfl rfl rfl ?_
          refine O_assign rfl rfl rfl rfl rfl ?_
          refine R_nil ?_
          refine tn ?_
          refine F_false rfl (decide_eq_false (by omega)) ?_
          refine F_seq ?_
          refine F_region (p := ⟨_, [0, 0, 0], []⟩) rfl [0, 1, 2] rfl ?_
          refine O_move rfl rfl rfl rfl rfl ?_
          refine O_cmp rfl rfl rfl rfl rfl rfl rfl ?_
          refine O_assign rfl rfl rfl rfl rfl ?_
          refine R_nil ?_
          refine tn ?_
          refine F_false rfl (decide_eq_false (by omega)) ?_
          refine F_seq ?_
          refine F_region (p := ⟨_, [0, 0, 0, 1, 0, 0], []⟩) rfl [0, 1, 2, 3, 4, 5] rfl ?_
          refine O_move rfl rfl rfl rfl rfl ?_
          refine O_nilCheck rfl rfl rfl rfl rfl ?_
          refine O_fieldAddr rfl rfl rfl rfl rfl Try.runUnderlying138 rfl Try.sizeOf132 ?_
          refine O_loadS hS rfl rfl rfl rfl rfl Try.isAgg132 (by repeat (first | exact .here rfl | apply CellAt.there)) (by trivial) ?_
          refine O_eqNil rfl rfl rfl rfl rfl rfl Try.runUnderlying132 ?_
          refine O_assign rfl rfl rfl rfl rfl ?_
          refine R_nil ?_
          refine tn ?_
          refine F_true rfl rfl ?_
          refine F_seq ?_
          refine F_region (p := ⟨_, [0, 0, 0, 1, 0, 0], []⟩) rfl [0, 1, 2, 3, 4, 5] rfl ?_
          refine O_move rfl rfl rfl rfl rfl ?_
          refine O_nilCheck rfl rfl rfl rfl rfl ?_
          refine O_fieldAddr rfl rfl rfl rfl rfl Try.runUnderlying138 rfl Try.sizeOf132 ?_
          refine O_loadS hS rfl rfl rfl rfl rfl Try.isAgg132 (by repeat (first | exact .here rfl | apply CellAt.there)) (by trivial) ?_
          refine O_assign rfl rfl rfl rfl rfl ?_
          refine O_assign rfl rfl rfl rfl rfl ?_
          refine R_nil ?_
          refine tn ?_
          refine F_ret ?_
          refine br ?_
          refine tr ?_
          show endF _ _ _ _ _ _
          refine end0 trivial rfl rfl rfl hS ?_
          intro w hS
          refine ⟨pl, l, ?_, ?_, ?_⟩
          · rw [get_eq e1 e2 s3]; rfl
          · rw [del_eq e1 e2 s3]; simp [T.toList]
          · exact Sat.dropR (A := blks [(b, .cells #[E_ib.k k0, E_ib.v v0, .pointer pl, .pointer none, .int .i64 (1 + max l.h (T.leaf : T Int Bool).h), .int .i64 (1 + l.m + (T.leaf : T Int Bool).m)] 138 (0, 0))]) (hS.to (by simp only [blks]; ac_rfl))
        | node r1 k1 v1 r2 =>
          have hc : cmpv O_ib k k0 = 0 := by simp [cmpv, e1, e2]
          obtain ⟨bc, p1, p2, rfl, hN⟩ := tree_node hS.b3
          clear hS
          have d3 := r1.bd
          have d4 := r2.bd
          simp only [T.m] at hm
          have hS : Sat w0 (blks [(rb, .cells #[E_ib.cv, x1] 136 (0, 0)), (b, .cells #[E_ib.k k0, E_ib.v v0, .pointer pl, .pointer (some ⟨bc, 0, none⟩), .int .i64 (1 + max l.h (T.node r1 k1 v1 r2).h), .int .i64 (1 + l.m + (T.node r1 k1 v1 r2).m)] 138 (0, 0))] * (tree E_ib pl l * (blks [(bc, .cells #[E_ib.k k1, E_ib.v v1, .pointer p1, .pointer p2, .int .i64 (1 + max r1.h r2.h), .int .i64 (1 + r1.m + r2.m)] 138 (0, 0))] * (tree E_ib p1 r1 * (tree E_ib p2 r2 * R))))) w := hN.to (by simp only [blks]; ac_rfl)
          clear hN
          refine enterF (args := [_, _, _]) Try.func78 rfl Try.ntmps78 rfl rfl ?_
          refine F_seq ?_
          refine F_region (p := ⟨_, [0, 0], []⟩) rfl [0, 1] rfl ?_
          refine O_assign rfl rfl rfl rfl rfl ?_
          refine O_assign rfl rfl rfl rfl rfl ?_
          refine R_nil ?_
          refine tn ?_
          refine F_seq ?_
          refine F_seq ?_
          refine F_region (p := ⟨_, [0, 0], []⟩) rfl [0, 1] rfl ?_
          refine O_move rfl rfl rfl rfl rfl ?_
          refine O_eqNil rfl rfl rfl rfl rfl rfl Try.runUnderlying132 ?_
          refine R_nil ?_
          refine tn ?_
          refine F_false rfl rfl ?_
          refine F_skip ?_
          refine tn ?_
          refine F_seq ?_
          refine F_region (p := ⟨_, [0], []⟩) rfl [0] rfl ?_
          refine O_assign rfl rfl rfl rfl rfl ?_
          refine R_nil ?_
          refine tn ?_
          refine F_seq ?_
          refine F_seq ?_
          refine F_drawnS hS (by kernel_rfl) (p := ⟨_, [0, 0, 0, 1, 0, 0, 0, 0, 1, 2, 0], []⟩) rfl (.ofList [0, 1, 2, 3, 4, 5, 6, 7, 8, 9, 10]) (by kernel_rfl) ?_
          intro w hS
          refine O_move rfl rfl rfl rfl rfl ?_
          refine O_nilCheck rfl rfl rfl rfl rfl ?_
          refine O_fieldAddr rfl rfl rfl rfl rfl Try.runUnderlying136 rfl Try.sizeOf79 ?_
          refine O_loadS hS rfl rfl rfl rfl rfl Try.isAgg79 (by repeat (first | exact .here rfl | apply CellAt.there)) (by trivial) ?_
          refine O_move rfl rfl rfl rfl rfl ?_
          refine O_move rfl rfl rfl rfl rfl ?_
          refine O_nilCheck rfl rfl rfl rfl rfl ?_
          refine O_fieldAddr rfl rfl rfl rfl rfl Try.runUnderlying138 rfl Try.sizeOf3 ?_
          refine O_loadS hS rfl rfl rfl rfl rfl Try.isAgg3 (by repeat (first | exact .here rfl | apply CellAt.there)) (by trivial) ?_
          refine O_callv rfl rfl rfl rfl rfl rfl (cmp_ib k k0 hS) (fun _ _ hv => trivial) ?_
          rintro _ w ⟨rfl, hS⟩
          refine O_assign rfl rfl rfl rfl rfl ?_
          refine R_nil ?_
          refine tn ?_
          refine F_block ?_
          refine F_seq ?_
          refine F_region (p := ⟨_, [0, 0, 0], []⟩) rfl [0, 1, 2] rfl ?_
          refine O_move rfl rfl rfl rfl rfl ?_
          refine O_cmp rfl rfl rfl rfl rfl rfl rfl ?_
          refine O_assign rfl rfl rfl rfl rfl ?_
          refine R_nil ?_
          refine tn ?_
          refine F_false rfl (decide_eq_false (by omega)) ?_
          refine F_seq ?_
          refine F_region (p := ⟨_, [0, 0, 0], []⟩) rfl [0, 1, 2] rfl ?_
          refine O_move rfl rfl rfl rfl rfl ?_
          refine O_cmp rfl rfl rfl rfl rfl rfl rfl ?_
          refine O_assign rfl rfl rfl rfl rfl ?_
          refine R_nil ?_
          refine tn ?_
          refine F_false rfl (decide_eq_false (by omega)) ?_
          refine F_seq ?_
          refine F_region (p := ⟨_, [0, 0, 0, 1, 0, 0], []⟩) rfl [0, 1, 2, 3, 4, 5] rfl ?_
          refine O_move rfl rfl rfl rfl rfl ?_
          refine O_nilCheck rfl rfl rfl rfl rfl ?_
          refine O_fieldAddr rfl rfl rfl rfl rfl Try.runUnderlying138 rfl Try.sizeOf132 ?_
          refine O_loadS hS rfl rfl rfl rfl rfl Try.isAgg132 (by repeat (first | exact .here rfl | apply CellAt.there)) (by trivial) ?_
          refine O_eqNil rfl rfl rfl rfl rfl rfl Try.runUnderlying132 ?_
          refine O_assign rfl rfl rfl rfl rfl ?_
          refine R_nil ?_
          refine tn ?_
          refine F_false rfl rfl ?_
          refine F_seq ?_
          refine F_region (p := ⟨_, [0, 0, 0, 1, 2, 0, 0, 0, 0, 0], []⟩) rfl [0, 1, 2, 3, 4, 5, 6, 7, 8, 9] rfl ?_
          refine O_move rfl rfl rfl rfl rfl ?_
          refine O_nilCheck rfl rfl rfl rfl rfl ?_
          refine O_fieldAddr rfl rfl rfl rfl rfl Try.runUnderlying138 rfl Try.sizeOf132 ?_
          refine O_loadS hS rfl rfl rfl rfl rfl Try.isAgg132 (by repeat (first | exact .here rfl | apply CellAt.there)) (by trivial) ?_
          have hQ : Sat w0 (blks [(bc, .cells #[E_ib.k k1, E_ib.v v1, .pointer p1, .pointer p2, .int .i64 (1 + max r1.h r2.h), .int .i64 (1 + r1.m + r2.m)] 138 (0, 0))] * (tree E_ib p1 r1 * (tree E_ib p2 r2 * (blks [(rb, .cells #[E_ib.cv, x1] 136 (0, 0)), (b, .cells #[E_ib.k k0, E_ib.v v0, .pointer pl, .pointer (some ⟨bc, 0, none⟩), .int .i64 (1 + max l.h (T.node r1 k1 v1 r2).h), .int .i64 (1 + l.m + (T.node r1 k1 v1 r2).m)] 138 (0, 0))] * (tree E_ib pl l * R))))) w := hS.to (by simp only [blks]; ac_rfl)
          refine O_call rfl rfl rfl rfl Try.call100 rfl (least_ib r1 (by omega) hQ) (fun _ _ hv => trivial) ?_
          rintro _ w ⟨bf, p', t', kf, vf, q1, q2, y4, y5, rfl, ht', hS⟩
          have hm' : t'.m = r1.m + r2.m := by have := congrArg List.length ht'; simp only [List.length_append, List.length_cons] at this; rw [T.m_len, T.m_len, T.m_len]; omega
          have d5 := t'.bd
          replace hS : Sat w0 (blks [(rb, .cells #[E_ib.cv, x1] 136 (0, 0)), (b, .cells #[E_ib.k k0, E_ib.v v0, .pointer pl, .pointer (some ⟨bc, 0, none⟩), .int .i64 (1 + max l.h (T.node r1 k1 v1 r2).h), .int .i64 (1 + l.m + (T.node r1 k1 v1 r2).m)] 138 (0, 0)), (bf, .cells #[E_ib.k kf, E_ib.v vf, .pointer q1, .pointer q2, y4, y5] 138 (0, 0))] * (tree E_ib pl l * (tree E_ib p' t' * R))) w := hS.to (by simp only [blks]; ac_rfl)
          refine O_move rfl rfl rfl rfl rfl ?_
          refine O_extract rfl rfl rfl rfl rfl rfl ?_
          refine O_extract rfl rfl rfl rfl rfl rfl ?_
          refine O_assign rfl rfl rfl rfl rfl ?_
          refine O_assign rfl rfl rfl rfl rfl ?_
          refine R_nil ?_
          refine tn ?_
          refine F_seq ?_
          refine F_region (p := ⟨_, [0, 0, 0, 0, 0, 1, 0, 0, 0, 2, 0, 0, 2], []⟩) rfl [0, 1, 2, 3, 4, 5, 6, 7, 8, 9, 10, 11, 12] rfl ?_
          refine O_move rfl rfl rfl rfl rfl ?_
          refine O_move rfl rfl rfl rfl rfl ?_
          refine O_move rfl rfl rfl rfl rfl ?_
          refine O_nilCheck rfl rfl rfl rfl rfl ?_
          refine O_fieldAddr rfl rfl rfl rfl rfl Try.runUnderlying138 rfl Try.sizeOf132 ?_
          refine O_loadS hS rfl rfl rfl rfl rfl Try.isAgg132 (by repeat (first | exact .here rfl | apply CellAt.there)) (by trivial) ?_
          refine O_move rfl rfl rfl rfl rfl ?_
          refine O_nilCheck rfl rfl rfl rfl rfl ?_
          refine O_fieldAddr rfl rfl rfl rfl rfl Try.runUnderlying138 rfl Try.sizeOf132 ?_
          refine O_storeS hS rfl rfl rfl rfl rfl rfl rfl Try.sizeOf132 (by repeat (first | exact .here rfl rfl | apply SetAt.there)) (fun w' hv => trivial) ?_
          intro w hS
          refine O_nilCheck rfl rfl rfl rfl rfl ?_
          refine O_fieldAddr rfl rfl rfl rfl rfl Try.runUnderlying138 rfl Try.sizeOf132 ?_
          refine O_storeS hS rfl rfl rfl rfl rfl rfl rfl Try.sizeOf132 (by repeat (first | exact .here rfl rfl | apply SetAt.there)) (fun w' hv => trivial) ?_
          intro w hS
          refine R_nil ?_
          refine tn ?_
          refine F_region (p := ⟨_, [0, 0], []⟩) rfl [0, 1] rfl ?_
          refine O_move rfl rfl rfl rfl rfl ?_
          refine O_assign rfl rfl rfl rfl rfl ?_
          refine R_nil ?_
          refine bn ?_
          refine tn ?_
          refine F_seq ?_
          refine F_region (p := ⟨_, [0, 2, 0, 0, 0], []⟩) rfl [0, 1, 2, 3, 4] rfl ?_
          refine O_move rfl rfl rfl rfl rfl ?_
          replace hS : Sat w0 (blks [(rb, .cells #[E_ib.cv, x1] 136 (0, 0)), (b, .cells #[E_ib.k k0, E_ib.v v0, .pointer pl, .pointer (some ⟨bc, 0, none⟩), .int .i64 (1 + max l.h (T.node r1 k1 v1 r2).h), .int .i64 (1 + l.m + (T.node r1 k1 v1 r2).m)] 138 (0, 0)), (bf, .cells #[E_ib.k kf, E_ib.v vf, .pointer pl, .pointer p', y4, y5] 138 (0, 0))] * (tree E_ib pl l * (tree E_ib p' t' * R))) w := hS
          replace hS : Sat w0 (blks [(bf, .cells #[E_ib.k kf, E_ib.v vf, .pointer pl, .pointer p', y4, y5] 138 (0, 0))] * (tree E_ib pl l * (tree E_ib p' t' * (blks [(rb, .cells #[E_ib.cv, x1] 136 (0, 0))] * (R * blks [(b, .cells #[E_ib.k k0, E_ib.v v0, .pointer pl, .pointer (some ⟨bc, 0, none⟩), .int .i64 (1 + max l.h (T.node r1 k1 v1 r2).h), .int .i64 (1 + l.m + (T.node r1 k1 v1 r2).m)] 138 (0, 0))]))))) w := hS.to (by simp only [blks]; ac_rfl)
          replace hS : Sat w0 (blks [(bf, .cells #[E_ib.k kf, E_ib.v vf, .pointer pl, .pointer p', y4, y5] 138 (0, 0))] * (tree E_ib pl l * (tree E_ib p' t' * (blks [(rb, .cells #[E_ib.cv, x1] 136 (0, 0))] * R)))) w := Sat.dropR (A := blks [(b, .cells #[E_ib.k k0, E_ib.v v0, .pointer pl, .pointer (some ⟨bc, 0, none⟩), .int .i64 (1 + max l.h (T.node r1 k1 v1 r2).h), .int .i64 (1 + l.m + (T.node r1 k1 v1 r2).m)] 138 (0, 0))]) (hS.to (by ac_rfl))
          refine O_call rfl rfl rfl rfl Try.call99 rfl (even_ib (by omega) hS) (fun _ _ hv => trivial) ?_
          rintro _ w ⟨p'', t'', rfl, ht'', hS⟩
          refine O_move rfl rfl rfl rfl rfl ?_
          refine O_assign rfl rfl rfl rfl rfl ?_
          refine O_assign rfl rfl rfl rfl rfl ?_
          refine R_nil ?_
          refine tn ?_
          refine F_ret ?_
          show endF _ _ _ _ _ _
          refine end0 trivial rfl rfl rfl hS ?_
          intro w hS
          refine ⟨p'', t'', ?_, ?_, hS.b2⟩
          · rw [get_eq e1 e2 s3]; rfl
          · rw [ht'', del_eq e1 e2 s3, T.toList, ht']
theorem New_ib {w0 w : World} {R : HProp} (hS : Sat w0 R w) : Calls Try.prog 74 #[E_ib.cv] w (ret fun u w' => ∃ rb, u = .pointer (some ⟨rb, 0, none⟩) ∧ Sat w0 (rackP E_ib O_ib rb [] * R) w') := by
  replace hS := hS.noblks
  refine enterF (args := [_]) Try.func74 rfl Try.ntmps74 rfl rfl ?_
  refine F_seq ?_
  refine F_region (p := ⟨_, [0], []⟩) rfl [0] rfl ?_
  refine O_assign rfl rfl rfl rfl rfl ?_
  refine R_nil ?_
  refine tn ?_
  refine F_seq ?_
  refine F_region (p := ⟨_, [0, 0, 2, 0], []⟩) rfl [0, 1, 2, 3] rfl ?_
  refine O_move rfl rfl rfl rfl rfl ?_
  refine O_build rfl rfl rfl rfl rfl (run_buildS [_, _] Try.zeroValue136 Try.runUnderlying136 (fun _ => 1) ⟨Try.sizeOf79, Try.sizeOf132, trivial⟩ rfl) ?_
  refine O_boxS hS rfl rfl rfl rfl rfl (fun _ _ hv => trivial) ?_
  intro b1 w hS
  refine O_assign rfl rfl rfl rfl rfl ?_
  refine R_nil ?_
  refine tn ?_
  refine F_ret ?_
  show endF _ _ _ _ _ _
  refine end0 trivial rfl rfl rfl hS ?_
  intro w hS
  exact ⟨_, rfl, rackP_mk (t := .leaf) rfl (by simp [Srt]) ((tree_leaf_mk (E := E_ib) (hS.to (by simp only [blks]; ac_rfl))).b2)⟩
theorem Put_ib {w0 w : World} {R : HProp} {rb : Nat} {xs : List (Int × Bool)} (k : Int) (v : Bool) (hm : (xs.length : Int) ≤ 4611686018427370000) (hS : Sat w0 (rackP E_ib O_ib rb xs * R) w) :
    Calls Try.prog 55 #[.pointer (some ⟨rb, 0, none⟩), E_ib.k k, E_ib.v v] w (ret fun u w' => u = .bool (get O_ib k xs).isSome ∧ Sat w0 (rackP E_ib O_ib rb (ins O_ib k v xs) * R) w') := by
  obtain ⟨root, t, rfl, hs, hS⟩ := rackP_open hS
  have hm' : t.m ≤ 4611686018427370000 := by rw [T.m_len]; exact hm
  refine enterF (args := [_, _, _]) Try.func55 rfl Try.ntmps55 rfl rfl ?_
  refine F_seq ?_
  refine F_region (p := ⟨_, [0], []⟩) rfl [0] rfl ?_
  refine O_assign rfl rfl rfl rfl rfl ?_
  refine R_nil ?_
  refine tn ?_
  refine F_seq ?_
  refine F_region (p := ⟨_, [0, 0, 0, 0, 1, 0, 0, 2, 0, 0, 0, 0, 0], []⟩) rfl [0, 1, 2, 3, 4, 5, 6, 7, 8, 9, 10, 11, 12] rfl ?_
  refine O_move rfl rfl rfl rfl rfl ?_
  refine O_move rfl rfl rfl rfl rfl ?_
  refine O_nilCheck rfl rfl rfl rfl rfl ?_
  refine O_fieldAddr rfl rfl rfl rfl rfl Try.runUnderlying136 rfl Try.sizeOf132 ?_
  refine O_loadS hS rfl rfl rfl rfl rfl Try.isAgg132 (by repeat (first | exact .here rfl | apply CellAt.there)) (by trivial) ?_
  refine O_move rfl rfl rfl rfl rfl ?_
  refine O_move rfl rfl rfl rfl rfl ?_
  refine O_call rfl rfl rfl rfl Try.call76 rfl (put_ib t hs hm' hS) (fun _ _ hv => trivial) ?_
  rintro _ w ⟨p', t', rfl, ht', hS⟩
  refine O_move rfl rfl rfl rfl rfl ?_
  refine O_extract rfl rfl rfl rfl rfl rfl ?_
  refine O_extract rfl rfl rfl rfl rfl rfl ?_
  refine O_assign rfl rfl rfl rfl rfl ?_
  refine O_assign rfl rfl rfl rfl rfl ?_
  refine R_nil ?_
  refine tn ?_
  refine F_seq ?_
  refine F_region (p := ⟨_, [0, 0, 0, 0, 2], []⟩) rfl [0, 1, 2, 3, 4] rfl ?_
  refine O_move rfl rfl rfl rfl rfl ?_
  refine O_move rfl rfl rfl rfl rfl ?_
  refine O_nilCheck rfl rfl rfl rfl rfl ?_
  refine O_fieldAddr rfl rfl rfl rfl rfl Try.runUnderlying136 rfl Try.sizeOf132 ?_
  refine O_storeS hS rfl rfl rfl rfl rfl rfl rfl Try.sizeOf132 (by repeat (first | exact .here rfl rfl | apply SetAt.there)) (fun w' hv => trivial) ?_
  intro w hS
  refine R_nil ?_
  refine tn ?_
  refine F_seq ?_
  refine F_region (p := ⟨_, [0, 0], []⟩) rfl [0, 1] rfl ?_
  refine O_move rfl rfl rfl rfl rfl ?_
  refine O_assign rfl rfl rfl rfl rfl ?_
  refine R_nil ?_
  refine tn ?_
  refine F_ret ?_
  show endF _ _ _ _ _ _
  refine end0 trivial rfl rfl rfl hS ?_
  intro w hS
  exact ⟨rfl, rackP_mk ht' (ins_srt hs) hS⟩
theorem Drop_ib {w0 w : World} {R : HProp} {rb : Nat} {xs : List (Int × Bool)} (k : Int) (hm : (xs.length : Int) ≤ 4611686018427370000) (hS : Sat w0 (rackP E_ib O_ib rb xs * R) w) :
    Calls Try.prog 58 #[.pointer (some ⟨rb, 0, none⟩), E_ib.k k] w (ret fun u w' => u = .bool (get O_ib k xs).isSome ∧ Sat w0 (rackP E_ib O_ib rb (del O_ib k xs) * R) w') := by
  obtain ⟨root, t, rfl, hs, hS⟩ := rackP_open hS
  have hm' : t.m ≤ 4611686018427370000 := by rw [T.m_len]; exact hm
  refine enterF (args := [_, _]) Try.func58 rfl Try.ntmps58 rfl rfl ?_
  refine F_seq ?_
  refine F_region (p := ⟨_, [0], []⟩) rfl [0] rfl ?_
  refine O_assign rfl rfl rfl rfl rfl ?_
  refine R_nil ?_
  refine tn ?_
  refine F_seq ?_
  refine F_region (p := ⟨_, [0, 0, 0, 0, 1, 0, 2, 0, 0, 0, 0, 0], []⟩) rfl [0, 1, 2, 3, 4, 5, 6, 7, 8, 9, 10, 11] rfl ?_
  refine O_move rfl rfl rfl rfl rfl ?_
  refine O_move rfl rfl rfl rfl rfl ?_
  refine O_nilCheck rfl rfl rfl rfl rfl ?_
  refine O_fieldAddr rfl rfl rfl rfl rfl Try.runUnderlying136 rfl Try.sizeOf132 ?_
  refine O_loadS hS rfl rfl rfl rfl rfl Try.isAgg132 (by repeat (first | exact .here rfl | apply CellAt.there)) (by trivial) ?_
  refine O_move rfl rfl rfl rfl rfl ?_
  refine O_call rfl rfl rfl rfl Try.call78 rfl (drop_ib t hs hm' hS) (fun _ _ hv => trivial) ?_
  rintro _ w ⟨p', t', rfl, ht', hS⟩
  refine O_move rfl rfl rfl rfl rfl ?_
  refine O_extract rfl rfl rfl rfl rfl rfl ?_
  refine O_extract rfl rfl rfl rfl rfl rfl ?_
  refine O_assign rfl rfl rfl rfl rfl ?_
  refine O_assign rfl rfl rfl rfl rfl ?_
  refine R_nil ?_
  refine tn ?_
  refine F_seq ?_
  refine F_region (p := ⟨_, [0, 0, 0, 0, 2], []⟩) rfl [0, 1, 2, 3, 4] rfl ?_
  refine O_move rfl rfl rfl rfl rfl ?_
  refine O_move rfl rfl rfl rfl rfl ?_
  refine O_nilCheck rfl rfl rfl rfl rfl ?_
  refine O_fieldAddr rfl rfl rfl rfl rfl Try.runUnderlying136 rfl Try.sizeOf132 ?_
  refine O_storeS hS rfl rfl rfl rfl rfl rfl rfl Try.sizeOf132 (by repeat (first | exact .here rfl rfl | apply SetAt.there)) (fun w' hv => trivial) ?_
  intro w hS
  refine R_nil ?_
  refine tn ?_
  refine F_seq ?_
  refine F_region (p := ⟨_, [0, 0], []⟩) rfl [0, 1] rfl ?_
  refine O_move rfl rfl rfl rfl rfl ?_
  refine O_assign rfl rfl rfl rfl rfl ?_
  refine R_nil ?_
  refine tn ?_
  refine F_ret ?_
  show endF _ _ _ _ _ _
  refine end0 trivial rfl rfl rfl hS ?_
  intro w hS
  exact ⟨rfl, rackP_mk ht' (del_srt hs) hS⟩
theorem Len_ib {w0 w : World} {R : HProp} {rb : Nat} {xs : List (Int × Bool)} (hS : Sat w0 (rackP E_ib O_ib rb xs * R) w) :
    Calls Try.prog 56 #[.pointer (some ⟨rb, 0, none⟩)] w (ret fun u w' => u = .int .i64 xs.length ∧ Sat w0 (rackP E_ib O_ib rb xs * R) w') := by
  obtain ⟨root, t, rfl, hs, hS⟩ := rackP_open hS
  refine enterF (args := [_]) Try.func56 rfl Try.ntmps56 rfl rfl ?_
  refine F_seq ?_
  refine F_region (p := ⟨_, [0], []⟩) rfl [0] rfl ?_
  refine O_assign rfl rfl rfl rfl rfl ?_
  refine R_nil ?_
  refine tn ?_
  refine F_seq ?_
  refine F_region (p := ⟨_, [0, 0, 0, 1, 2, 0], []⟩) rfl [0, 1, 2, 3, 4, 5] rfl ?_
  refine O_move rfl rfl rfl rfl rfl ?_
  refine O_nilCheck rfl rfl rfl rfl rfl ?_
  refine O_fieldAddr rfl rfl rfl rfl rfl Try.runUnderlying136 rfl Try.sizeOf132 ?_
  refine O_loadS hS rfl rfl rfl rfl rfl Try.isAgg132 (by repeat (first | exact .here rfl | apply CellAt.there)) (by trivial) ?_
  refine O_call rfl rfl rfl rfl Try.call77 rfl ((ht_ib _ _ _ hS.b2).2) (fun _ _ hv => trivial) ?_
  rintro _ w ⟨rfl, hS⟩
  replace hS := hS.b2
  refine O_assign rfl rfl rfl rfl rfl ?_
  refine R_nil ?_
  refine tn ?_
  refine F_ret ?_
  show endF _ _ _ _ _ _
  refine end0 trivial rfl rfl rfl hS ?_
  intro w hS
  exact ⟨by rw [← T.m_len]; rfl, rackP_mk rfl hs hS⟩
theorem Get_ib {w0 w : World} {R : HProp} {rb : Nat} {xs : List (Int × Bool)} (k : Int) (hS : Sat w0 (rackP E_ib O_ib rb xs * R) w) :
    Calls Try.prog 73 #[.pointer (some ⟨rb, 0, none⟩), E_ib.k k] w (ret fun u w' => u = getV E_ib (.bool false) (get O_ib k xs) ∧ Sat w0 (rackP E_ib O_ib rb xs * R) w') := by
  obtain ⟨root, t0, rfl, hs, hS⟩ := rackP_open hS
  refine enterF (args := [_, _]) Try.func73 rfl Try.ntmps73 rfl rfl ?_
  refine F_seq ?_
  refine F_region (p := ⟨_, [0, 0], []⟩) rfl [0, 1] rfl ?_
  refine O_assign rfl rfl rfl rfl rfl ?_
  refine O_assign rfl rfl rfl rfl rfl ?_
  refine R_nil ?_
  refine tn ?_
  refine F_seq ?_
  refine F_seq ?_
  refine F_region (p := ⟨_, [0, 0, 0, 1, 0], []⟩) rfl [0, 1, 2, 3, 4] rfl ?_
  refine O_move rfl rfl rfl rfl rfl ?_
  refine O_nilCheck rfl rfl rfl rfl rfl ?_
  refine O_fieldAddr rfl rfl rfl rfl rfl Try.runUnderlying136 rfl Try.sizeOf132 ?_
  refine O_loadS hS rfl rfl rfl rfl rfl Try.isAgg132 (by repeat (first | exact .here rfl | apply CellAt.there)) (by trivial) ?_
  refine O_assign rfl rfl rfl rfl rfl ?_
  refine R_nil ?_
  refine tn ?_
  refine F_block ?_
  refine F_loop (α := Option Addr × T Int Bool) (fun x => [(0, .pointer (some ⟨rb, 0, none⟩)), (1, E_ib.k k), (4, (.bool false)), (5, .bool false), (6, .pointer x.1)]) (fun x w => get O_ib k x.2.toList = get O_ib k t0.toList ∧ Srt O_ib x.2.toList ∧ ∃ C : HProp, Sat w0 (blks [(rb, .cells #[E_ib.cv, .pointer root] 136 (0, 0))] * (tree E_ib x.1 x.2 * (C * R))) w ∧ ∀ R' w', Sat w0 (tree E_ib x.1 x.2 * (C * R')) w' → Sat w0 (tree E_ib root t0 * R') w') (fun x => x.2.sz) (root, t0) ⟨rfl, rfl, rfl, rfl, rfl, trivial⟩ ⟨rfl, hs, hemp, hS.to (by ac_rfl), fun R' w' h' => h'.to (by ac_rfl)⟩ ?_
  clear hS
  rintro ⟨p, t⟩ w ⟨hg, hs', C, hS, hC⟩
  cases t with
  | leaf =>
    obtain ⟨rfl, hN⟩ := tree_leaf hS.b2
    clear hS
    have hS := hN
    refine F_seq ?_
    refine F_seq ?_
    refine F_region (p := ⟨_, [0, 0], []⟩) rfl [0, 1] rfl ?_
    refine O_move rfl rfl rfl rfl rfl ?_
    refine O_neNil rfl rfl rfl rfl rfl rfl Try.runUnderlying132 ?_
    refine R_nil ?_
    refine tn ?_
    refine F_false rfl rfl ?_
    refine F_exit ?_
    refine tx ?_
    refine tx ?_
    refine Go.Sl.bx rfl ?_
    refine tn ?_
    refine F_seq ?_
    refine F_region (p := ⟨_, [0], []⟩) rfl [0] rfl ?_
    refine O_assign rfl rfl rfl rfl rfl ?_
    refine R_nil ?_
    refine tn ?_
    refine F_seq ?_
    refine F_region (p := ⟨_, [0, 0, 0], []⟩) rfl [0, 1, 2] rfl ?_
    refine O_move rfl rfl rfl rfl rfl ?_
    refine O_assign rfl rfl rfl rfl rfl ?_
    refine O_assign rfl rfl rfl rfl rfl ?_
    refine R_nil ?_
    refine tn ?_
    refine F_ret ?_
    show endF _ _ _ _ _ _
    refine end0 trivial rfl rfl rfl hS ?_
    intro w hS
    refine ⟨by rw [← hg]; rfl, ?_⟩
    exact rackP_mk rfl hs ((hC _ _ ((tree_leaf_mk (E := E_ib) (hS.to (A := _) (by ac_rfl)) : Sat w0 (tree E_ib none .leaf * (C * (blks [(rb, .cells #[E_ib.cv, .pointer root] 136 (0, 0))] * R))) w))).b2)
  | node l k0 v0 r =>
    obtain ⟨b, pl, pr, rfl, hN⟩ := tree_node hS.b2
    clear hS
    simp only [T.toList] at hg hs'
    obtain ⟨s1, s2, s3, s4⟩ := srt_left hs'
    have hS : Sat w0 (blks [(rb, .cells #[E_ib.cv, .pointer root] 136 (0, 0)), (b, .cells #[E_ib.k k0, E_ib.v v0, .pointer pl, .pointer pr, .int .i64 (1 + max l.h r.h), .int .i64 (1 + l.m + r.m)] 138 (0, 0))] * (tree E_ib pl l * (tree E_ib pr r * (C * R)))) w := hN.to (by simp only [blks]; ac_rfl)
    clear hN
    cases e1 : O_ib.lt k k0 with
    | true =>
      have hc : cmpv O_ib k k0 = -1 := by simp [cmpv, e1]
      refine F_seq ?_
      refine F_seq ?_
      refine F_region (p := ⟨_, [0, 0], []⟩) rfl [0, 1] rfl ?_
      refine O_move rfl rfl rfl rfl rfl ?_
      refine O_neNil rfl rfl rfl rfl rfl rfl Try.runUnderlying132 ?_
      refine R_nil ?_
      refine tn ?_
      refine F_true rfl rfl ?_
      refine F_skip ?_
      refine tn ?_
      refine F_block ?_
      refine F_seq ?_
      refine F_drawnS hS (by kernel_rfl) (p := ⟨_, [0, 0, 0, 1, 0, 0, 0, 0, 1, 2, 0], []⟩) rfl (.ofList [0, 1, 2, 3, 4, 5, 6, 7, 8, 9, 10]) (by kernel_rfl) ?_
      intro w hS
      refine O_move rfl rfl rfl rfl rfl ?_
      refine O_nilCheck rfl rfl rfl rfl rfl ?_
      refine O_fieldAddr rfl rfl rfl rfl rfl Try.runUnderlying136 rfl Try.sizeOf79 ?_
      refine O_loadS hS rfl rfl rfl rfl rfl Try.isAgg79 (by repeat (first | exact .here rfl | apply CellAt.there)) (by trivial) ?_
      refine O_move rfl rfl rfl rfl rfl ?_
      refine O_move rfl rfl rfl rfl rfl ?_
      refine O_nilCheck rfl rfl rfl rfl rfl ?_
      refine O_fieldAddr rfl rfl rfl rfl rfl Try.runUnderlying138 rfl Try.sizeOf3 ?_
      refine O_loadS hS rfl rfl rfl rfl rfl Try.isAgg3 (by repeat (first | exact .here rfl | apply CellAt.there)) (by trivial) ?_
      refine O_callv rfl rfl rfl rfl rfl rfl (cmp_ib k k0 hS) (fun _ _ hv => trivial) ?_
      rintro _ w ⟨rfl, hS⟩
      refine O_assign rfl rfl rfl rfl rfl ?_
      refine R_nil ?_
      refine tn ?_
      refine F_seq ?_
      refine F_seq ?_
      refine F_region (p := ⟨_, [0, 0], []⟩) rfl [0, 1] rfl ?_
      refine O_move rfl rfl rfl rfl rfl ?_
      refine O_cmp rfl rfl rfl rfl rfl rfl rfl ?_
      refine R_nil ?_
      refine tn ?_
      refine F_false rfl (decide_eq_false (by omega)) ?_
      refine F_skip ?_
      refine tn ?_
      refine F_seq ?_
      refine F_region (p := ⟨_, [0, 0], []⟩) rfl [0, 1] rfl ?_
      refine O_move rfl rfl rfl rfl rfl ?_
      refine O_cmp rfl rfl rfl rfl rfl rfl rfl ?_
      refine R_nil ?_
      refine tn ?_
      refine F_true rfl (decide_eq_true (by omega)) ?_
      refine F_region (p := ⟨_, [0, 0, 0, 1, 0], []⟩) rfl [0, 1, 2, 3, 4] rfl ?_
      refine O_move rfl rfl rfl rfl rfl ?_
      refine O_nilCheck rfl rfl rfl rfl rfl ?_
      refine O_fieldAddr rfl rfl rfl rfl rfl Try.runUnderlying138 rfl Try.sizeOf132 ?_
      refine O_loadS hS rfl rfl rfl rfl rfl Try.isAgg132 (by repeat (first | exact .here rfl | apply CellAt.there)) (by trivial) ?_
      refine O_assign rfl rfl rfl rfl rfl ?_
      refine R_nil ?_
      refine bn ?_
      refine tn ⟨rfl, rfl, (pl, l), ⟨rfl, rfl, rfl, rfl, rfl, trivial⟩, ⟨?_, s1, (blks [(b, .cells #[E_ib.k k0, E_ib.v v0, .pointer pl, .pointer pr, .int .i64 (1 + max l.h r.h), .int .i64 (1 + l.m + r.m)] 138 (0, 0))] * tree E_ib pr r) * C, ?_, ?_⟩, ?_⟩
      · rw [← hg, get_lt e1]
      · exact hS.to (by simp only [blks]; ac_rfl)
      · intro R' w' h'; dsimp only at h'
        have h2 : Sat w0 (blks [(b, .cells #[E_ib.k k0, E_ib.v v0, .pointer pl, .pointer pr, .int .i64 (1 + max l.h r.h), .int .i64 (1 + l.m + r.m)] 138 (0, 0))] * (tree E_ib pl l * (tree E_ib pr r * (C * R')))) w' := h'.to (by ac_rfl)
        exact hC R' w' (tree_node_mk rfl rfl h2)
      · simp only [T.sz]; omega
    | false =>
      cases e2 : O_ib.lt k0 k with
      | true =>
        have hc : cmpv O_ib k k0 = 1 := by simp [cmpv, e1, e2]
        refine F_seq ?_
        refine F_seq ?_
        refine F_region (p := ⟨_, [0, 0], []⟩) rfl [0, 1] rfl ?_
        refine O_move rfl rfl rfl rfl rfl ?_
        refine O_neNil rfl rfl rfl rfl rfl rfl Try.runUnderlying132 ?_
        refine R_nil ?_
        refine tn ?_
        refine F_true rfl rfl ?_
        refine F_skip ?_
        refine tn ?_
        refine F_block ?_
        refine F_seq ?_
        refine F_drawnS hS (by kernel_rfl) (p := ⟨_, [0, 0, 0, 1, 0, 0, 0, 0, 1, 2, 0], []⟩) rfl (.ofList [0, 1, 2, 3, 4, 5, 6, 7, 8, 9, 10]) (by kernel_rfl) ?_
        intro w hS
        refine O_move rfl rfl rfl rfl rfl ?_
        refine O_nilCheck rfl rfl rfl rfl rfl ?_
        refine O_fieldAddr rfl rfl rfl rfl rfl Try.runUnderlying136 rfl Try.sizeOf79 ?_
        refine O_loadS hS rfl rfl rfl rfl rfl Try.isAgg79 (by repeat (first | exact .here rfl | apply CellAt.there)) (by trivial) ?_
        refine O_move rfl rfl rfl rfl rfl ?_
        refine O_move rfl rfl rfl rfl rfl ?_
        refine O_nilCheck rfl rfl rfl rfl rfl ?_
        refine O_fieldAddr rfl rfl rfl rfl rfl Try.runUnderlying138 rfl Try.sizeOf3 ?_
        refine O_loadS hS rfl rfl rfl rfl rfl Try.isAgg3 (by repeat (first | exact .here rfl | apply CellAt.there)) (by trivial) ?_
        refine O_callv rfl rfl rfl rfl rfl rfl (cmp_ib k k0 hS) (fun _ _ hv => trivial) ?_
        rintro _ w ⟨rfl, hS⟩
        refine O_assign rfl rfl rfl rfl rfl ?_
        refine R_nil ?_
        refine tn ?_
        refine F_seq ?_
        refine F_seq ?_
        refine F_region (p := ⟨_, [0, 0], []⟩) rfl [0, 1] rfl ?_
        refine O_move rfl rfl rfl rfl rfl ?_
        refine O_cmp rfl rfl rfl rfl rfl rfl rfl ?_
        refine R_nil ?_
        refine tn ?_
        refine F_false rfl (decide_eq_false (by omega)) ?_
        refine F_skip ?_
        refine tn ?_
        refine F_seq ?_
        refine F_region (p := ⟨_, [0, 0], []⟩) rfl [0, 1] rfl ?_
        refine O_move rfl rfl rfl rfl rfl ?_
        refine O_cmp rfl rfl rfl rfl rfl rfl rfl ?_
        refine R_nil ?_
        refine tn ?_
        refine F_false rfl (decide_eq_false (by omega)) ?_
        refine F_region (p := ⟨_, [0, 0, 0, 1, 0], []⟩) rfl [0, 1, 2, 3, 4] rfl ?_
        refine O_move rfl rfl rfl rfl rfl ?_
        refine O_nilCheck rfl rfl rfl rfl rfl ?_
        refine O_fieldAddr rfl rfl rfl rfl rfl Try.runUnderlying138 rfl Try.sizeOf132 ?_
        refine O_loadS hS rfl rfl rfl rfl rfl Try.isAgg132 (by repeat (first | exact .here rfl | apply CellAt.there)) (by trivial) ?_
        refine O_assign rfl rfl rfl rfl rfl ?_
        refine R_nil ?_
        refine bn ?_
        refine tn ⟨rfl, rfl, (pr, r), ⟨rfl, rfl, rfl, rfl, rfl, trivial⟩, ⟨?_, s2, (blks [(b, .cells #[E_ib.k k0, E_ib.v v0, .pointer pl, .pointer pr, .int .i64 (1 + max l.h r.h), .int .i64 (1 + l.m + r.m)] 138 (0, 0))] * tree E_ib pl l) * C, ?_, ?_⟩, ?_⟩
        · rw [← hg, get_gt_ e2 s3]
        · exact hS.to (by simp only [blks]; ac_rfl)
        · intro R' w' h'; dsimp only at h'
          have h2 : Sat w0 (blks [(b, .cells #[E_ib.k k0, E_ib.v v0, .pointer pl, .pointer pr, .int .i64 (1 + max l.h r.h), .int .i64 (1 + l.m + r.m)] 138 (0, 0))] * (tree E_ib pl l * (tree E_ib pr r * (C * R')))) w' := h'.to (by ac_rfl)
          exact hC R' w' (tree_node_mk rfl rfl h2)
        · simp only [T.sz]; omega
      | false =>
        have hc : cmpv O_ib k k0 = 0 := by simp [cmpv, e1, e2]
        refine F_seq ?_
        refine F_seq ?_
        refine F_region (p := ⟨_, [0, 0], []⟩) rfl [0, 1] rfl ?_
        refine O_move rfl rfl rfl rfl rfl ?_
        refine O_neNil rfl rfl rfl rfl rfl rfl Try.runUnderlying132 ?_
        refine R_nil ?_
        refine tn ?_
        refine F_true rfl rfl ?_
        refine F_skip ?_
        refine tn ?_
        refine F_block ?_
        refine F_seq ?_
        refine F_drawnS hS (by kernel_rfl) (p := ⟨_, [0, 0, 0, 1, 0, 0, 0, 0, 1, 2, 0], []⟩) rfl (.ofList [0, 1, 2, 3, 4, 5, 6, 7, 8, 9, 10]) (by kernel_rfl) ?_
        intro w hS
        refine O_move rfl rfl rfl rfl rfl ?_
        refine O_nilCheck rfl rfl rfl rfl rfl ?_
        refine O_fieldAddr rfl rfl rfl rfl rfl Try.runUnderlying136 rfl Try.sizeOf79 ?_
        refine O_loadS hS rfl rfl rfl rfl rfl Try.isAgg79 (by repeat (first | exact .here rfl | apply CellAt.there)) (by trivial) ?_
        refine O_move rfl rfl rfl rfl rfl ?_
        refine O_move rfl rfl rfl rfl rfl ?_
        refine O_nilCheck rfl rfl rfl rfl rfl ?_
        refine O_fieldAddr rfl rfl rfl rfl rfl Try.runUnderlying138 rfl Try.sizeOf3 ?_
        refine O_loadS hS rfl rfl rfl rfl rfl Try.isAgg3 (by repeat (first | exact .here rfl | apply CellAt.there)) (by trivial) ?_
        refine O_callv rfl rfl rfl rfl rfl rfl (cmp_ib k k0 hS) (fun _ _ hv => trivial) ?_
        rintro _ w ⟨rfl, hS⟩
        refine O_assign rfl rfl rfl rfl rfl ?_
        refine R_nil ?_
        refine tn ?_
        refine F_seq ?_
        refine F_seq ?_
        refine F_region (p := ⟨_, [0, 0], []⟩) rfl [0, 1] rfl ?_
        refine O_move rfl rfl rfl rfl rfl ?_
        refine O_cmp rfl rfl rfl rfl rfl rfl rfl ?_
        refine R_nil ?_
        refine tn ?_
        refine F_true rfl (decide_eq_true (by omega)) ?_
        refine F_seq ?_
        refine F_region (p := ⟨_, [0, 0, 0, 1, 0, 0], []⟩) rfl [0, 1, 2, 3, 4, 5] rfl ?_
        refine O_move rfl rfl rfl rfl rfl ?_
        refine O_nilCheck rfl rfl rfl rfl rfl ?_
        refine O_fieldAddr rfl rfl rfl rfl rfl Try.runUnderlying138 rfl Try.sizeOf4 ?_
        refine O_loadS hS rfl rfl rfl rfl rfl Try.isAgg4 (by repeat (first | exact .here rfl | apply CellAt.there)) (by trivial) ?_
        refine O_assign rfl rfl rfl rfl rfl ?_
        refine O_assign rfl rfl rfl rfl rfl ?_
        refine R_nil ?_
        refine tn ?_
        refine F_ret ?_
        refine tr ?_
        refine br ?_
        refine tr ?_
        refine br ?_
        refine tr ?_
        show endF _ _ _ _ _ _
        refine end0 trivial rfl rfl rfl hS ?_
        intro w hS
        refine ⟨by rw [← hg, get_eq e1 e2 s3]; rfl, ?_⟩
        have hq : Sat w0 (blks [(b, .cells #[E_ib.k k0, E_ib.v v0, .pointer pl, .pointer pr, .int .i64 (1 + max l.h r.h), .int .i64 (1 + l.m + r.m)] 138 (0, 0))] * (tree E_ib pl l * (tree E_ib pr r * (C * (blks [(rb, .cells #[E_ib.cv, .pointer root] 136 (0, 0))] * R))))) w := hS.to (by simp only [blks]; ac_rfl)
        exact rackP_mk rfl hs (hC _ _ (tree_node_mk rfl rfl hq)).b2
theorem ahead_ib {w0 w : World} {B : HProp} (k : Int) (hS : Sat w0 B w) : FV Try.prog (.func (.func 88) #[] #[]) [E_ib.k k].toArray w (fun v w' => v = .bool false ∧ Sat w0 B w') := by
  refine FV.of_calls Try.call88 ?_
  show Calls Try.prog 88 (#[] ++ [E_ib.k k].toArray ++ #[]) w _
  rw [Array.empty_append, Array.append_empty]
  refine enterF (args := [_]) Try.func88 rfl Try.ntmps88 rfl rfl ?_
  refine F_seq ?_
  refine F_region (p := ⟨_, [0], []⟩) rfl [0] rfl ?_
  refine O_assign rfl rfl rfl rfl rfl ?_
  refine R_nil ?_
  refine tn ?_
  refine F_seq ?_
  refine F_region (p := ⟨_, [0], []⟩) rfl [0] rfl ?_
  refine O_assign rfl rfl rfl rfl rfl ?_
  refine R_nil ?_
  refine tn ?_
  refine F_ret ?_
  show endF _ _ _ _ _ _
  refine end0 trivial rfl rfl rfl hS ?_
  intro w hS
  exact ⟨rfl, hS⟩
theorem up_ib {w0 : World} {y : Value} {J Jx : List (Int × Bool) → HProp} {xs : List (Int × Bool)}
    (hy : ∀ pre x post R w, xs = pre ++ x :: post → Sat w0 (J pre * R) w → FV Try.prog y [E_ib.k x.1, E_ib.v x.2].toArray w (fun r w' => (r = .bool true ∧ Sat w0 (J (pre ++ [x]) * R) w') ∨ (r = .bool false ∧ Sat w0 (Jx (pre ++ [x]) * R) w')))
    (t : T Int Bool) : ∀ {w : World} {R : HProp} {p : Option Addr} {pre post : List (Int × Bool)} (hx : xs = pre ++ (t.toList ++ post)) (hS : Sat w0 (tree E_ib p t * (J pre * R)) w),
    Calls Try.prog 87 #[.pointer p, .func (.func 88) #[] #[], y] w (ret fun u w' => (u = .bool true ∧ Sat w0 (tree E_ib p t * (J (pre ++ t.toList) * R)) w') ∨ (u = .bool false ∧ ∃ q, q <+: t.toList ∧ Sat w0 (tree E_ib p t * (Jx (pre ++ q) * R)) w')) := by
  induction t with
  | leaf =>
    intro w R p pre post hx hS
    obtain ⟨rfl, hN⟩ := tree_leaf hS
    clear hS
    have hS := hN
    refine enterF (args := [_, _, _]) Try.func87 rfl Try.ntmps87 rfl rfl ?_
    refine F_seq ?_
    refine F_region (p := ⟨_, [0], []⟩) rfl [0] rfl ?_
    refine O_assign rfl rfl rfl rfl rfl ?_
    refine R_nil ?_
    refine tn ?_
    refine F_seq ?_
    refine F_seq ?_
    refine F_region (p := ⟨_, [0, 0], []⟩) rfl [0, 1] rfl ?_
    refine O_move rfl rfl rfl rfl rfl ?_
    refine O_eqNil rfl rfl rfl rfl rfl rfl Try.runUnderlying132 ?_
    refine R_nil ?_
    refine tn ?_
    refine F_true rfl rfl ?_
    refine F_seq ?_
    refine F_region (p := ⟨_, [0], []⟩) rfl [0] rfl ?_
    refine O_assign rfl rfl rfl rfl rfl ?_
    refine R_nil ?_
    refine tn ?_
    refine F_ret ?_
    refine tr ?_
    show endF _ _ _ _ _ _
    refine end0 trivial rfl rfl rfl hS ?_
    intro w hS
    exact .inl ⟨rfl, tree_leaf_mk (by simpa [T.toList] using hS)⟩
  | node l k v r ihl ihr =>
    intro w R p pre post hx hS
    obtain ⟨b, pl, pr, rfl, hN⟩ := tree_node hS
    clear hS
    simp only [T.toList, List.append_assoc, List.cons_append] at hx ⊢
    have hS : Sat w0 (blks [(b, .cells #[E_ib.k k, E_ib.v v, .pointer pl, .pointer pr, .int .i64 (1 + max l.h r.h), .int .i64 (1 + l.m + r.m)] 138 (0, 0))] * (tree E_ib pl l * (tree E_ib pr r * (J pre * R)))) w := hN
    clear hN
    refine enterF (args := [_, _, _]) Try.func87 rfl Try.ntmps87 rfl rfl ?_
    refine F_seq ?_
    refine F_region (p := ⟨_, [0], []⟩) rfl [0] rfl ?_
    refine O_assign rfl rfl rfl rfl rfl ?_
    refine R_nil ?_
    refine tn ?_
    refine F_seq ?_
    refine F_seq ?_
    refine F_region (p := ⟨_, [0, 0], []⟩) rfl [0, 1] rfl ?_
    refine O_move rfl rfl rfl rfl rfl ?_
    refine O_eqNil rfl rfl rfl rfl rfl rfl Try.runUnderlying132 ?_
    refine R_nil ?_
    refine tn ?_
    refine F_false rfl rfl ?_
    refine F_skip ?_
    refine tn ?_
    refine F_seq ?_
    refine F_seq ?_
    refine F_region (p := ⟨_, [0, 0, 0, 0, 1, 2], []⟩) rfl [0, 1, 2, 3, 4, 5] rfl ?_
    refine O_move rfl rfl rfl rfl rfl ?_
    refine O_move rfl rfl rfl rfl rfl ?_
    refine O_nilCheck rfl rfl rfl rfl rfl ?_
    refine O_fieldAddr rfl rfl rfl rfl rfl Try.runUnderlying138 rfl Try.sizeOf3 ?_
    refine O_loadS hS rfl rfl rfl rfl rfl Try.isAgg3 (by repeat (first | exact .here rfl | apply CellAt.there)) (by trivial) ?_
    refine O_callv rfl rfl rfl rfl rfl rfl (ahead_ib k hS) (fun _ _ hv => trivial) ?_
    rintro _ w ⟨rfl, hS⟩
    refine R_nil ?_
    refine tn ?_
    refine F_false rfl rfl ?_
    refine F_skip ?_
    refine tn ?_
    refine F_seq ?_
    refine F_drawnS hS (by kernel_rfl) (p := ⟨_, [0, 0, 0, 1, 0, 0, 2, 0, 0, 0, 0, 0, 1, 0, 0, 0, 1, 2, 0, 0, 0, 0, 0, 1, 0, 0, 2, 0, 0], []⟩) rfl (.ofList [0, 1, 2, 3, 4, 5, 6, 7, 8, 9, 10, 11, 12, 13, 14, 15, 16, 17, 18, 19, 20, 21, 22, 23, 24, 25, 26, 27, 28]) (by kernel_rfl) ?_
    intro w hS
    refine O_move rfl rfl rfl rfl rfl ?_
    refine O_nilCheck rfl rfl rfl rfl rfl ?_
    refine O_fieldAddr rfl rfl rfl rfl rfl Try.runUnderlying138 rfl Try.sizeOf132 ?_
    refine O_loadS hS rfl rfl rfl rfl rfl Try.isAgg132 (by repeat (first | exact .here rfl | apply CellAt.there)) (by trivial) ?_
    refine O_move rfl rfl rfl rfl rfl ?_
    refine O_move rfl rfl rfl rfl rfl ?_
    have hQ : Sat w0 (tree E_ib pl l * (J pre * (blks [(b, .cells #[E_ib.k k, E_ib.v v, .pointer pl, .pointer pr, .int .i64 (1 + max l.h r.h), .int .i64 (1 + l.m + r.m)] 138 (0, 0))] * (tree E_ib pr r * R)))) w := hS.to (by simp only [blks]; ac_rfl)
    refine O_call rfl rfl rfl rfl Try.call87 rfl (ihl (post := (k, v) :: (r.toList ++ post)) hx hQ) (fun _ _ hv => trivial) ?_
    rintro _ w (⟨rfl, hS⟩ | ⟨rfl, q, hq, hS⟩)
    · replace hS : Sat w0 (blks [(b, .cells #[E_ib.k k, E_ib.v v, .pointer pl, .pointer pr, .int .i64 (1 + max l.h r.h), .int .i64 (1 + l.m + r.m)] 138 (0, 0))] * (tree E_ib pl l * (tree E_ib pr r * (J (pre ++ l.toList) * R)))) w := hS.to (by simp only [blks]; ac_rfl)
      refine O_move rfl rfl rfl rfl rfl ?_
      refine O_move rfl rfl rfl rfl rfl ?_
      refine O_move rfl rfl rfl rfl rfl ?_
      refine O_nilCheck rfl rfl rfl rfl rfl ?_
      refine O_fieldAddr rfl rfl rfl rfl rfl Try.runUnderlying138 rfl Try.sizeOf3 ?_
      refine O_loadS hS rfl rfl rfl rfl rfl Try.isAgg3 (by repeat (first | exact .here rfl | apply CellAt.there)) (by trivial) ?_
      refine O_move rfl rfl rfl rfl rfl ?_
      refine O_nilCheck rfl rfl rfl rfl rfl ?_
      refine O_fieldAddr rfl rfl rfl rfl rfl Try.runUnderlying138 rfl Try.sizeOf4 ?_
      refine O_loadS hS rfl rfl rfl rfl rfl Try.isAgg4 (by repeat (first | exact .here rfl | apply CellAt.there)) (by trivial) ?_
      have hQ : Sat w0 (J (pre ++ l.toList) * (blks [(b, .cells #[E_ib.k k, E_ib.v v, .pointer pl, .pointer pr, .int .i64 (1 + max l.h r.h), .int .i64 (1 + l.m + r.m)] 138 (0, 0))] * (tree E_ib pl l * (tree E_ib pr r * R)))) w := hS.to (by simp only [blks]; ac_rfl)
      refine O_callv rfl rfl rfl rfl rfl rfl (hy (pre ++ l.toList) (k, v) (r.toList ++ post) _ _ (by simpa using hx) hQ) (fun _ _ hv => trivial) ?_
      rintro _ w (⟨rfl, hS⟩ | ⟨rfl, hS⟩)
      · replace hS : Sat w0 (blks [(b, .cells #[E_ib.k k, E_ib.v v, .pointer pl, .pointer pr, .int .i64 (1 + max l.h r.h), .int .i64 (1 + l.m + r.m)] 138 (0, 0))] * (tree E_ib pl l * (tree E_ib pr r * (J (pre ++ l.toList ++ [(k, v)]) * R)))) w := hS.to (by simp only [blks]; ac_rfl)
        refine O_pickT rfl rfl rfl rfl rfl rfl ?_
        refine O_move rfl rfl rfl rfl rfl ?_
        refine O_move rfl rfl rfl rfl rfl ?_
        refine O_nilCheck rfl rfl rfl rfl rfl ?_
        refine O_fieldAddr rfl rfl rfl rfl rfl Try.runUnderlying138 rfl Try.sizeOf132 ?_
        refine O_loadS hS rfl rfl rfl rfl rfl Try.isAgg132 (by repeat (first | exact .here rfl | apply CellAt.there)) (by trivial) ?_
        refine O_move rfl rfl rfl rfl rfl ?_
        refine O_move rfl rfl rfl rfl rfl ?_
        have hQ : Sat w0 (tree E_ib pr r * (J (pre ++ l.toList ++ [(k, v)]) * (blks [(b, .cells #[E_ib.k k, E_ib.v v, .pointer pl, .pointer pr, .int .i64 (1 + max l.h r.h), .int .i64 (1 + l.m + r.m)] 138 (0, 0))] * (tree E_ib pl l * R)))) w := hS.to (by simp only [blks]; ac_rfl)
        refine O_call rfl rfl rfl rfl Try.call87 rfl (ihr (post := post) (by simpa using hx) hQ) (fun _ _ hv => trivial) ?_
        rintro _ w (⟨rfl, hS⟩ | ⟨rfl, q, hq, hS⟩)
        · replace hS : Sat w0 (blks [(b, .cells #[E_ib.k k, E_ib.v v, .pointer pl, .pointer pr, .int .i64 (1 + max l.h r.h), .int .i64 (1 + l.m + r.m)] 138 (0, 0))] * (tree E_ib pl l * (tree E_ib pr r * (J (pre ++ l.toList ++ [(k, v)] ++ r.toList) * R)))) w := hS.to (by simp only [blks]; ac_rfl)
          refine O_pickT rfl rfl rfl rfl rfl rfl ?_
          refine O_assign rfl rfl rfl rfl rfl ?_
          refine R_nil ?_
          refine tn ?_
          refine F_ret ?_
          show endF _ _ _ _ _ _
          refine end0 trivial rfl rfl rfl hS ?_
          intro w hS
          exact .inl ⟨rfl, tree_node_mk rfl rfl (by simpa [List.append_assoc] using hS)⟩
        · replace hS : Sat w0 (blks [(b, .cells #[E_ib.k k, E_ib.v v, .pointer pl, .pointer pr, .int .i64 (1 + max l.h r.h), .int .i64 (1 + l.m + r.m)] 138 (0, 0))] * (tree E_ib pl l * (tree E_ib pr r * (Jx (pre ++ l.toList ++ [(k, v)] ++ q) * R)))) w := hS.to (by simp only [blks]; ac_rfl)
          refine O_pickT rfl rfl rfl rfl rfl rfl ?_
          refine O_assign rfl rfl rfl rfl rfl ?_
          refine R_nil ?_
          refine tn ?_
          refine F_ret ?_
          show endF _ _ _ _ _ _
          refine end0 trivial rfl rfl rfl hS ?_
          intro w hS
          obtain ⟨z, hz⟩ := hq
          exact .inr ⟨rfl, l.toList ++ (k, v) :: q, ⟨z, by simp [← hz]⟩, tree_node_mk rfl rfl (by simpa [List.append_assoc] using hS)⟩
      · replace hS : Sat w0 (blks [(b, .cells #[E_ib.k k, E_ib.v v, .pointer pl, .pointer pr, .int .i64 (1 + max l.h r.h), .int .i64 (1 + l.m + r.m)] 138 (0, 0))] * (tree E_ib pl l * (tree E_ib pr r * (Jx (pre ++ l.toList ++ [(k, v)]) * R)))) w := hS.to (by simp only [blks]; ac_rfl)
        refine O_pickT rfl rfl rfl rfl rfl rfl ?_
        refine O_move rfl rfl rfl rfl rfl ?_
        refine R_skip rfl rfl rfl rfl ?_
        refine R_skip rfl rfl rfl rfl ?_
        refine R_skip rfl rfl rfl rfl ?_
        refine R_skip rfl rfl rfl rfl ?_
        refine R_skip rfl rfl rfl rfl ?_
        refine R_skip rfl rfl rfl rfl ?_
        refine R_skip rfl rfl rfl rfl ?_
        refine O_pickF rfl rfl rfl rfl rfl rfl ?_
        refine O_assign rfl rfl rfl rfl rfl ?_
        refine R_nil ?_
        refine tn ?_
        refine F_ret ?_
        show endF _ _ _ _ _ _
        refine end0 trivial rfl rfl rfl hS ?_
        intro w hS
        exact .inr ⟨rfl, l.toList ++ [(k, v)], ⟨r.toList, by simp⟩, tree_node_mk rfl rfl (by simpa [List.append_assoc] using hS)⟩
    · replace hS : Sat w0 (blks [(b, .cells #[E_ib.k k, E_ib.v v, .pointer pl, .pointer pr, .int .i64 (1 + max l.h r.h), .int .i64 (1 + l.m + r.m)] 138 (0, 0))] * (tree E_ib pl l * (tree E_ib pr r * (Jx (pre ++ q) * R)))) w := hS.to (by simp only [blks]; ac_rfl)
      refine O_move rfl rfl rfl rfl rfl ?_
      refine R_skip rfl rfl rfl rfl ?_
      refine R_skip rfl rfl rfl rfl ?_
      refine R_skip rfl rfl rfl rfl ?_
      refine R_skip rfl rfl rfl rfl ?_
      refine R_skip rfl rfl rfl rfl ?_
      refine R_skip rfl rfl rfl rfl ?_
      refine R_skip rfl rfl rfl rfl ?_
      refine R_skip rfl rfl rfl rfl ?_
      refine R_skip rfl rfl rfl rfl ?_
      refine R_skip rfl rfl rfl rfl ?_
      refine O_pickF rfl rfl rfl rfl rfl rfl ?_
      refine O_move rfl rfl rfl rfl rfl ?_
      refine R_skip rfl rfl rfl rfl ?_
      refine R_skip rfl rfl rfl rfl ?_
      refine R_skip rfl rfl rfl rfl ?_
      refine R_skip rfl rfl rfl rfl ?_
      refine R_skip rfl rfl rfl rfl ?_
      refine R_skip rfl rfl rfl rfl ?_
      refine R_skip rfl rfl rfl rfl ?_
      refine O_pickF rfl rfl rfl rfl rfl rfl ?_
      refine O_assign rfl rfl rfl rfl rfl ?_
      refine R_nil ?_
      refine tn ?_
      refine F_ret ?_
      show endF _ _ _ _ _ _
      refine end0 trivial rfl rfl rfl hS ?_
      intro w hS
      exact .inr ⟨rfl, q, hq.trans (by simp), tree_node_mk rfl rfl hS⟩
theorem all_ib_iter {rb bx : Nat} {xs : List (Int × Bool)} : Iter Try.prog (.func (.func 86) #[] #[.pointer (some ⟨bx, 0, none⟩)]) (pt bx (.cells #[.pointer (some ⟨rb, 0, none⟩)] 101) * rackP E_ib O_ib rb xs) (fun x => [E_ib.k x.1, E_ib.v x.2].toArray) xs := by
  intro w0 y J Jx hyf hy R w hS
  obtain ⟨yn, ya, yc, rfl⟩ := hyf
  refine FV.of_list (args := [.func yn ya yc]) (cap := [.pointer (some ⟨bx, 0, none⟩)]) Try.call86 ?_
  replace hS : Sat w0 (rackP E_ib O_ib rb xs * (blks [(bx, .cells #[.pointer (some ⟨rb, 0, none⟩)] 101 (0, 0))] * (J [] * R))) w := hS.to (by simp only [blks]; ac_rfl)
  obtain ⟨root, t, rfl, hs, hS⟩ := rackP_open hS
  replace hS : Sat w0 (blks [(rb, .cells #[E_ib.cv, .pointer root] 136 (0, 0)), (bx, .cells #[.pointer (some ⟨rb, 0, none⟩)] 101 (0, 0))] * (tree E_ib root t * (J [] * R))) w := hS.to (by simp only [blks]; ac_rfl)
  refine enterF (args := [_, _]) Try.func86 rfl Try.ntmps86 rfl rfl ?_
  refine F_region (p := ⟨_, [1, 0, 0, 1, 0, 2], []⟩) rfl [0, 1, 2, 3, 4, 5] rfl ?_
  refine O_loadS hS rfl rfl rfl rfl rfl Try.isAgg101 (by repeat (first | exact .here rfl | apply CellAt.there)) (by trivial) ?_
  refine O_nilCheck rfl rfl rfl rfl rfl ?_
  refine O_fieldAddr rfl rfl rfl rfl rfl Try.runUnderlying136 rfl Try.sizeOf132 ?_
  refine O_loadS hS rfl rfl rfl rfl rfl Try.isAgg132 (by repeat (first | exact .here rfl | apply CellAt.there)) (by trivial) ?_
  refine O_move rfl rfl rfl rfl rfl ?_
  have hQ : Sat w0 (tree E_ib root t * (J [] * (blks [(rb, .cells #[E_ib.cv, .pointer root] 136 (0, 0)), (bx, .cells #[.pointer (some ⟨rb, 0, none⟩)] 101 (0, 0))] * R))) w := hS.to (by simp only [blks]; ac_rfl)
  refine O_call rfl rfl rfl rfl Try.call87 rfl (up_ib (xs := t.toList) hy t (post := []) (by simp) hQ) (fun _ _ hv => trivial) ?_
  rintro _ w hS
  refine R_nil ?_
  rcases hS with ⟨rfl, hS⟩ | ⟨rfl, q, hq, hS⟩
  ·
    show endF _ _ _ _ _ _
    refine end0 trivial rfl rfl rfl hS ?_
    intro w hS
    replace hS : Sat w0 (blks [(rb, .cells #[E_ib.cv, .pointer root] 136 (0, 0))] * (tree E_ib root t * (blks [(bx, .cells #[.pointer (some ⟨rb, 0, none⟩)] 101 (0, 0))] * (J t.toList * R)))) w := hS.to (by simp only [blks, List.nil_append]; ac_rfl)
    exact .inl ((rackP_mk rfl hs hS).to (by simp only [blks]; ac_rfl))
  ·
    show endF _ _ _ _ _ _
    refine end0 trivial rfl rfl rfl hS ?_
    intro w hS
    replace hS : Sat w0 (blks [(rb, .cells #[E_ib.cv, .pointer root] 136 (0, 0))] * (tree E_ib root t * (blks [(bx, .cells #[.pointer (some ⟨rb, 0, none⟩)] 101 (0, 0))] * (Jx q * R)))) w := hS.to (by simp only [blks, List.nil_append]; ac_rfl)
    exact .inr ⟨q, hq, ((rackP_mk rfl hs hS).to (by simp only [blks]; ac_rfl))⟩
theorem All_ib {w0 w : World} {R : HProp} {a : Value} (ha : ∃ rb, a = .pointer (some ⟨rb, 0, none⟩)) (hS : Sat w0 R w) : Calls Try.prog 65 #[a] w (ret fun u w' => ∃ bx, u = .func (.func 86) #[] #[.pointer (some ⟨bx, 0, none⟩)] ∧ Sat w0 (pt bx (.cells #[a] 101) * R) w') := by
  obtain ⟨rb, rfl⟩ := ha
  replace hS := hS.noblks
  refine enterF (args := [_]) Try.func65 rfl Try.ntmps65 rfl rfl ?_
  refine F_seq ?_
  refine F_region (p := ⟨_, [2, 0], []⟩) rfl [0, 1] rfl ?_
  refine O_boxS hS rfl rfl rfl rfl rfl (fun _ _ hv => trivial) ?_
  intro b1 w hS
  refine O_assign rfl rfl rfl rfl rfl ?_
  refine R_nil ?_
  refine tn ?_
  refine F_seq ?_
  refine F_region (p := ⟨_, [0, 0], []⟩) rfl [0, 1] rfl ?_
  refine O_makeFunc rfl rfl rfl rfl rfl rfl ?_
  refine O_assign rfl rfl rfl rfl rfl ?_
  refine R_nil ?_
  refine tn ?_
  refine F_ret ?_
  show endF _ _ _ _ _ _
  refine end0 trivial rfl rfl rfl hS ?_
  intro w hS
  exact ⟨_, rfl, hS.to (by simp only [blks]; ac_rfl)⟩
end Go.Proofs.Ytpnigaoibhogfaa
