/- YtpnigaoibhogfaaR1s: a part of the proof: walks over the translated code, and plain facts on lists beside. -/
import Derived.Test.YtpnigaoibhogfaaR0
import Derived.Test.YtpnigaoibhogfaaSlExt
set_option linter.all false
namespace Go.Proofs.Ytpnigaoibhogfaa
open Go Go.RowKit Go.Sl
set_option linter.unusedVariables false
abbrev E_sc : Enc ByteArray Nat := ⟨fun s => .string s, fun b => .pointer (some ⟨b, 0, none⟩), 144, 127, .func (.func 48) #[] #[]⟩
abbrev O_sc : Lo ByteArray := O_S
theorem cmpstr_sc {w0 w : World} {A : HProp} (a b : ByteArray) (hS : Sat w0 A w) : Calls Try.prog 71 #[.string a, .string b] w (ret fun v w' => v = .int .i64 (cmpS a b) ∧ Sat w0 A w') := by
  refine enterF (args := [_, _]) Try.func71 rfl Try.ntmps71 rfl rfl ?_
  refine F_seq ?_
  refine F_region (p := ⟨_, [0], []⟩) rfl [0] rfl ?_
  refine O_assign rfl rfl rfl rfl rfl ?_
  refine R_nil ?_
  refine tn ?_
  refine F_seq ?_
  refine F_region (p := ⟨_, [0, 0, 2, 0], []⟩) rfl [0, 1, 2, 3] rfl ?_
  refine O_move rfl rfl rfl rfl rfl ?_
  refine O_move rfl rfl rfl rfl rfl ?_
  refine O_callx rfl rfl rfl rfl Try.func95 (by decide) rfl (by kernel_rfl) (by kernel_rfl) rfl (Go.Lib.run_compareString a b _) trivial ?_
  refine O_assign rfl rfl rfl rfl rfl ?_
  refine R_nil ?_
  refine tn ?_
  refine F_ret ?_
  show endF _ _ _ _ _ _
  refine end0 trivial rfl rfl rfl hS ?_
  intro w hS
  exact ⟨rfl, hS⟩
theorem compare_sc {w0 w : World} {A : HProp} (a b : ByteArray) (hS : Sat w0 A w) : Calls Try.prog 48 #[.string a, .string b] w (ret fun v w' => v = .int .i64 (cmpS a b) ∧ Sat w0 A w') := by
  refine enterF (args := [_, _]) Try.func48 rfl Try.ntmps48 rfl rfl ?_
  refine F_seq ?_
  refine F_region (p := ⟨_, [0], []⟩) rfl [0] rfl ?_
  refine O_assign rfl rfl rfl rfl rfl ?_
  refine R_nil ?_
  refine tn ?_
  refine F_seq ?_
  refine F_region (p := ⟨_, [0, 0, 2, 0], []⟩) rfl [0, 1, 2, 3] rfl ?_
  refine O_move rfl rfl rfl rfl rfl ?_
  refine O_move rfl rfl rfl rfl rfl ?_
  refine O_call rfl rfl rfl rfl Try.call71 rfl (cmpstr_sc a b hS) (fun _ _ hv => trivial) ?_
  rintro _ w ⟨rfl, hS⟩
  refine O_assign rfl rfl rfl rfl rfl ?_
  refine R_nil ?_
  refine tn ?_
  refine F_ret ?_
  show endF _ _ _ _ _ _
  refine end0 trivial rfl rfl rfl hS ?_
  intro w hS
  exact ⟨rfl, hS⟩
theorem cmp_sc {w0 w : World} {A : HProp} (a b : ByteArray) (hS : Sat w0 A w) : FV Try.prog E_sc.cv [E_sc.k a, E_sc.k b].toArray w (fun v w' => v = .int .i64 (cmpv O_sc a b) ∧ Sat w0 A w') := by
  rw [cmpv_S]; exact FV.of_calls Try.call48 (by simpa using compare_sc a b hS)
theorem height_sc_nil {w0 w : World} {R : HProp} (hS : Sat w0 R w) : Calls Try.prog 112 #[.pointer none] w (ret fun v w' => v = .int .i64 0 ∧ Sat w0 R w') := by
  refine enterF (args := [_]) Try.func112 rfl Try.ntmps112 rfl rfl ?_
  refine F_seq ?_
  refine F_region (p := ⟨_, [0], []⟩) rfl [0] rfl ?_
  refine O_assign rfl rfl rfl rfl rfl ?_
  refine R_nil ?_
  refine tn ?_
  refine F_seq ?_
  refine F_seq ?_
  refine F_region (p := ⟨_, [0, 0], []⟩) rfl [0, 1] rfl ?_
  refine O_move rfl rfl rfl rfl rfl ?_
  refine O_eqNil rfl rfl rfl rfl rfl rfl Try.runUnderlying125 ?_
  refine R_nil ?_
  refine tn ?_
  refine F_true rfl rfl ?_
  refine F_seq ?_
  refine F_region (p := ⟨_, [0], []⟩) rfl [0] rfl ?_
  refine O_assign rfl rfl rfl rfl rfl ?_
  refine R_nil ?_
  refine tn ?_
  refine F_ret ?_
  refine tr ?_
  show endF _ _ _ _ _ _
  refine end0 trivial rfl rfl rfl hS ?_
  intro w hS
  exact ⟨rfl, hS⟩
theorem height_sc_at {w0 w : World} {R : HProp} {b : Nat} {x0 x1 x2 x3 : Value} {h m : Int} (hS : Sat w0 (blks [(b, .cells #[x0, x1, x2, x3, .int .i64 h, .int .i64 m] 144 (0, 0))] * R) w) :
    Calls Try.prog 112 #[.pointer (some ⟨b, 0, none⟩)] w (ret fun v w' => v = .int .i64 h ∧ Sat w0 (blks [(b, .cells #[x0, x1, x2, x3, .int .i64 h, .int .i64 m] 144 (0, 0))] * R) w') := by
  refine enterF (args := [_]) Try.func112 rfl Try.ntmps112 rfl rfl ?_
  refine F_seq ?_
  refine F_region (p := ⟨_, [0], []⟩) rfl [0] rfl ?_
  refine O_assign rfl rfl rfl rfl rfl ?_
  refine R_nil ?_
  refine tn ?_
  refine F_seq ?_
  refine F_seq ?_
  refine F_region (p := ⟨_, [0, 0], []⟩) rfl [0, 1] rfl ?_
  refine O_move rfl rfl rfl rfl rfl ?_
  refine O_eqNil rfl rfl rfl rfl rfl rfl Try.runUnderlying125 ?_
  refine R_nil ?_
  refine tn ?_
  refine F_false rfl rfl ?_
  refine F_skip ?_
  refine tn ?_
  refine F_seq ?_
  refine F_region (p := ⟨_, [0, 0, 0, 1, 0], []⟩) rfl [0, 1, 2, 3, 4] rfl ?_
  refine O_move rfl rfl rfl rfl rfl ?_
  refine O_nilCheck rfl rfl rfl rfl rfl ?_
  refine O_fieldAddr rfl rfl rfl rfl rfl Try.runUnderlying144 rfl Try.sizeOf3 ?_
  refine O_loadS hS rfl rfl rfl rfl rfl Try.isAgg3 (by repeat (first | exact .here rfl | apply CellAt.there)) (by trivial) ?_
  refine O_assign rfl rfl rfl rfl rfl ?_
  refine R_nil ?_
  refine tn ?_
  refine F_ret ?_
  show endF _ _ _ _ _ _
  refine end0 trivial rfl rfl rfl hS ?_
  intro w hS
  exact ⟨rfl, hS⟩
theorem size_sc_nil {w0 w : World} {R : HProp} (hS : Sat w0 R w) : Calls Try.prog 96 #[.pointer none] w (ret fun v w' => v = .int .i64 0 ∧ Sat w0 R w') := by
  refine enterF (args := [_]) Try.func96 rfl Try.ntmps96 rfl rfl ?_
  refine F_seq ?_
  refine F_region (p := ⟨_, [0], []⟩) rfl [0] rfl ?_
  refine O_assign rfl rfl rfl rfl rfl ?_
  refine R_nil ?_
  refine tn ?_
  refine F_seq ?_
  refine F_seq ?_
  refine F_region (p := ⟨_, [0, 0], []⟩) rfl [0, 1] rfl ?_
  refine O_move rfl rfl rfl rfl rfl ?_
  refine O_eqNil rfl rfl rfl rfl rfl rfl Try.runUnderlying125 ?_
  refine R_nil ?_
  refine tn ?_
  refine F_true rfl rfl ?_
  refine F_seq ?_
  refine F_region (p := ⟨_, [0], []⟩) rfl [0] rfl ?_
  refine O_assign rfl rfl rfl rfl rfl ?_
  refine R_nil ?_
  refine tn ?_
  refine F_ret ?_
  refine tr ?_
  show endF _ _ _ _ _ _
  refine end0 trivial rfl rfl rfl hS ?_
  intro w hS
  exact ⟨rfl, hS⟩
theorem size_sc_at {w0 w : World} {R : HProp} {b : Nat} {x0 x1 x2 x3 : Value} {h m : Int} (hS : Sat w0 (blks [(b, .cells #[x0, x1, x2, x3, .int .i64 h, .int .i64 m] 144 (0, 0))] * R) w) :
    Calls Try.prog 96 #[.pointer (some ⟨b, 0, none⟩)] w (ret fun v w' => v = .int .i64 m ∧ Sat w0 (blks [(b, .cells #[x0, x1, x2, x3, .int .i64 h, .int .i64 m] 144 (0, 0))] * R) w') := by
  refine enterF (args := [_]) Try.func96 rfl Try.ntmps96 rfl rfl ?_
  refine F_seq ?_
  refine F_region (p := ⟨_, [0], []⟩) rfl [0] rfl ?_
  refine O_assign rfl rfl rfl rfl rfl ?_
  refine R_nil ?_
  refine tn ?_
  refine F_seq ?_
  refine F_seq ?_
  refine F_region (p := ⟨_, [0, 0], []⟩) rfl [0, 1] rfl ?_
  refine O_move rfl rfl rfl rfl rfl ?_
  refine O_eqNil rfl rfl rfl rfl rfl rfl Try.runUnderlying125 ?_
  refine R_nil ?_
  refine tn ?_
  refine F_false rfl rfl ?_
  refine F_skip ?_
  refine tn ?_
  refine F_seq ?_
  refine F_region (p := ⟨_, [0, 0, 0, 1, 0], []⟩) rfl [0, 1, 2, 3, 4] rfl ?_
  refine O_move rfl rfl rfl rfl rfl ?_
  refine O_nilCheck rfl rfl rfl rfl rfl ?_
  refine O_fieldAddr rfl rfl rfl rfl rfl Try.runUnderlying144 rfl Try.sizeOf3 ?_
  refine O_loadS hS rfl rfl rfl rfl rfl Try.isAgg3 (by repeat (first | exact .here rfl | apply CellAt.there)) (by trivial) ?_
  refine O_assign rfl rfl rfl rfl rfl ?_
  refine R_nil ?_
  refine tn ?_
  refine F_ret ?_
  show endF _ _ _ _ _ _
  refine end0 trivial rfl rfl rfl hS ?_
  intro w hS
  exact ⟨rfl, hS⟩
/-- What stands at p, of this height and size. -/
def Ht_sc (A : HProp) (p : Option Addr) (h m : Int) : Prop := ∀ w0 R w, Sat w0 (A * R) w →
  Calls Try.prog 112 #[.pointer p] w (ret fun v w' => v = .int .i64 h ∧ Sat w0 (A * R) w') ∧ Calls Try.prog 96 #[.pointer p] w (ret fun v w' => v = .int .i64 m ∧ Sat w0 (A * R) w')
theorem ht_sc_at {A : HProp} {b : Nat} {x0 x1 x2 x3 : Value} {h m : Int} : Ht_sc (blks [(b, .cells #[x0, x1, x2, x3, .int .i64 h, .int .i64 m] 144 (0, 0))] * A) (some ⟨b, 0, none⟩) h m := fun w0 R w hS =>
  ⟨Calls.mono' (height_sc_at (hS.to (star_assoc _ _ _))) (fun e w' ⟨v, he, hv, hS⟩ => ⟨v, he, hv, hS.to (star_assoc _ _ _).symm⟩), Calls.mono' (size_sc_at (hS.to (star_assoc _ _ _))) (fun e w' ⟨v, he, hv, hS⟩ => ⟨v, he, hv, hS.to (star_assoc _ _ _).symm⟩)⟩
theorem ht_sc {p : Option Addr} {t : T _ _} : Ht_sc (tree E_sc p t) p t.h t.m := fun w0 R w hS => by
  cases t with
  | leaf =>
    obtain ⟨rfl, _⟩ := tree_leaf hS
    exact ⟨height_sc_nil hS, size_sc_nil hS⟩
  | node l k v r =>
    obtain ⟨b, pl, pr, rfl, hN⟩ := tree_node hS
    refine ⟨Calls.mono' (height_sc_at hN) ?_, Calls.mono' (size_sc_at hN) ?_⟩
    all_goals (rintro e w' ⟨v, he, hv, hS⟩; exact ⟨v, he, hv, tree_node_mk rfl rfl hS⟩)
theorem count_sc {w0 w : World} {A B R : HProp} {b : Nat} {pl pr : Option Addr} {x0 x1 x4 x5 : Value} {hl hr ml mr : Int} (hA : Ht_sc A pl hl ml) (hB : Ht_sc B pr hr mr)
    (b1 : 0 ≤ hl ∧ 0 ≤ hr ∧ 0 ≤ ml ∧ 0 ≤ mr ∧ hl ≤ ml ∧ hr ≤ mr ∧ ml + mr ≤ 4611686018427387904) (hS : Sat w0 (blks [(b, .cells #[x0, x1, .pointer pl, .pointer pr, x4, x5] 144 (0, 0))] * (A * (B * R))) w) :
    Calls Try.prog 106 #[.pointer (some ⟨b, 0, none⟩)] w (ret fun v w' => v = .pointer (some ⟨b, 0, none⟩) ∧ Sat w0 (blks [(b, .cells #[x0, x1, .pointer pl, .pointer pr, .int .i64 (1 + max hl hr), .int .i64 (1 + ml + mr)] 144 (0, 0))] * (A * (B * R))) w') := by
  refine enterF (args := [_]) Try.func106 rfl Try.ntmps106 rfl rfl ?_
  refine F_seq ?_
  refine F_region (p := ⟨_, [0], []⟩) rfl [0] rfl ?_
  refine O_assign rfl rfl rfl rfl rfl ?_
  refine R_nil ?_
  refine tn ?_
  refine F_seq ?_
  refine F_drawnS hS (by kernel_rfl) (p := ⟨_, [0, 0, 0, 0, 1, 2, 0, 0, 0, 1, 2, 0, 0, 0, 0, 2], [(5, 9)]⟩) rfl (.ofList [0, 1, 2, 3, 4, 5, 6, 7, 8, 9, 10, 11, 12, 13, 14, 15]) (by kernel_rfl) ?_
  intro w hS
  refine O_move rfl rfl rfl rfl rfl ?_
  refine O_move rfl rfl rfl rfl rfl ?_
  refine O_nilCheck rfl rfl rfl rfl rfl ?_
  refine O_fieldAddr rfl rfl rfl rfl rfl Try.runUnderlying144 rfl Try.sizeOf125 ?_
  refine O_loadS hS rfl rfl rfl rfl rfl Try.isAgg125 (by repeat (first | exact .here rfl | apply CellAt.there)) (by trivial) ?_
  have hS_5 := hS
  refine O_call rfl rfl rfl rfl Try.call112 rfl ((hA _ _ _ hS.b2).1) (fun _ _ hv => trivial) ?_
  rintro _ w ⟨rfl, hS⟩
  replace hS := hS.b2
  refine O_move rfl rfl rfl rfl rfl ?_
  refine O_nilCheck rfl rfl rfl rfl rfl ?_
  refine O_fieldAddr rfl rfl rfl rfl rfl Try.runUnderlying144 rfl Try.sizeOf125 ?_
  refine O_loadS hS rfl rfl rfl rfl rfl Try.isAgg125 (by repeat (first | exact .here rfl | apply CellAt.there)) (by exact ⟨CellAt.cell (by repeat (first | exact .here rfl | apply CellAt.there)) hS_5, trivial⟩) ?_
  refine O_call rfl rfl rfl rfl Try.call112 rfl ((hB _ _ _ hS.b3).1) (fun _ _ hv => ⟨trivial, trivial⟩) ?_
  rintro _ w ⟨rfl, hS⟩
  replace hS := hS.f3
  refine O_max2 rfl rfl rfl rfl rfl rfl ?_
  refine O_addN rfl rfl rfl rfl rfl rfl (by first | omega | (dsimp only; omega)) ?_
  refine O_nilCheck rfl rfl rfl rfl rfl ?_
  refine O_fieldAddr rfl rfl rfl rfl rfl Try.runUnderlying144 rfl Try.sizeOf3 ?_
  refine O_storeS hS rfl rfl rfl rfl rfl rfl rfl Try.sizeOf3 (by repeat (first | exact .here rfl rfl | apply SetAt.there)) (fun w' hv => ⟨trivial, trivial⟩) ?_
  intro w hS
  refine R_nil ?_
  refine tn ?_
  refine F_seq ?_
  refine F_drawnS hS (by kernel_rfl) (p := ⟨_, [0, 0, 0, 0, 1, 2, 0, 0, 0, 0, 1, 2, 0, 0, 0, 2], [(5, 10)]⟩) rfl (.ofList [0, 1, 2, 3, 4, 5, 6, 7, 8, 9, 10, 11, 12, 13, 14, 15]) (by kernel_rfl) ?_
  intro w hS
  refine O_move rfl rfl rfl rfl rfl ?_
  refine O_move rfl rfl rfl rfl rfl ?_
  refine O_nilCheck rfl rfl rfl rfl rfl ?_
  refine O_fieldAddr rfl rfl rfl rfl rfl Try.runUnderlying144 rfl Try.sizeOf125 ?_
  refine O_loadS hS rfl rfl rfl rfl rfl Try.isAgg125 (by repeat (first | exact .here rfl | apply CellAt.there)) (by trivial) ?_
  have hS_5 := hS
  refine O_call rfl rfl rfl rfl Try.call96 rfl ((hA _ _ _ hS.b2).2) (fun _ _ hv => trivial) ?_
  rintro _ w ⟨rfl, hS⟩
  replace hS := hS.b2
  refine O_addN rfl rfl rfl rfl rfl rfl (by first | omega | (dsimp only; omega)) ?_
  refine O_move rfl rfl rfl rfl rfl ?_
  refine O_nilCheck rfl rfl rfl rfl rfl ?_
  refine O_fieldAddr rfl rfl rfl rfl rfl Try.runUnderlying144 rfl Try.sizeOf125 ?_
  refine O_loadS hS rfl rfl rfl rfl rfl Try.isAgg125 (by repeat (first | exact .here rfl | apply CellAt.there)) (by exact ⟨CellAt.cell (by repeat (first | exact .here rfl | apply CellAt.there)) hS_5, trivial⟩) ?_
  refine O_call rfl rfl rfl rfl Try.call96 rfl ((hB _ _ _ hS.b3).2) (fun _ _ hv => ⟨trivial, trivial⟩) ?_
  rintro _ w ⟨rfl, hS⟩
  replace hS := hS.f3
  refine O_addN rfl rfl rfl rfl rfl rfl (by first | omega | (dsimp only; omega)) ?_
  refine O_nilCheck rfl rfl rfl rfl rfl ?_
  refine O_fieldAddr rfl rfl rfl rfl rfl Try.runUnderlying144 rfl Try.sizeOf3 ?_
  refine O_storeS hS rfl rfl rfl rfl rfl rfl rfl Try.sizeOf3 (by repeat (first | exact .here rfl rfl | apply SetAt.there)) (fun w' hv => ⟨trivial, trivial⟩) ?_
  intro w hS
  refine R_nil ?_
  refine tn ?_
  refine F_seq ?_
  refine F_region (p := ⟨_, [0, 0], []⟩) rfl [0, 1] rfl ?_
  refine O_move rfl rfl rfl rfl rfl ?_
  refine O_assign rfl rfl rfl rfl rfl ?_
  refine R_nil ?_
  refine tn ?_
  refine F_ret ?_
  show endF _ _ _ _ _ _
  refine end0 trivial rfl rfl rfl hS ?_
  intro w hS
  exact ⟨rfl, hS⟩
theorem toRight_sc {w0 w : World} {R : HProp} {b : Nat} {pc po : Option Addr} {k k' : _} {v v' : _} {x4 x5 : Value} {c1 c2 o : T _ _} (hm : c1.m + c2.m + o.m ≤ 4611686018427387000)
    (hS : Sat w0 (blks [(b, .cells #[E_sc.k k, E_sc.v v, .pointer pc, .pointer po, x4, x5] 144 (0, 0))] * (tree E_sc pc (.node c1 k' v' c2) * (tree E_sc po o * R))) w) :
    Calls Try.prog 114 #[.pointer (some ⟨b, 0, none⟩)] w (ret fun u w' => ∃ p', u = .pointer p' ∧ Sat w0 (tree E_sc p' (.node c1 k' v' (.node c2 k v o)) * R) w') := by
  have d1 := c1.bd
  have d2 := c2.bd
  have d3 := o.bd
  obtain ⟨bc, p1, p2, rfl, hS⟩ := tree_node hS.b2
  replace hS : Sat w0 (blks [(b, .cells #[E_sc.k k, E_sc.v v, .pointer (some ⟨bc, 0, none⟩), .pointer po, x4, x5] 144 (0, 0)), (bc, .cells #[E_sc.k k', E_sc.v v', .pointer p1, .pointer p2, .int .i64 (1 + max c1.h c2.h), .int .i64 (1 + c1.m + c2.m)] 144 (0, 0))] * (tree E_sc p1 c1 * (tree E_sc p2 c2 * (tree E_sc po o * R)))) w := hS.to (by simp only [blks]; ac_rfl)
  refine enterF (args := [_]) Try.func114 rfl Try.ntmps114 rfl rfl ?_
  refine F_seq ?_
  refine F_region (p := ⟨_, [0], []⟩) rfl [0] rfl ?_
  refine O_assign rfl rfl rfl rfl rfl ?_
  refine R_nil ?_
  refine tn ?_
  refine F_seq ?_
  refine F_region (p := ⟨_, [0, 0, 0, 1, 0], []⟩) rfl [0, 1, 2, 3, 4] rfl ?_
  refine O_move rfl rfl rfl rfl rfl ?_
  refine O_nilCheck rfl rfl rfl rfl rfl ?_
  refine O_fieldAddr rfl rfl rfl rfl rfl Try.runUnderlying144 rfl Try.sizeOf125 ?_
  refine O_loadS hS rfl rfl rfl rfl rfl Try.isAgg125 (by repeat (first | exact .here rfl | apply CellAt.there)) (by trivial) ?_
  refine O_assign rfl rfl rfl rfl rfl ?_
  refine R_nil ?_
  refine tn ?_
  refine F_seq ?_
  refine F_drawnS hS (by kernel_rfl) (p := ⟨_, [0, 0, 0, 0, 0, 1, 0, 2, 0, 0, 2, 0, 0, 2], [(5, 7)]⟩) rfl (.ofList [0, 1, 2, 3, 4, 5, 6, 7, 8, 9, 10, 11, 12, 13]) (by kernel_rfl) ?_
  intro w hS
  refine O_move rfl rfl rfl rfl rfl ?_
  refine O_move rfl rfl rfl rfl rfl ?_
  refine O_move rfl rfl rfl rfl rfl ?_
  refine O_nilCheck rfl rfl rfl rfl rfl ?_
  refine O_fieldAddr rfl rfl rfl rfl rfl Try.runUnderlying144 rfl Try.sizeOf125 ?_
  refine O_loadS hS rfl rfl rfl rfl rfl Try.isAgg125 (by repeat (first | exact .here rfl | apply CellAt.there)) (by trivial) ?_
  refine O_move rfl rfl rfl rfl rfl ?_
  have hQ : Sat w0 (blks [(b, .cells #[E_sc.k k, E_sc.v v, .pointer (some ⟨bc, 0, none⟩), .pointer po, x4, x5] 144 (0, 0))] * ((blks [(bc, .cells #[E_sc.k k', E_sc.v v', .pointer p1, .pointer p2, .int .i64 (1 + max c1.h c2.h), .int .i64 (1 + c1.m + c2.m)] 144 (0, 0))] * (tree E_sc p1 c1 * tree E_sc p2 c2)) * (tree E_sc po o * R))) w := hS.to (by simp only [blks]; ac_rfl)
  have hS_7 := hS
  refine O_call rfl rfl rfl rfl Try.call106 rfl (count_sc ht_sc_at ht_sc (by omega) hQ) (fun _ _ hv => ⟨CellAt.cell (by repeat (first | exact .here rfl | apply CellAt.there)) (Sat.i2 hv.2), trivial⟩) ?_
  rintro _ w ⟨rfl, hS⟩
  replace hS : Sat w0 (blks [(b, .cells #[E_sc.k k, E_sc.v v, .pointer (some ⟨bc, 0, none⟩), .pointer po, .int .i64 (1 + max (1 + max c1.h c2.h) o.h), .int .i64 (1 + (1 + c1.m + c2.m) + o.m)] 144 (0, 0)), (bc, .cells #[E_sc.k k', E_sc.v v', .pointer p1, .pointer p2, .int .i64 (1 + max c1.h c2.h), .int .i64 (1 + c1.m + c2.m)] 144 (0, 0))] * (tree E_sc p1 c1 * (tree E_sc p2 c2 * (tree E_sc po o * R)))) w := hS.to (by simp only [blks]; ac_rfl)
  refine O_nilCheck rfl rfl rfl rfl rfl ?_
  refine O_fieldAddr rfl rfl rfl rfl rfl Try.runUnderlying144 rfl Try.sizeOf125 ?_
  refine O_storeS hS rfl rfl rfl rfl rfl rfl rfl Try.sizeOf125 (by repeat (first | exact .here rfl rfl | apply SetAt.there)) (fun w' hv => ⟨trivial, trivial⟩) ?_
  intro w hS
  refine O_nilCheck rfl rfl rfl rfl rfl ?_
  refine O_fieldAddr rfl rfl rfl rfl rfl Try.runUnderlying144 rfl Try.sizeOf125 ?_
  refine O_storeS hS rfl rfl rfl rfl rfl rfl rfl Try.sizeOf125 (by repeat (first | exact .here rfl rfl | apply SetAt.there)) (fun w' hv => ⟨trivial, trivial⟩) ?_
  intro w hS
  refine R_nil ?_
  refine tn ?_
  refine F_seq ?_
  refine F_region (p := ⟨_, [0, 2], []⟩) rfl [0, 1] rfl ?_
  refine O_move rfl rfl rfl rfl rfl ?_
  replace hS : Sat w0 (blks [(b, .cells #[E_sc.k k, E_sc.v v, .pointer p2, .pointer po, .int .i64 (1 + max (1 + max c1.h c2.h) o.h), .int .i64 (1 + (1 + c1.m + c2.m) + o.m)] 144 (0, 0)), (bc, .cells #[E_sc.k k', E_sc.v v', .pointer p1, .pointer (some ⟨b, 0, none⟩), .int .i64 (1 + max c1.h c2.h), .int .i64 (1 + c1.m + c2.m)] 144 (0, 0))] * (tree E_sc p1 c1 * (tree E_sc p2 c2 * (tree E_sc po o * R)))) w := hS
  replace hS : Sat w0 (blks [(b, .cells #[E_sc.k k, E_sc.v v, .pointer p2, .pointer po, .int .i64 (1 + max (1 + max c1.h c2.h) o.h), .int .i64 (1 + (1 + c1.m + c2.m) + o.m)] 144 (0, 0))] * (tree E_sc p2 c2 * (tree E_sc po o * (blks [(bc, .cells #[E_sc.k k', E_sc.v v', .pointer p1, .pointer (some ⟨b, 0, none⟩), .int .i64 (1 + max c1.h c2.h), .int .i64 (1 + c1.m + c2.m)] 144 (0, 0))] * (tree E_sc p1 c1 * R))))) w := hS.to (by simp only [blks]; ac_rfl)
  refine O_call rfl rfl rfl rfl Try.call106 rfl (count_sc ht_sc ht_sc (by omega) hS) (fun _ _ hv => trivial) ?_
  rintro _ w ⟨rfl, hS⟩
  replace hS : Sat w0 (blks [(bc, .cells #[E_sc.k k', E_sc.v v', .pointer p1, .pointer (some ⟨b, 0, none⟩), .int .i64 (1 + max c1.h c2.h), .int .i64 (1 + c1.m + c2.m)] 144 (0, 0))] * (tree E_sc p1 c1 * ((blks [(b, .cells #[E_sc.k k, E_sc.v v, .pointer p2, .pointer po, .int .i64 (1 + max c2.h o.h), .int .i64 (1 + c2.m + o.m)] 144 (0, 0))] * (tree E_sc p2 c2 * tree E_sc po o)) * R))) w := hS.to (by simp only [blks]; ac_rfl)
  refine R_nil ?_
  refine tn ?_
  refine F_seq ?_
  refine F_region (p := ⟨_, [0, 2, 0], []⟩) rfl [0, 1, 2] rfl ?_
  refine O_move rfl rfl rfl rfl rfl ?_
  refine O_call rfl rfl rfl rfl Try.call106 rfl (count_sc ht_sc ht_sc_at (by omega) hS) (fun _ _ hv => trivial) ?_
  rintro _ w ⟨rfl, hS⟩
  refine O_assign rfl rfl rfl rfl rfl ?_
  refine R_nil ?_
  refine tn ?_
  refine F_ret ?_
  show endF _ _ _ _ _ _
  refine end0 trivial rfl rfl rfl hS ?_
  intro w hS
  have hq : Sat w0 (blks [(b, .cells #[E_sc.k k, E_sc.v v, .pointer p2, .pointer po, .int .i64 (1 + max c2.h o.h), .int .i64 (1 + c2.m + o.m)] 144 (0, 0))] * (tree E_sc p2 c2 * (tree E_sc po o * (blks [(bc, .cells #[E_sc.k k', E_sc.v v', .pointer p1, .pointer (some ⟨b, 0, none⟩), .int .i64 (1 + max c1.h (1 + max c2.h o.h)), .int .i64 (1 + c1.m + (1 + c2.m + o.m))] 144 (0, 0))] * (tree E_sc p1 c1 * R))))) w := hS.to (by simp only [blks]; ac_rfl)
  have hq := tree_node_mk rfl rfl hq
  replace hq : Sat w0 (blks [(bc, .cells #[E_sc.k k', E_sc.v v', .pointer p1, .pointer (some ⟨b, 0, none⟩), .int .i64 (1 + max c1.h (1 + max c2.h o.h)), .int .i64 (1 + c1.m + (1 + c2.m + o.m))] 144 (0, 0))] * (tree E_sc p1 c1 * (tree E_sc (some ⟨b, 0, none⟩) (.node c2 k v o) * R))) w := hq.to (by ac_rfl)
  exact ⟨_, rfl, tree_node_mk rfl rfl hq⟩
theorem toLeft_sc {w0 w : World} {R : HProp} {b : Nat} {pc po : Option Addr} {k k' : _} {v v' : _} {x4 x5 : Value} {c1 c2 o : T _ _} (hm : c1.m + c2.m + o.m ≤ 4611686018427387000)
    (hS : Sat w0 (blks [(b, .cells #[E_sc.k k, E_sc.v v, .pointer po, .pointer pc, x4, x5] 144 (0, 0))] * (tree E_sc po o * (tree E_sc pc (.node c1 k' v' c2) * R))) w) :
    Calls Try.prog 113 #[.pointer (some ⟨b, 0, none⟩)] w (ret fun u w' => ∃ p', u = .pointer p' ∧ Sat w0 (tree E_sc p' (.node (.node o k v c1) k' v' c2) * R) w') := by
  have d1 := c1.bd
  have d2 := c2.bd
  have d3 := o.bd
  obtain ⟨bc, p1, p2, rfl, hS⟩ := tree_node hS.b3
  replace hS : Sat w0 (blks [(b, .cells #[E_sc.k k, E_sc.v v, .pointer po, .pointer (some ⟨bc, 0, none⟩), x4, x5] 144 (0, 0)), (bc, .cells #[E_sc.k k', E_sc.v v', .pointer p1, .pointer p2, .int .i64 (1 + max c1.h c2.h), .int .i64 (1 + c1.m + c2.m)] 144 (0, 0))] * (tree E_sc p1 c1 * (tree E_sc p2 c2 * (tree E_sc po o * R)))) w := hS.to (by simp only [blks]; ac_rfl)
  refine enterF (args := [_]) Try.func113 rfl Try.ntmps113 rfl rfl ?_
  refine F_seq ?_
  refine F_region (p := ⟨_, [0], []⟩) rfl [0] rfl ?_
  refine O_assign rfl rfl rfl rfl rfl ?_
  refine R_nil ?_
  refine tn ?_
  refine F_seq ?_
  refine F_region (p := ⟨_, [0, 0, 0, 1, 0], []⟩) rfl [0, 1, 2, 3, 4] rfl ?_
  refine O_move rfl rfl rfl rfl rfl ?_
  refine O_nilCheck rfl rfl rfl rfl rfl ?_
  refine O_fieldAddr rfl rfl rfl rfl rfl Try.runUnderlying144 rfl Try.sizeOf125 ?_
  refine O_loadS hS rfl rfl rfl rfl rfl Try.isAgg125 (by repeat (first | exact .here rfl | apply CellAt.there)) (by trivial) ?_
  refine O_assign rfl rfl rfl rfl rfl ?_
  refine R_nil ?_
  refine tn ?_
  refine F_seq ?_
  refine F_drawnS hS (by kernel_rfl) (p := ⟨_, [0, 0, 0, 0, 0, 1, 0, 2, 0, 0, 2, 0, 0, 2], [(5, 7)]⟩) rfl (.ofList [0, 1, 2, 3, 4, 5, 6, 7, 8, 9, 10, 11, 12, 13]) (by kernel_rfl) ?_
  intro w hS
  refine O_move rfl rfl rfl rfl rfl ?_
  refine O_move rfl rfl rfl rfl rfl ?_
  refine O_move rfl rfl rfl rfl rfl ?_
  refine O_nilCheck rfl rfl rfl rfl rfl ?_
  refine O_fieldAddr rfl rfl rfl rfl rfl Try.runUnderlying144 rfl Try.sizeOf125 ?_
  refine O_loadS hS rfl rfl rfl rfl rfl Try.isAgg125 (by repeat (first | exact .here rfl | apply CellAt.there)) (by trivial) ?_
  refine O_move rfl rfl rfl rfl rfl ?_
  have hQ : Sat w0 (blks [(b, .cells #[E_sc.k k, E_sc.v v, .pointer po, .pointer (some ⟨bc, 0, none⟩), x4, x5] 144 (0, 0))] * (tree E_sc po o * ((blks [(bc, .cells #[E_sc.k k', E_sc.v v', .pointer p1, .pointer p2, .int .i64 (1 + max c1.h c2.h), .int .i64 (1 + c1.m + c2.m)] 144 (0, 0))] * (tree E_sc p1 c1 * tree E_sc p2 c2)) * R))) w := hS.to (by simp only [blks]; ac_rfl)
  have hS_7 := hS
  refine O_call rfl rfl rfl rfl Try.call106 rfl (count_sc ht_sc ht_sc_at (by omega) hQ) (fun _ _ hv => ⟨CellAt.cell (by repeat (first | exact .here rfl | apply CellAt.there)) (Sat.i3 hv.2), trivial⟩) ?_
  rintro _ w ⟨rfl, hS⟩
  replace hS : Sat w0 (blks [(b, .cells #[E_sc.k k, E_sc.v v, .pointer po, .pointer (some ⟨bc, 0, none⟩), .int .i64 (1 + max o.h (1 + max c1.h c2.h)), .int .i64 (1 + o.m + (1 + c1.m + c2.m))] 144 (0, 0)), (bc, .cells #[E_sc.k k', E_sc.v v', .pointer p1, .pointer p2, .int .i64 (1 + max c1.h c2.h), .int .i64 (1 + c1.m + c2.m)] 144 (0, 0))] * (tree E_sc p1 c1 * (tree E_sc p2 c2 * (tree E_sc po o * R)))) w := hS.to (by simp only [blks]; ac_rfl)
  refine O_nilCheck rfl rfl rfl rfl rfl ?_
  refine O_fieldAddr rfl rfl rfl rfl rfl Try.runUnderlying144 rfl Try.sizeOf125 ?_
  refine O_storeS hS rfl rfl rfl rfl rfl rfl rfl Try.sizeOf125 (by repeat (first | exact .here rfl rfl | apply SetAt.there)) (fun w' hv => ⟨trivial, trivial⟩) ?_
  intro w hS
  refine O_nilCheck rfl rfl rfl rfl rfl ?_
  refine O_fieldAddr rfl rfl rfl rfl rfl Try.runUnderlying144 rfl Try.sizeOf125 ?_
  refine O_storeS hS rfl rfl rfl rfl rfl rfl rfl Try.sizeOf125 (by repeat (first | exact .here rfl rfl | apply SetAt.there)) (fun w' hv => ⟨trivial, trivial⟩) ?_
  intro w hS
  refine R_nil ?_
  refine tn ?_
  refine F_seq ?_
  refine F_region (p := ⟨_, [0, 2], []⟩) rfl [0, 1] rfl ?_
  refine O_move rfl rfl rfl rfl rfl ?_
  replace hS : Sat w0 (blks [(b, .cells #[E_sc.k k, E_sc.v v, .pointer po, .pointer p1, .int .i64 (1 + max o.h (1 + max c1.h c2.h)), .int .i64 (1 + o.m + (1 + c1.m + c2.m))] 144 (0, 0)), (bc, .cells #[E_sc.k k', E_sc.v v', .pointer (some ⟨b, 0, none⟩), .pointer p2, .int .i64 (1 + max c1.h c2.h), .int .i64 (1 + c1.m + c2.m)] 144 (0, 0))] * (tree E_sc p1 c1 * (tree E_sc p2 c2 * (tree E_sc po o * R)))) w := hS
  replace hS : Sat w0 (blks [(b, .cells #[E_sc.k k, E_sc.v v, .pointer po, .pointer p1, .int .i64 (1 + max o.h (1 + max c1.h c2.h)), .int .i64 (1 + o.m + (1 + c1.m + c2.m))] 144 (0, 0))] * (tree E_sc po o * (tree E_sc p1 c1 * (blks [(bc, .cells #[E_sc.k k', E_sc.v v', .pointer (some ⟨b, 0, none⟩), .pointer p2, .int .i64 (1 + max c1.h c2.h), .int .i64 (1 + c1.m + c2.m)] 144 (0, 0))] * (tree E_sc p2 c2 * R))))) w := hS.to (by simp only [blks]; ac_rfl)
  refine O_call rfl rfl rfl rfl Try.call106 rfl (count_sc ht_sc ht_sc (by omega) hS) (fun _ _ hv => trivial) ?_
  rintro _ w ⟨rfl, hS⟩
  replace hS : Sat w0 (blks [(bc, .cells #[E_sc.k k', E_sc.v v', .pointer (some ⟨b, 0, none⟩), .pointer p2, .int .i64 (1 + max c1.h c2.h), .int .i64 (1 + c1.m + c2.m)] 144 (0, 0))] * ((blks [(b, .cells #[E_sc.k k, E_sc.v v, .pointer po, .pointer p1, .int .i64 (1 + max o.h c1.h), .int .i64 (1 + o.m + c1.m)] 144 (0, 0))] * (tree E_sc po o * tree E_sc p1 c1)) * (tree E_sc p2 c2 * R))) w := hS.to (by simp only [blks]; ac_rfl)
  refine R_nil ?_
  refine tn ?_
  refine F_seq ?_
  refine F_region (p := ⟨_, [0, 2, 0], []⟩) rfl [0, 1, 2] rfl ?_
  refine O_move rfl rfl rfl rfl rfl ?_
  refine O_call rfl rfl rfl rfl Try.call106 rfl (count_sc ht_sc_at ht_sc (by omega) hS) (fun _ _ hv => trivial) ?_
  rintro _ w ⟨rfl, hS⟩
  refine O_assign rfl rfl rfl rfl rfl ?_
  refine R_nil ?_
  refine tn ?_
  refine F_ret ?_
  show endF _ _ _ _ _ _
  refine end0 trivial rfl rfl rfl hS ?_
  intro w hS
  have hq : Sat w0 (blks [(b, .cells #[E_sc.k k, E_sc.v v, .pointer po, .pointer p1, .int .i64 (1 + max o.h c1.h), .int .i64 (1 + o.m + c1.m)] 144 (0, 0))] * (tree E_sc po o * (tree E_sc p1 c1 * (blks [(bc, .cells #[E_sc.k k', E_sc.v v', .pointer (some ⟨b, 0, none⟩), .pointer p2, .int .i64 (1 + max (1 + max o.h c1.h) c2.h), .int .i64 (1 + (1 + o.m + c1.m) + c2.m)] 144 (0, 0))] * (tree E_sc p2 c2 * R))))) w := hS.to (by simp only [blks]; ac_rfl)
  have hq := tree_node_mk rfl rfl hq
  replace hq : Sat w0 (blks [(bc, .cells #[E_sc.k k', E_sc.v v', .pointer (some ⟨b, 0, none⟩), .pointer p2, .int .i64 (1 + max (1 + max o.h c1.h) c2.h), .int .i64 (1 + (1 + o.m + c1.m) + c2.m)] 144 (0, 0))] * (tree E_sc (some ⟨b, 0, none⟩) (.node o k v c1) * (tree E_sc p2 c2 * R))) w := hq.to (by ac_rfl)
  exact ⟨_, rfl, tree_node_mk rfl rfl hq⟩
theorem even_sc {w0 w : World} {R : HProp} {b : Nat} {pl pr : Option Addr} {k : _} {v : _} {x4 x5 : Value} {l r : T _ _} (hm : l.m + r.m ≤ 4611686018427380000)
    (hS : Sat w0 (blks [(b, .cells #[E_sc.k k, E_sc.v v, .pointer pl, .pointer pr, x4, x5] 144 (0, 0))] * (tree E_sc pl l * (tree E_sc pr r * R))) w) :
    Calls Try.prog 107 #[.pointer (some ⟨b, 0, none⟩)] w (ret fun u w' => ∃ p' t', u = .pointer p' ∧ t'.toList = l.toList ++ (k, v) :: r.toList ∧ Sat w0 (tree E_sc p' t' * R) w') := by
  have d1 := l.bd
  have d2 := r.bd
  by_cases cL : 1 < l.h - r.h
  · obtain ⟨c1, k', v', c2, rfl⟩ := T.h0 (t := l) (by omega)
    have d3 := c1.bd
    have d4 := c2.bd
    simp only [T.h, T.m] at cL d1 d2 hm
    obtain ⟨bc, p1, p2, rfl, hS⟩ := tree_node hS.b2
    replace hS : Sat w0 (blks [(b, .cells #[E_sc.k k, E_sc.v v, .pointer (some ⟨bc, 0, none⟩), .pointer pr, x4, x5] 144 (0, 0)), (bc, .cells #[E_sc.k k', E_sc.v v', .pointer p1, .pointer p2, .int .i64 (1 + max c1.h c2.h), .int .i64 (1 + c1.m + c2.m)] 144 (0, 0))] * (tree E_sc p1 c1 * (tree E_sc p2 c2 * (tree E_sc pr r * R)))) w := hS.to (by simp only [blks]; ac_rfl)
    by_cases cd : c1.h < c2.h
    · obtain ⟨d1', k2, v2, d2', rfl⟩ := T.h0 (t := c2) (by omega)
      refine enterF (args := [_]) Try.func107 rfl Try.ntmps107 rfl rfl ?_
      refine F_seq ?_
      refine F_region (p := ⟨_, [0], []⟩) rfl [0] rfl ?_
      refine O_assign rfl rfl rfl rfl rfl ?_
      refine R_nil ?_
      refine tn ?_
      refine F_seq ?_
      refine F_seq ?_
      refine F_drawnS hS (by kernel_rfl) (p := ⟨_, [0, 0, 0, 1, 2, 0, 0, 0, 1, 2, 0, 0], [(4, 8)]⟩) rfl (.ofList [0, 1, 2, 3, 4, 5, 6, 7, 8, 9, 10, 11]) (by kernel_rfl) ?_
      intro w hS
      refine O_move rfl rfl rfl rfl rfl ?_
      refine O_nilCheck rfl rfl rfl rfl rfl ?_
      refine O_fieldAddr rfl rfl rfl rfl rfl Try.runUnderlying144 rfl Try.sizeOf125 ?_
      refine O_loadS hS rfl rfl rfl rfl rfl Try.isAgg125 (by repeat (first | exact .here rfl | apply CellAt.there)) (by trivial) ?_
      have hQ : Sat w0 ((blks [(bc, .cells #[E_sc.k k', E_sc.v v', .pointer p1, .pointer p2, .int .i64 (1 + max c1.h (T.node d1' k2 v2 d2').h), .int .i64 (1 + c1.m + (T.node d1' k2 v2 d2').m)] 144 (0, 0))] * (tree E_sc p1 c1 * tree E_sc p2 (T.node d1' k2 v2 d2'))) * (blks [(b, .cells #[E_sc.k k, E_sc.v v, .pointer (some ⟨bc, 0, none⟩), .pointer pr, x4, x5] 144 (0, 0))] * (tree E_sc pr r * R))) w := hS.to (by simp only [blks]; ac_rfl)
      have hS_4 := hS
      refine O_call rfl rfl rfl rfl Try.call112 rfl ((ht_sc_at _ _ _ hQ).1) (fun _ _ hv => trivial) ?_
      rintro _ w ⟨rfl, hS⟩
      replace hS : Sat w0 (blks [(b, .cells #[E_sc.k k, E_sc.v v, .pointer (some ⟨bc, 0, none⟩), .pointer pr, x4, x5] 144 (0, 0)), (bc, .cells #[E_sc.k k', E_sc.v v', .pointer p1, .pointer p2, .int .i64 (1 + max c1.h (T.node d1' k2 v2 d2').h), .int .i64 (1 + c1.m + (T.node d1' k2 v2 d2').m)] 144 (0, 0))] * (tree E_sc p1 c1 * (tree E_sc p2 (T.node d1' k2 v2 d2') * (tree E_sc pr r * R)))) w := hS.to (by simp only [blks]; ac_rfl)
      refine O_move rfl rfl rfl rfl rfl ?_
      refine O_nilCheck rfl rfl rfl rfl rfl ?_
      refine O_fieldAddr rfl rfl rfl rfl rfl Try.runUnderlying144 rfl Try.sizeOf125 ?_
      refine O_loadS hS rfl rfl rfl rfl rfl Try.isAgg125 (by repeat (first | exact .here rfl | apply CellAt.there)) (by exact ⟨CellAt.cell (by repeat (first | exact .here rfl | apply CellAt.there)) hS_4, trivial⟩) ?_
      have hQ : Sat w0 (tree E_sc pr r * (blks [(b, .cells #[E_sc.k k, E_sc.v v, .pointer (some ⟨bc, 0, none⟩), .pointer pr, x4, x5] 144 (0, 0))] * ((blks [(bc, .cells #[E_sc.k k', E_sc.v v', .pointer p1, .pointer p2, .int .i64 (1 + max c1.h (T.node d1' k2 v2 d2').h), .int .i64 (1 + c1.m + (T.node d1' k2 v2 d2').m)] 144 (0, 0))] * (tree E_sc p1 c1 * tree E_sc p2 (T.node d1' k2 v2 d2'))) * R))) w := hS.to (by simp only [blks]; ac_rfl)
      refine O_call rfl rfl rfl rfl Try.call112 rfl ((ht_sc _ _ _ hQ).1) (fun _ _ hv => ⟨trivial, trivial⟩) ?_
      rintro _ w ⟨rfl, hS⟩
      replace hS : Sat w0 (blks [(b, .cells #[E_sc.k k, E_sc.v v, .pointer (some ⟨bc, 0, none⟩), .pointer pr, x4, x5] 144 (0, 0)), (bc, .cells #[E_sc.k k', E_sc.v v', .pointer p1, .pointer p2, .int .i64 (1 + max c1.h (T.node d1' k2 v2 d2').h), .int .i64 (1 + c1.m + (T.node d1' k2 v2 d2').m)] 144 (0, 0))] * (tree E_sc p1 c1 * (tree E_sc p2 (T.node d1' k2 v2 d2') * (tree E_sc pr r * R)))) w := hS.to (by simp only [blks]; ac_rfl)
      refine O_subN rfl rfl rfl rfl rfl rfl (by first | omega | (dsimp only; omega)) ?_
      refine O_assign rfl rfl rfl rfl rfl ?_
      refine R_nil ?_
      refine tn ?_
      refine F_block ?_
      refine F_seq ?_
      refine F_region (p := ⟨_, [0, 0, 0], []⟩) rfl [0, 1, 2] rfl ?_
      refine O_move rfl rfl rfl rfl rfl ?_
      refine O_cmp rfl rfl rfl rfl rfl rfl rfl ?_
      refine O_assign rfl rfl rfl rfl rfl ?_
      refine R_nil ?_
      refine tn ?_
      refine F_true rfl (decide_eq_true (by omega)) ?_
      refine F_seq ?_
      refine F_seq ?_
      refine F_drawnS hS (by kernel_rfl) (p := ⟨_, [0, 0, 0, 1, 0, 0, 1, 2, 0, 0, 0, 1, 0, 0, 1, 2, 0], [(7, 11), (7, 14)]⟩) rfl (.ofList [0, 1, 2, 3, 4, 5, 6, 7, 8, 9, 10, 11, 12, 13, 14, 15, 16]) (by kernel_rfl) ?_
      intro w hS
      refine O_move rfl rfl rfl rfl rfl ?_
      refine O_nilCheck rfl rfl rfl rfl rfl ?_
      refine O_fieldAddr rfl rfl rfl rfl rfl Try.runUnderlying144 rfl Try.sizeOf125 ?_
      refine O_loadS hS rfl rfl rfl rfl rfl Try.isAgg125 (by repeat (first | exact .here rfl | apply CellAt.there)) (by trivial) ?_
      refine O_nilCheck rfl rfl rfl rfl rfl ?_
      refine O_fieldAddr rfl rfl rfl rfl rfl Try.runUnderlying144 rfl Try.sizeOf125 ?_
      refine O_loadS hS rfl rfl rfl rfl rfl Try.isAgg125 (by repeat (first | exact .here rfl | apply CellAt.there)) (by trivial) ?_
      have hQ : Sat w0 (tree E_sc p1 c1 * (blks [(b, .cells #[E_sc.k k, E_sc.v v, .pointer (some ⟨bc, 0, none⟩), .pointer pr, x4, x5] 144 (0, 0)), (bc, .cells #[E_sc.k k', E_sc.v v', .pointer p1, .pointer p2, .int .i64 (1 + max c1.h (T.node d1' k2 v2 d2').h), .int .i64 (1 + c1.m + (T.node d1' k2 v2 d2').m)] 144 (0, 0))] * (tree E_sc p2 (T.node d1' k2 v2 d2') * (tree E_sc pr r * R)))) w := hS.to (by simp only [blks]; ac_rfl)
      have hS_7 := hS
      refine O_call rfl rfl rfl rfl Try.call112 rfl ((ht_sc _ _ _ hQ).1) (fun _ _ hv => trivial) ?_
      rintro _ w ⟨rfl, hS⟩
      replace hS : Sat w0 (blks [(b, .cells #[E_sc.k k, E_sc.v v, .pointer (some ⟨bc, 0, none⟩), .pointer pr, x4, x5] 144 (0, 0)), (bc, .cells #[E_sc.k k', E_sc.v v', .pointer p1, .pointer p2, .int .i64 (1 + max c1.h (T.node d1' k2 v2 d2').h), .int .i64 (1 + c1.m + (T.node d1' k2 v2 d2').m)] 144 (0, 0))] * (tree E_sc p1 c1 * (tree E_sc p2 (T.node d1' k2 v2 d2') * (tree E_sc pr r * R)))) w := hS.to (by simp only [blks]; ac_rfl)
      refine O_move rfl rfl rfl rfl rfl ?_
      refine O_nilCheck rfl rfl rfl rfl rfl ?_
      refine O_fieldAddr rfl rfl rfl rfl rfl Try.runUnderlying144 rfl Try.sizeOf125 ?_
      refine O_loadS hS rfl rfl rfl rfl rfl Try.isAgg125 (by repeat (first | exact .here rfl | apply CellAt.there)) (by exact ⟨CellAt.cell (by repeat (first | exact .here rfl | apply CellAt.there)) hS_7, trivial⟩) ?_
      refine O_nilCheck rfl rfl rfl rfl rfl ?_
      refine O_fieldAddr rfl rfl rfl rfl rfl Try.runUnderlying144 rfl Try.sizeOf125 ?_
      refine O_loadS hS rfl rfl rfl rfl rfl Try.isAgg125 (by repeat (first | exact .here rfl | apply CellAt.there)) (by exact ⟨CellAt.cell (by repeat (first | exact .here rfl | apply CellAt.there)) hS_7, trivial⟩) ?_
      have hQ : Sat w0 (tree E_sc p2 (T.node d1' k2 v2 d2') * (blks [(b, .cells #[E_sc.k k, E_sc.v v, .pointer (some ⟨bc, 0, none⟩), .pointer pr, x4, x5] 144 (0, 0)), (bc, .cells #[E_sc.k k', E_sc.v v', .pointer p1, .pointer p2, .int .i64 (1 + max c1.h (T.node d1' k2 v2 d2').h), .int .i64 (1 + c1.m + (T.node d1' k2 v2 d2').m)] 144 (0, 0))] * (tree E_sc p1 c1 * (tree E_sc pr r * R)))) w := hS.to (by simp only [blks]; ac_rfl)
      refine O_call rfl rfl rfl rfl Try.call112 rfl ((ht_sc _ _ _ hQ).1) (fun _ _ hv => ⟨trivial, ⟨trivial, trivial⟩⟩) ?_
      rintro _ w ⟨rfl, hS⟩
      replace hS : Sat w0 (blks [(b, .cells #[E_sc.k k, E_sc.v v, .pointer (some ⟨bc, 0, none⟩), .pointer pr, x4, x5] 144 (0, 0)), (bc, .cells #[E_sc.k k', E_sc.v v', .pointer p1, .pointer p2, .int .i64 (1 + max c1.h (T.node d1' k2 v2 d2').h), .int .i64 (1 + c1.m + (T.node d1' k2 v2 d2').m)] 144 (0, 0))] * (tree E_sc p1 c1 * (tree E_sc p2 (T.node d1' k2 v2 d2') * (tree E_sc pr r * R)))) w := hS.to (by simp only [blks]; ac_rfl)
      refine O_cmp rfl rfl rfl rfl rfl rfl rfl ?_
      refine R_nil ?_
      refine tn ?_
      refine F_true rfl (decide_eq_true (by omega)) ?_
      refine F_region (p := ⟨_, [0, 0, 0, 0, 1, 2, 0, 0, 2], []⟩) rfl [0, 1, 2, 3, 4, 5, 6, 7, 8] rfl ?_
      refine O_move rfl rfl rfl rfl rfl ?_
      refine O_move rfl rfl rfl rfl rfl ?_
      refine O_nilCheck rfl rfl rfl rfl rfl ?_
      refine O_fieldAddr rfl rfl rfl rfl rfl Try.runUnderlying144 rfl Try.sizeOf125 ?_
      refine O_loadS hS rfl rfl rfl rfl rfl Try.isAgg125 (by repeat (first | exact .here rfl | apply CellAt.there)) (by trivial) ?_
      have hQ : Sat w0 (blks [(bc, .cells #[E_sc.k k', E_sc.v v', .pointer p1, .pointer p2, .int .i64 (1 + max c1.h (T.node d1' k2 v2 d2').h), .int .i64 (1 + c1.m + (T.node d1' k2 v2 d2').m)] 144 (0, 0))] * (tree E_sc p1 c1 * (tree E_sc p2 (T.node d1' k2 v2 d2') * ((blks [(b, .cells #[E_sc.k k, E_sc.v v, .pointer (some ⟨bc, 0, none⟩), .pointer pr, x4, x5] 144 (0, 0))] * tree E_sc pr r) * R)))) w := hS.to (by simp only [blks]; ac_rfl)
      refine O_call rfl rfl rfl rfl Try.call113 rfl (toLeft_sc (by simp only [T.m] at *; omega) hQ) (fun _ _ hv => trivial) ?_
      rintro _ w ⟨pn, rfl, hS⟩
      replace hS : Sat w0 (blks [(b, .cells #[E_sc.k k, E_sc.v v, .pointer (some ⟨bc, 0, none⟩), .pointer pr, x4, x5] 144 (0, 0))] * (tree E_sc pn (.node (.node c1 k' v' d1') k2 v2 d2') * (tree E_sc pr r * R))) w := hS.to (by simp only [blks]; ac_rfl)
      refine O_nilCheck rfl rfl rfl rfl rfl ?_
      refine O_fieldAddr rfl rfl rfl rfl rfl Try.runUnderlying144 rfl Try.sizeOf125 ?_
      refine O_storeS hS rfl rfl rfl rfl rfl rfl rfl Try.sizeOf125 (by repeat (first | exact .here rfl rfl | apply SetAt.there)) (fun w' hv => trivial) ?_
      intro w hS
      refine R_nil ?_
      refine tn ?_
      refine F_seq ?_
      refine F_region (p := ⟨_, [0, 2, 0], []⟩) rfl [0, 1, 2] rfl ?_
      refine O_move rfl rfl rfl rfl rfl ?_
      replace hS : Sat w0 (blks [(b, .cells #[E_sc.k k, E_sc.v v, .pointer pn, .pointer pr, x4, x5] 144 (0, 0))] * (tree E_sc pn (.node (.node c1 k' v' d1') k2 v2 d2') * (tree E_sc pr r * R))) w := hS
      refine O_call rfl rfl rfl rfl Try.call114 rfl (toRight_sc (by simp only [T.m] at *; omega) hS) (fun _ _ hv => trivial) ?_
      rintro _ w ⟨pe, rfl, hS⟩
      refine O_assign rfl rfl rfl rfl rfl ?_
      refine R_nil ?_
      refine tn ?_
      refine F_ret ?_
      refine br ?_
      refine tr ?_
      show endF _ _ _ _ _ _
      refine end0 trivial rfl rfl rfl hS ?_
      intro w hS
      exact ⟨_, _, rfl, by simp [T.toList, List.append_assoc], hS⟩
    ·
      refine enterF (args := [_]) Try.func107 rfl Try.ntmps107 rfl rfl ?_
      refine F_seq ?_
      refine F_region (p := ⟨_, [0], []⟩) rfl [0] rfl ?_
      refine O_assign rfl rfl rfl rfl rfl ?_
      refine R_nil ?_
      refine tn ?_
      refine F_seq ?_
      refine F_seq ?_
      refine F_drawnS hS (by kernel_rfl) (p := ⟨_, [0, 0, 0, 1, 2, 0, 0, 0, 1, 2, 0, 0], [(4, 8)]⟩) rfl (.ofList [0, 1, 2, 3, 4, 5, 6, 7, 8, 9, 10, 11]) (by kernel_rfl) ?_
      intro w hS
      refine O_move rfl rfl rfl rfl rfl ?_
      refine O_nilCheck rfl rfl rfl rfl rfl ?_
      refine O_fieldAddr rfl rfl rfl rfl rfl Try.runUnderlying144 rfl Try.sizeOf125 ?_
      refine O_loadS hS rfl rfl rfl rfl rfl Try.isAgg125 (by repeat (first | exact .here rfl | apply CellAt.there)) (by trivial) ?_
      have hQ : Sat w0 ((blks [(bc, .cells #[E_sc.k k', E_sc.v v', .pointer p1, .pointer p2, .int .i64 (1 + max c1.h c2.h), .int .i64 (1 + c1.m + c2.m)] 144 (0, 0))] * (tree E_sc p1 c1 * tree E_sc p2 c2)) * (blks [(b, .cells #[E_sc.k k, E_sc.v v, .pointer (some ⟨bc, 0, none⟩), .pointer pr, x4, x5] 144 (0, 0))] * (tree E_sc pr r * R))) w := hS.to (by simp only [blks]; ac_rfl)
      have hS_4 := hS
      refine O_call rfl rfl rfl rfl Try.call112 rfl ((ht_sc_at _ _ _ hQ).1) (fun _ _ hv => trivial) ?_
      rintro _ w ⟨rfl, hS⟩
      replace hS : Sat w0 (blks [(b, .cells #[E_sc.k k, E_sc.v v, .pointer (some ⟨bc, 0, none⟩), .pointer pr, x4, x5] 144 (0, 0)), (bc, .cells #[E_sc.k k', E_sc.v v', .pointer p1, .pointer p2, .int .i64 (1 + max c1.h c2.h), .int .i64 (1 + c1.m + c2.m)] 144 (0, 0))] * (tree E_sc p1 c1 * (tree E_sc p2 c2 * (tree E_sc pr r * R)))) w := hS.to (by simp only [blks]; ac_rfl)
      refine O_move rfl rfl rfl rfl rfl ?_
      refine O_nilCheck rfl rfl rfl rfl rfl ?_
      refine O_fieldAddr rfl rfl rfl rfl rfl Try.runUnderlying144 rfl Try.sizeOf125 ?_
      refine O_loadS hS rfl rfl rfl rfl rfl Try.isAgg125 (by repeat (first | exact .here rfl | apply CellAt.there)) (by exact ⟨CellAt.cell (by repeat (first | exact .here rfl | apply CellAt.there)) hS_4, trivial⟩) ?_
      have hQ : Sat w0 (tree E_sc pr r * (blks [(b, .cells #[E_sc.k k, E_sc.v v, .pointer (some ⟨bc, 0, none⟩), .pointer pr, x4, x5] 144 (0, 0))] * ((blks [(bc, .cells #[E_sc.k k', E_sc.v v', .pointer p1, .pointer p2, .int .i64 (1 + max c1.h c2.h), .int .i64 (1 + c1.m + c2.m)] 144 (0, 0))] * (tree E_sc p1 c1 * tree E_sc p2 c2)) * R))) w := hS.to (by simp only [blks]; ac_rfl)
      refine O_call rfl rfl rfl rfl Try.call112 rfl ((ht_sc _ _ _ hQ).1) (fun _ _ hv => ⟨trivial, trivial⟩) ?_
      rintro _ w ⟨rfl, hS⟩
      replace hS : Sat w0 (blks [(b, .cells #[E_sc.k k, E_sc.v v, .pointer (some ⟨bc, 0, none⟩), .pointer pr, x4, x5] 144 (0, 0)), (bc, .cells #[E_sc.k k', E_sc.v v', .pointer p1, .pointer p2, .int .i64 (1 + max c1.h c2.h), .int .i64 (1 + c1.m + c2.m)] 144 (0, 0))] * (tree E_sc p1 c1 * (tree E_sc p2 c2 * (tree E_sc pr r * R)))) w := hS.to (by simp only [blks]; ac_rfl)
      refine O_subN rfl rfl rfl rfl rfl rfl (by first | omega | (dsimp only; omega)) ?_
      refine O_assign rfl rfl rfl rfl rfl ?_
      refine R_nil ?_
      refine tn ?_
      refine F_block ?_
      refine F_seq ?_
      refine F_region (p := ⟨_, [0, 0, 0], []⟩) rfl [0, 1, 2] rfl ?_
      refine O_move rfl rfl rfl rfl rfl ?_
      refine O_cmp rfl rfl rfl rfl rfl rfl rfl ?_
      refine O_assign rfl rfl rfl rfl rfl ?_
      refine R_nil ?_
      refine tn ?_
      refine F_true rfl (decide_eq_true (by omega)) ?_
      refine F_seq ?_
      refine F_seq ?_
      refine F_drawnS hS (by kernel_rfl) (p := ⟨_, [0, 0, 0, 1, 0, 0, 1, 2, 0, 0, 0, 1, 0, 0, 1, 2, 0], [(7, 11), (7, 14)]⟩) rfl (.ofList [0, 1, 2, 3, 4, 5, 6, 7, 8, 9, 10, 11, 12, 13, 14, 15, 16]) (by kernel_rfl) ?_
      intro w hS
      refine O_move rfl rfl rfl rfl rfl ?_
      refine O_nilCheck rfl rfl rfl rfl rfl ?_
      refine O_fieldAddr rfl rfl rfl rfl rfl Try.runUnderlying144 rfl Try.sizeOf125 ?_
      refine O_loadS hS rfl rfl rfl rfl rfl Try.isAgg125 (by repeat (first | exact .here rfl | apply CellAt.there)) (by trivial) ?_
      refine O_nilCheck rfl rfl rfl rfl rfl ?_
      refine O_fieldAddr rfl rfl rfl rfl rfl Try.runUnderlying144 rfl Try.sizeOf125 ?_
      refine O_loadS hS rfl rfl rfl rfl rfl Try.isAgg125 (by repeat (first | exact .here rfl | apply CellAt.there)) (by trivial) ?_
      have hQ : Sat w0 (tree E_sc p1 c1 * (blks [(b, .cells #[E_sc.k k, E_sc.v v, .pointer (some ⟨bc, 0, none⟩), .pointer pr, x4, x5] 144 (0, 0)), (bc, .cells #[E_sc.k k', E_sc.v v', .pointer p1, .pointer p2, .int .i64 (1 + max c1.h c2.h), .int .i64 (1 + c1.m + c2.m)] 144 (0, 0))] * (tree E_sc p2 c2 * (tree E_sc pr r * R)))) w := hS.to (by simp only [blks]; ac_rfl)
      have hS_7 := hS
      refine O_call rfl rfl rfl rfl Try.call112 rfl ((ht_sc _ _ _ hQ).1) (fun _ _ hv => trivial) ?_
      rintro _ w ⟨rfl, hS⟩
      replace hS : Sat w0 (blks [(b, .cells #[E_sc.k k, E_sc.v v, .pointer (some ⟨bc, 0, none⟩), .pointer pr, x4, x5] 144 (0, 0)), (bc, .cells #[E_sc.k k', E_sc.v v', .pointer p1, .pointer p2, .int .i64 (1 + max c1.h c2.h), .int .i64 (1 + c1.m + c2.m)] 144 (0, 0))] * (tree E_sc p1 c1 * (tree E_sc p2 c2 * (tree E_sc pr r * R)))) w := hS.to (by simp only [blks]; ac_rfl)
      refine O_move rfl rfl rfl rfl rfl ?_
      refine O_nilCheck rfl rfl rfl rfl rfl ?_
      refine O_fieldAddr rfl rfl rfl rfl rfl Try.runUnderlying144 rfl Try.sizeOf125 ?_
      refine O_loadS hS rfl rfl rfl rfl rfl Try.isAgg125 (by repeat (first | exact .here rfl | apply CellAt.there)) (by exact ⟨CellAt.cell (by repeat (first | exact .here rfl | apply CellAt.there)) hS_7, trivial⟩) ?_
      refine O_nilCheck rfl rfl rfl rfl rfl ?_
      refine O_fieldAddr rfl rfl rfl rfl rfl Try.runUnderlying144 rfl Try.sizeOf125 ?_
      refine O_loadS hS rfl rfl rfl rfl rfl Try.isAgg125 (by repeat (first | exact .here rfl | apply CellAt.there)) (by exact ⟨CellAt.cell (by repeat (first | exact .here rfl | apply CellAt.there)) hS_7, trivial⟩) ?_
      have hQ : Sat w0 (tree E_sc p2 c2 * (blks [(b, .cells #[E_sc.k k, E_sc.v v, .pointer (some ⟨bc, 0, none⟩), .pointer pr, x4, x5] 144 (0, 0)), (bc, .cells #[E_sc.k k', E_sc.v v', .pointer p1, .pointer p2, .int .i64 (1 + max c1.h c2.h), .int .i64 (1 + c1.m + c2.m)] 144 (0, 0))] * (tree E_sc p1 c1 * (tree E_sc pr r * R)))) w := hS.to (by simp only [blks]; ac_rfl)
      refine O_call rfl rfl rfl rfl Try.call112 rfl ((ht_sc _ _ _ hQ).1) (fun _ _ hv => ⟨trivial, ⟨trivial, trivial⟩⟩) ?_
      rintro _ w ⟨rfl, hS⟩
      replace hS : Sat w0 (blks [(b, .cells #[E_sc.k k, E_sc.v v, .pointer (some ⟨bc, 0, none⟩), .pointer pr, x4, x5] 144 (0, 0)), (bc, .cells #[E_sc.k k', E_sc.v v', .pointer p1, .pointer p2, .int .i64 (1 + max c1.h c2.h), .int .i64 (1 + c1.m + c2.m)] 144 (0, 0))] * (tree E_sc p1 c1 * (tree E_sc p2 c2 * (tree E_sc pr r * R)))) w := hS.to (by simp only [blks]; ac_rfl)
      refine O_cmp rfl rfl rfl rfl rfl rfl rfl ?_
      refine R_nil ?_
      refine tn ?_
      refine F_false rfl (decide_eq_false (by omega)) ?_
      refine F_skip ?_
      refine tn ?_
      refine F_seq ?_
      refine F_region (p := ⟨_, [0, 2, 0], []⟩) rfl [0, 1, 2] rfl ?_
      refine O_move rfl rfl rfl rfl rfl ?_
      have hQ : Sat w0 (blks [(bc, .cells #[E_sc.k k', E_sc.v v', .pointer p1, .pointer p2, .int .i64 (1 + max c1.h c2.h), .int .i64 (1 + c1.m + c2.m)] 144 (0, 0))] * (tree E_sc p1 c1 * (tree E_sc p2 c2 * ((blks [(b, .cells #[E_sc.k k, E_sc.v v, .pointer (some ⟨bc, 0, none⟩), .pointer pr, x4, x5] 144 (0, 0))] * tree E_sc pr r) * R)))) w := hS.to (by simp only [blks]; ac_rfl)
      replace hQ := tree_node_mk rfl rfl hQ
      replace hQ : Sat w0 (blks [(b, .cells #[E_sc.k k, E_sc.v v, .pointer (some ⟨bc, 0, none⟩), .pointer pr, x4, x5] 144 (0, 0))] * (tree E_sc (some ⟨bc, 0, none⟩) (.node c1 k' v' c2) * (tree E_sc pr r * R))) w := hQ.to (by ac_rfl)
      refine O_call rfl rfl rfl rfl Try.call114 rfl (toRight_sc (by simp only [T.m] at *; omega) hQ) (fun _ _ hv => trivial) ?_
      rintro _ w ⟨pe, rfl, hS⟩
      refine O_assign rfl rfl rfl rfl rfl ?_
      refine R_nil ?_
      refine tn ?_
      refine F_ret ?_
      refine br ?_
      refine tr ?_
      show endF _ _ _ _ _ _
      refine end0 trivial rfl rfl rfl hS ?_
      intro w hS
      exact ⟨_, _, rfl, by simp [T.toList, List.append_assoc], hS⟩
  by_cases cR : l.h - r.h < -1
  · obtain ⟨c1, k', v', c2, rfl⟩ := T.h0 (t := r) (by omega)
    have d3 := c1.bd
    have d4 := c2.bd
    simp only [T.h, T.m] at cR d1 d2 hm cL
    obtain ⟨bc, p1, p2, rfl, hS⟩ := tree_node hS.b3
    replace hS : Sat w0 (blks [(b, .cells #[E_sc.k k, E_sc.v v, .pointer pl, .pointer (some ⟨bc, 0, none⟩), x4, x5] 144 (0, 0)), (bc, .cells #[E_sc.k k', E_sc.v v', .pointer p1, .pointer p2, .int .i64 (1 + max c1.h c2.h), .int .i64 (1 + c1.m + c2.m)] 144 (0, 0))] * (tree E_sc p1 c1 * (tree E_sc p2 c2 * (tree E_sc pl l * R)))) w := hS.to (by simp only [blks]; ac_rfl)
    by_cases cd : c2.h < c1.h
    · obtain ⟨d1', k2, v2, d2', rfl⟩ := T.h0 (t := c1) (by omega)
      refine enterF (args := [_]) Try.func107 rfl Try.ntmps107 rfl rfl ?_
      refine F_seq ?_
      refine F_region (p := ⟨_, [0], []⟩) rfl [0] rfl ?_
      refine O_assign rfl rfl rfl rfl rfl ?_
      refine R_nil ?_
      refine tn ?_
      refine F_seq ?_
      refine F_seq ?_
      refine F_drawnS hS (by kernel_rfl) (p := ⟨_, [0, 0, 0, 1, 2, 0, 0, 0, 1, 2, 0, 0], [(4, 8)]⟩) rfl (.ofList [0, 1, 2, 3, 4, 5, 6, 7, 8, 9, 10, 11]) (by kernel_rfl) ?_
      intro w hS
      refine O_move rfl rfl rfl rfl rfl ?_
      refine O_nilCheck rfl rfl rfl rfl rfl ?_
      refine O_fieldAddr rfl rfl rfl rfl rfl Try.runUnderlying144 rfl Try.sizeOf125 ?_
      refine O_loadS hS rfl rfl rfl rfl rfl Try.isAgg125 (by repeat (first | exact .here rfl | apply CellAt.there)) (by trivial) ?_
      have hQ : Sat w0 (tree E_sc pl l * (blks [(b, .cells #[E_sc.k k, E_sc.v v, .pointer pl, .pointer (some ⟨bc, 0, none⟩), x4, x5] 144 (0, 0))] * ((blks [(bc, .cells #[E_sc.k k', E_sc.v v', .pointer p1, .pointer p2, .int .i64 (1 + max (T.node d1' k2 v2 d2').h c2.h), .int .i64 (1 + (T.node d1' k2 v2 d2').m + c2.m)] 144 (0, 0))] * (tree E_sc p1 (T.node d1' k2 v2 d2') * tree E_sc p2 c2)) * R))) w := hS.to (by simp only [blks]; ac_rfl)
      have hS_4 := hS
      refine O_call rfl rfl rfl rfl Try.call112 rfl ((ht_sc _ _ _ hQ).1) (fun _ _ hv => trivial) ?_
      rintro _ w ⟨rfl, hS⟩
      replace hS : Sat w0 (blks [(b, .cells #[E_sc.k k, E_sc.v v, .pointer pl, .pointer (some ⟨bc, 0, none⟩), x4, x5] 144 (0, 0)), (bc, .cells #[E_sc.k k', E_sc.v v', .pointer p1, .pointer p2, .int .i64 (1 + max (T.node d1' k2 v2 d2').h c2.h), .int .i64 (1 + (T.node d1' k2 v2 d2').m + c2.m)] 144 (0, 0))] * (tree E_sc p1 (T.node d1' k2 v2 d2') * (tree E_sc p2 c2 * (tree E_sc pl l * R)))) w := hS.to (by simp only [blks]; ac_rfl)
      refine O_move rfl rfl rfl rfl rfl ?_
      refine O_nilCheck rfl rfl rfl rfl rfl ?_
      refine O_fieldAddr rfl rfl rfl rfl rfl Try.runUnderlying144 rfl Try.sizeOf125 ?_
      refine O_loadS hS rfl rfl rfl rfl rfl Try.isAgg125 (by repeat (first | exact .here rfl | apply CellAt.there)) (by exact ⟨CellAt.cell (by repeat (first | exact .here rfl | apply CellAt.there)) hS_4, trivial⟩) ?_
      have hQ : Sat w0 ((blks [(bc, .cells #[E_sc.k k', E_sc.v v', .pointer p1, .pointer p2, .int .i64 (1 + max (T.node d1' k2 v2 d2').h c2.h), .int .i64 (1 + (T.node d1' k2 v2 d2').m + c2.m)] 144 (0, 0))] * (tree E_sc p1 (T.node d1' k2 v2 d2') * tree E_sc p2 c2)) * (blks [(b, .cells #[E_sc.k k, E_sc.v v, .pointer pl, .pointer (some ⟨bc, 0, none⟩), x4, x5] 144 (0, 0))] * (tree E_sc pl l * R))) w := hS.to (by simp only [blks]; ac_rfl)
      refine O_call rfl rfl rfl rfl Try.call112 rfl ((ht_sc_at _ _ _ hQ).1) (fun _ _ hv => ⟨trivial, trivial⟩) ?_
      rintro _ w ⟨rfl, hS⟩
      replace hS : Sat w0 (blks [(b, .cells #[E_sc.k k, E_sc.v v, .pointer pl, .pointer (some ⟨bc, 0, none⟩), x4, x5] 144 (0, 0)), (bc, .cells #[E_sc.k k', E_sc.v v', .pointer p1, .pointer p2, .int .i64 (1 + max (T.node d1' k2 v2 d2').h c2.h), .int .i64 (1 + (T.node d1' k2 v2 d2').m + c2.m)] 144 (0, 0))] * (tree E_sc p1 (T.node d1' k2 v2 d2') * (tree E_sc p2 c2 * (tree E_sc pl l * R)))) w := hS.to (by simp only [blks]; ac_rfl)
      refine O_subN rfl rfl rfl rfl rfl rfl (by first | omega | (dsimp only; omega)) ?_
      refine O_assign rfl rfl rfl rfl rfl ?_
      refine R_nil ?_
      refine tn ?_
      refine F_block ?_
      refine F_seq ?_
      refine F_region (p := ⟨_, [0, 0, 0], []⟩) rfl [0, 1, 2] rfl ?_
      refine O_move rfl rfl rfl rfl rfl ?_
      refine O_cmp rfl rfl rfl rfl rfl rfl rfl ?_
      refine O_assign rfl rfl rfl rfl rfl ?_
      refine R_nil ?_
      refine tn ?_
      refine F_false rfl (decide_eq_false (by omega)) ?_
      refine F_seq ?_
      refine F_region (p := ⟨_, [0, 0, 0], []⟩) rfl [0, 1, 2] rfl ?_
      refine O_move rfl rfl rfl rfl rfl ?_
      refine O_cmp rfl rfl rfl rfl rfl rfl rfl ?_
      refine O_assign rfl rfl rfl rfl rfl ?_
      refine R_nil ?_
      refine tn ?_
      refine F_true rfl (decide_eq_true (by omega)) ?_
      refine F_seq ?_
      refine F_seq ?_
      refine F_drawnS hS (by kernel_rfl) (p := ⟨_, [0, 0, 0, 1, 0, 0, 1, 2, 0, 0, 0, 1, 0, 0, 1, 2, 0], [(7, 11), (7, 14)]⟩) rfl (.ofList [0, 1, 2, 3, 4, 5, 6, 7, 8, 9, 10, 11, 12, 13, 14, 15, 16]) (by kernel_rfl) ?_
      intro w hS
      refine O_move rfl rfl rfl rfl rfl ?_
      refine O_nilCheck rfl rfl rfl rfl rfl ?_
      refine O_fieldAddr rfl rfl rfl rfl rfl Try.runUnderlying144 rfl Try.sizeOf125 ?_
      refine O_loadS hS rfl rfl rfl rfl rfl Try.isAgg125 (by repeat (first | exact .here rfl | apply CellAt.there)) (by trivial) ?_
      refine O_nilCheck rfl rfl rfl rfl rfl ?_
      refine O_fieldAddr rfl rfl rfl rfl rfl Try.runUnderlying144 rfl Try.sizeOf125 ?_
      refine O_loadS hS rfl rfl rfl rfl rfl Try.isAgg125 (by repeat (first | exact .here rfl | apply CellAt.there)) (by trivial) ?_
      have hQ : Sat w0 (tree E_sc p2 c2 * (blks [(b, .cells #[E_sc.k k, E_sc.v v, .pointer pl, .pointer (some ⟨bc, 0, none⟩), x4, x5] 144 (0, 0)), (bc, .cells #[E_sc.k k', E_sc.v v', .pointer p1, .pointer p2, .int .i64 (1 + max (T.node d1' k2 v2 d2').h c2.h), .int .i64 (1 + (T.node d1' k2 v2 d2').m + c2.m)] 144 (0, 0))] * (tree E_sc p1 (T.node d1' k2 v2 d2') * (tree E_sc pl l * R)))) w := hS.to (by simp only [blks]; ac_rfl)
      have hS_7 := hS
      refine O_call rfl rfl rfl rfl Try.call112 rfl ((ht_sc _ _ _ hQ).1) (fun _ _ hv => trivial) ?_
      rintro _ w ⟨rfl, hS⟩
      replace hS : Sat w0 (blks [(b, .cells #[E_sc.k k, E_sc.v v, .pointer pl, .pointer (some ⟨bc, 0, none⟩), x4, x5] 144 (0, 0)), (bc, .cells #[E_sc.k k', E_sc.v v', .pointer p1, .pointer p2, .int .i64 (1 + max (T.node d1' k2 v2 d2').h c2.h), .int .i64 (1 + (T.node d1' k2 v2 d2').m + c2.m)] 144 (0, 0))] * (tree E_sc p1 (T.node d1' k2 v2 d2') * (tree E_sc p2 c2 * (tree E_sc pl l * R)))) w := hS.to (by simp only [blks]; ac_rfl)
      refine O_move rfl rfl rfl rfl rfl ?_
      refine O_nilCheck rfl rfl rfl rfl rfl ?_
      refine O_fieldAddr rfl rfl rfl rfl rfl Try.runUnderlying144 rfl Try.sizeOf125 ?_
      refine O_loadS hS rfl rfl rfl rfl rfl Try.isAgg125 (by repeat (first | exact .here rfl | apply CellAt.there)) (by exact ⟨CellAt.cell (by repeat (first | exact .here rfl | apply CellAt.there)) hS_7, trivial⟩) ?_
      refine O_nilCheck rfl rfl rfl rfl rfl ?_
      refine O_fieldAddr rfl rfl rfl rfl rfl Try.runUnderlying144 rfl Try.sizeOf125 ?_
      refine O_loadS hS rfl rfl rfl rfl rfl Try.isAgg125 (by repeat (first | exact .here rfl | apply CellAt.there)) (by exact ⟨CellAt.cell (by repeat (first | exact .here rfl | apply CellAt.there)) hS_7, trivial⟩) ?_
      have hQ : Sat w0 (tree E_sc p1 (T.node d1' k2 v2 d2') * (blks [(b, .cells #[E_sc.k k, E_sc.v v, .pointer pl, .pointer (some ⟨bc, 0, none⟩), x4, x5] 144 (0, 0)), (bc, .cells #[E_sc.k k', E_sc.v v', .pointer p1, .pointer p2, .int .i64 (1 + max (T.node d1' k2 v2 d2').h c2.h), .int .i64 (1 + (T.node d1' k2 v2 d2').m + c2.m)] 144 (0, 0))] * (tree E_sc p2 c2 * (tree E_sc pl l * R)))) w := hS.to (by simp only [blks]; ac_rfl)
      refine O_call rfl rfl rfl rfl Try.call112 rfl ((ht_sc _ _ _ hQ).1) (fun _ _ hv => ⟨trivial, ⟨trivial, trivial⟩⟩) ?_
      rintro _ w ⟨rfl, hS⟩
      replace hS : Sat w0 (blks [(b, .cells #[E_sc.k k, E_sc.v v, .pointer pl, .pointer (some ⟨bc, 0, none⟩), x4, x5] 144 (0, 0)), (bc, .cells #[E_sc.k k', E_sc.v v', .pointer p1, .pointer p2, .int .i64 (1 + max (T.node d1' k2 v2 d2').h c2.h), .int .i64 (1 + (T.node d1' k2 v2 d2').m + c2.m)] 144 (0, 0))] * (tree E_sc p1 (T.node d1' k2 v2 d2') * (tree E_sc p2 c2 * (tree E_sc pl l * R)))) w := hS.to (by simp only [blks]; ac_rfl)
      refine O_cmp rfl rfl rfl rfl rfl rfl rfl ?_
      refine R_nil ?_
      refine tn ?_
      refine F_true rfl (decide_eq_true (by omega)) ?_
      refine F_region (p := ⟨_, [0, 0, 0, 0, 1, 2, 0, 0, 2], []⟩) rfl [0, 1, 2, 3, 4, 5, 6, 7, 8] rfl ?_
      refine O_move rfl rfl rfl rfl rfl ?_
      refine O_move rfl rfl rfl rfl rfl ?_
      refine O_nilCheck rfl rfl rfl rfl rfl ?_
      refine O_fieldAddr rfl rfl rfl rfl rfl Try.runUnderlying144 rfl Try.sizeOf125 ?_
      refine O_loadS hS rfl rfl rfl rfl rfl Try.isAgg125 (by repeat (first | exact .here rfl | apply CellAt.there)) (by trivial) ?_
      have hQ : Sat w0 (blks [(bc, .cells #[E_sc.k k', E_sc.v v', .pointer p1, .pointer p2, .int .i64 (1 + max (T.node d1' k2 v2 d2').h c2.h), .int .i64 (1 + (T.node d1' k2 v2 d2').m + c2.m)] 144 (0, 0))] * (tree E_sc p1 (T.node d1' k2 v2 d2') * (tree E_sc p2 c2 * ((blks [(b, .cells #[E_sc.k k, E_sc.v v, .pointer pl, .pointer (some ⟨bc, 0, none⟩), x4, x5] 144 (0, 0))] * tree E_sc pl l) * R)))) w := hS.to (by simp only [blks]; ac_rfl)
      refine O_call rfl rfl rfl rfl Try.call114 rfl (toRight_sc (by simp only [T.m] at *; omega) hQ) (fun _ _ hv => trivial) ?_
      rintro _ w ⟨pn, rfl, hS⟩
      replace hS : Sat w0 (blks [(b, .cells #[E_sc.k k, E_sc.v v, .pointer pl, .pointer (some ⟨bc, 0, none⟩), x4, x5] 144 (0, 0))] * (tree E_sc pn (.node d1' k2 v2 (.node d2' k' v' c2)) * (tree E_sc pl l * R))) w := hS.to (by simp only [blks]; ac_rfl)
      refine O_nilCheck rfl rfl rfl rfl rfl ?_
      refine O_fieldAddr rfl rfl rfl rfl rfl Try.runUnderlying144 rfl Try.sizeOf125 ?_
      refine O_storeS hS rfl rfl rfl rfl rfl rfl rfl Try.sizeOf125 (by repeat (first | exact .here rfl rfl | apply SetAt.there)) (fun w' hv => trivial) ?_
      intro w hS
      refine R_nil ?_
      refine tn ?_
      refine F_seq ?_
      refine F_region (p := ⟨_, [0, 2, 0], []⟩) rfl [0, 1, 2] rfl ?_
      refine O_move rfl rfl rfl rfl rfl ?_
      replace hS : Sat w0 (blks [(b, .cells #[E_sc.k k, E_sc.v v, .pointer pl, .pointer pn, x4, x5] 144 (0, 0))] * (tree E_sc pn (.node d1' k2 v2 (.node d2' k' v' c2)) * (tree E_sc pl l * R))) w := hS
      replace hS : Sat w0 (blks [(b, .cells #[E_sc.k k, E_sc.v v, .pointer pl, .pointer pn, x4, x5] 144 (0, 0))] * (tree E_sc pl l * (tree E_sc pn (.node d1' k2 v2 (.node d2' k' v' c2)) * R))) w := hS.to (by simp only [blks]; ac_rfl)
      refine O_call rfl rfl rfl rfl Try.call113 rfl (toLeft_sc (by simp only [T.m] at *; omega) hS) (fun _ _ hv => trivial) ?_
      rintro _ w ⟨pe, rfl, hS⟩
      refine O_assign rfl rfl rfl rfl rfl ?_
      refine R_nil ?_
      refine tn ?_
      refine F_ret ?_
      refine br ?_
      refine tr ?_
      show endF _ _ _ _ _ _
      refine end0 trivial rfl rfl rfl hS ?_
      intro w hS
      exact ⟨_, _, rfl, by simp [T.toList, List.append_assoc], hS⟩
    ·
      refine enterF (args := [_]) Try.func107 rfl Try.ntmps107 rfl rfl ?_
      refine F_seq ?_
      refine F_region (p := ⟨_, [0], []⟩) rfl [0] rfl ?_
      refine O_assign rfl rfl rfl rfl rfl ?_
      refine R_nil ?_
      refine tn ?_
      refine F_seq ?_
      refine F_seq ?_
      refine F_drawnS hS (by kernel_rfl) (p := ⟨_, [0, 0, 0, 1, 2, 0, 0, 0, 1, 2, 0, 0], [(4, 8)]⟩) rfl (.ofList [0, 1, 2, 3, 4, 5, 6, 7, 8, 9, 10, 11]) (by kernel_rfl) ?_
      intro w hS
      refine O_move rfl rfl rfl rfl rfl ?_
      refine O_nilCheck rfl rfl rfl rfl rfl ?_
      refine O_fieldAddr rfl rfl rfl rfl rfl Try.runUnderlying144 rfl Try.sizeOf125 ?_
      refine O_loadS hS rfl rfl rfl rfl rfl Try.isAgg125 (by repeat (first | exact .here rfl | apply CellAt.there)) (by trivial) ?_
      have hQ : Sat w0 (tree E_sc pl l * (blks [(b, .cells #[E_sc.k k, E_sc.v v, .pointer pl, .pointer (some ⟨bc, 0, none⟩), x4, x5] 144 (0, 0))] * ((blks [(bc, .cells #[E_sc.k k', E_sc.v v', .pointer p1, .pointer p2, .int .i64 (1 + max c1.h c2.h), .int .i64 (1 + c1.m + c2.m)] 144 (0, 0))] * (tree E_sc p1 c1 * tree E_sc p2 c2)) * R))) w := hS.to (by simp only [blks]; ac_rfl)
      have hS_4 := hS
      refine O_call rfl rfl rfl rfl Try.call112 rfl ((ht_sc _ _ _ hQ).1) (fun _ _ hv => trivial) ?_
      rintro _ w ⟨rfl, hS⟩
      replace hS : Sat w0 (blks [(b, .cells #[E_sc.k k, E_sc.v v, .pointer pl, .pointer (some ⟨bc, 0, none⟩), x4, x5] 144 (0, 0)), (bc, .cells #[E_sc.k k', E_sc.v v', .pointer p1, .pointer p2, .int .i64 (1 + max c1.h c2.h), .int .i64 (1 + c1.m + c2.m)] 144 (0, 0))] * (tree E_sc p1 c1 * (tree E_sc p2 c2 * (tree E_sc pl l * R)))) w := hS.to (by simp only [blks]; ac_rfl)
      refine O_move rfl rfl rfl rfl rfl ?_
      refine O_nilCheck rfl rfl rfl rfl rfl ?_
      refine O_fieldAddr rfl rfl rfl rfl rfl Try.runUnderlying144 rfl Try.sizeOf125 ?_
      refine O_loadS hS rfl rfl rfl rfl rfl Try.isAgg125 (by repeat (first | exact .here rfl | apply CellAt.there)) (by exact ⟨CellAt.cell (by repeat (first | exact .here rfl | apply CellAt.there)) hS_4, trivial⟩) ?_
      have hQ : Sat w0 ((blks [(bc, .cells #[E_sc.k k', E_sc.v v', .pointer p1, .pointer p2, .int .i64 (1 + max c1.h c2.h), .int .i64 (1 + c1.m + c2.m)] 144 (0, 0))] * (tree E_sc p1 c1 * tree E_sc p2 c2)) * (blks [(b, .cells #[E_sc.k k, E_sc.v v, .pointer pl, .pointer (some ⟨bc, 0, none⟩), x4, x5] 144 (0, 0))] * (tree E_sc pl l * R))) w := hS.to (by simp only [blks]; ac_rfl)
      refine O_call rfl rfl rfl rfl Try.call112 rfl ((ht_sc_at _ _ _ hQ).1) (fun _ _ hv => ⟨trivial, trivial⟩) ?_
      rintro _ w ⟨rfl, hS⟩
      replace hS : Sat w0 (blks [(b, .cells #[E_sc.k k, E_sc.v v, .pointer pl, .pointer (some ⟨bc, 0, none⟩), x4, x5] 144 (0, 0)), (bc, .cells #[E_sc.k k', E_sc.v v', .pointer p1, .pointer p2, .int .i64 (1 + max c1.h c2.h), .int .i64 (1 + c1.m + c2.m)] 144 (0, 0))] * (tree E_sc p1 c1 * (tree E_sc p2 c2 * (tree E_sc pl l * R)))) w := hS.to (by simp only [blks]; ac_rfl)
      refine O_subN rfl rfl rfl rfl rfl rfl (by first | omega | (dsimp only; omega)) ?_
      refine O_assign rfl rfl rfl rfl rfl ?_
      refine R_nil ?_
      refine tn ?_
      refine F_block ?_
      refine F_seq ?_
      refine F_region (p := ⟨_, [0, 0, 0], []⟩) rfl [0, 1, 2] rfl ?_
      refine O_move rfl rfl rfl rfl rfl ?_
      refine O_cmp rfl rfl rfl rfl rfl rfl rfl ?_
      refine O_assign rfl rfl rfl rfl rfl ?_
      refine R_nil ?_
      refine tn ?_
      refine F_false rfl (decide_eq_false (by omega)) ?_
      refine F_seq ?_
      refine F_region (p := ⟨_, [0, 0, 0], []⟩) rfl [0, 1, 2] rfl ?_
      refine O_move rfl rfl rfl rfl rfl ?_
      refine O_cmp rfl rfl rfl rfl rfl rfl rfl ?_
      refine O_assign rfl rfl rfl rfl rfl ?_
      refine R_nil ?_
      refine tn ?_
      refine F_true rfl (decide_eq_true (by omega)) ?_
      refine F_seq ?_
      refine F_seq ?_
      refine F_drawnS hS (by kernel_rfl) (p := ⟨_, [0, 0, 0, 1, 0, 0, 1, 2, 0, 0, 0, 1, 0, 0, 1, 2, 0], [(7, 11), (7, 14)]⟩) rfl (.ofList [0, 1, 2, 3, 4, 5, 6, 7, 8, 9, 10, 11, 12, 13, 14, 15, 16]) (by kernel_rfl) ?_
      intro w hS
      refine O_move rfl rfl rfl rfl rfl ?_
      refine O_nilCheck rfl rfl rfl rfl rfl ?_
      refine O_fieldAddr rfl rfl rfl rfl rfl Try.runUnderlying144 rfl Try.sizeOf125 ?_
      refine O_loadS hS rfl rfl rfl rfl rfl Try.isAgg125 (by repeat (first | exact .here rfl | apply CellAt.there)) (by trivial) ?_
      refine O_nilCheck rfl rfl rfl rfl rfl ?_
      refine O_fieldAddr rfl rfl rfl rfl rfl Try.runUnderlying144 rfl Try.sizeOf125 ?_
      refine O_loadS hS rfl rfl rfl rfl rfl Try.isAgg125 (by repeat (first | exact .here rfl | apply CellAt.there)) (by trivial) ?_
      have hQ : Sat w0 (tree E_sc p2 c2 * (blks [(b, .cells #[E_sc.k k, E_sc.v v, .pointer pl, .pointer (some ⟨bc, 0, none⟩), x4, x5] 144 (0, 0)), (bc, .cells #[E_sc.k k', E_sc.v v', .pointer p1, .pointer p2, .int .i64 (1 + max c1.h c2.h), .int .i64 (1 + c1.m + c2.m)] 144 (0, 0))] * (tree E_sc p1 c1 * (tree E_sc pl l * R)))) w := hS.to (by simp only [blks]; ac_rfl)
      have hS_7 := hS
      refine O_call rfl rfl rfl rfl Try.call112 rfl ((ht_sc _ _ _ hQ).1) (fun _ _ hv => trivial) ?_
      rintro _ w ⟨rfl, hS⟩
      replace hS : Sat w0 (blks [(b, .cells #[E_sc.k k, E_sc.v v, .pointer pl, .pointer (some ⟨bc, 0, none⟩), x4, x5] 144 (0, 0)), (bc, .cells #[E_sc.k k', E_sc.v v', .pointer p1, .pointer p2, .int .i64 (1 + max c1.h c2.h), .int .i64 (1 + c1.m + c2.m)] 144 (0, 0))] * (tree E_sc p1 c1 * (tree E_sc p2 c2 * (tree E_sc pl l * R)))) w := hS.to (by simp only [blks]; ac_rfl)
      refine O_move rfl rfl rfl rfl rfl ?_
      refine O_nilCheck rfl rfl rfl rfl rfl ?_
      refine O_fieldAddr rfl rfl rfl rfl rfl Try.runUnderlying144 rfl Try.sizeOf125 ?_
      refine O_loadS hS rfl rfl rfl rfl rfl Try.isAgg125 (by repeat (first | exact .here rfl | apply CellAt.there)) (by exact ⟨CellAt.cell (by repeat (first | exact .here rfl | apply CellAt.there)) hS_7, trivial⟩) ?_
      refine O_nilCheck rfl rfl rfl rfl rfl ?_
      refine O_fieldAddr rfl rfl rfl rfl rfl Try.runUnderlying144 rfl Try.sizeOf125 ?_
      refine O_loadS hS rfl rfl rfl rfl rfl Try.isAgg125 (by repeat (first | exact .here rfl | apply CellAt.there)) (by exact ⟨CellAt.cell (by repeat (first | exact .here rfl | apply CellAt.there)) hS_7, trivial⟩) ?_
      have hQ : Sat w0 (tree E_sc p1 c1 * (blks [(b, .cells #[E_sc.k k, E_sc.v v, .pointer pl, .pointer (some ⟨bc, 0, none⟩), x4, x5] 144 (0, 0)), (bc, .cells #[E_sc.k k', E_sc.v v', .pointer p1, .pointer p2, .int .i64 (1 + max c1.h c2.h), .int .i64 (1 + c1.m + c2.m)] 144 (0, 0))] * (tree E_sc p2 c2 * (tree E_sc pl l * R)))) w := hS.to (by simp only [blks]; ac_rfl)
      refine O_call rfl rfl rfl rfl Try.call112 rfl ((ht_sc _ _ _ hQ).1) (fun _ _ hv => ⟨trivial, ⟨trivial, trivial⟩⟩) ?_
      rintro _ w ⟨rfl, hS⟩
      replace hS : Sat w0 (blks [(b, .cells #[E_sc.k k, E_sc.v v, .pointer pl, .pointer (some ⟨bc, 0, none⟩), x4, x5] 144 (0, 0)), (bc, .cells #[E_sc.k k', E_sc.v v', .pointer p1, .pointer p2, .int .i64 (1 + max c1.h c2.h), .int .i64 (1 + c1.m + c2.m)] 144 (0, 0))] * (tree E_sc p1 c1 * (tree E_sc p2 c2 * (tree E_sc pl l * R)))) w := hS.to (by simp only [blks]; ac_rfl)
      refine O_cmp rfl rfl rfl rfl rfl rfl rfl ?_
      refine R_nil ?_
      refine tn ?_
      refine F_false rfl (decide_eq_false (by omega)) ?_
      refine F_skip ?_
      refine tn ?_
      refine F_seq ?_
      refine F_region (p := ⟨_, [0, 2, 0], []⟩) rfl [0, 1, 2] rfl ?_
      refine O_move rfl rfl rfl rfl rfl ?_
      have hQ : Sat w0 (blks [(bc, .cells #[E_sc.k k', E_sc.v v', .pointer p1, .pointer p2, .int .i64 (1 + max c1.h c2.h), .int .i64 (1 + c1.m + c2.m)] 144 (0, 0))] * (tree E_sc p1 c1 * (tree E_sc p2 c2 * ((blks [(b, .cells #[E_sc.k k, E_sc.v v, .pointer pl, .pointer (some ⟨bc, 0, none⟩), x4, x5] 144 (0, 0))] * tree E_sc pl l) * R)))) w := hS.to (by simp only [blks]; ac_rfl)
      replace hQ := tree_node_mk rfl rfl hQ
      replace hQ : Sat w0 (blks [(b, .cells #[E_sc.k k, E_sc.v v, .pointer pl, .pointer (some ⟨bc, 0, none⟩), x4, x5] 144 (0, 0))] * (tree E_sc pl l * (tree E_sc (some ⟨bc, 0, none⟩) (.node c1 k' v' c2) * R))) w := hQ.to (by ac_rfl)
      refine O_call rfl rfl rfl rfl Try.call113 rfl (toLeft_sc (by simp only [T.m] at *; omega) hQ) (fun _ _ hv => trivial) ?_
      rintro _ w ⟨pe, rfl, hS⟩
      refine O_assign rfl rfl rfl rfl rfl ?_
      refine R_nil ?_
      refine tn ?_
      refine F_ret ?_
      refine br ?_
      refine tr ?_
      show endF _ _ _ _ _ _
      refine end0 trivial rfl rfl rfl hS ?_
      intro w hS
      exact ⟨_, _, rfl, by simp [T.toList, List.append_assoc], hS⟩
  refine enterF (args := [_]) Try.func107 rfl Try.ntmps107 rfl rfl ?_
  refine F_seq ?_
  refine F_region (p := ⟨_, [0], []⟩) rfl [0] rfl ?_
  refine O_assign rfl rfl rfl rfl rfl ?_
  refine R_nil ?_
  refine tn ?_
  refine F_seq ?_
  refine F_seq ?_
  refine F_drawnS hS (by kernel_rfl) (p := ⟨_, [0, 0, 0, 1, 2, 0, 0, 0, 1, 2, 0, 0], [(4, 8)]⟩) rfl (.ofList [0, 1, 2, 3, 4, 5, 6, 7, 8, 9, 10, 11]) (by kernel_rfl) ?_
  intro w hS
  refine O_move rfl rfl rfl rfl rfl ?_
  refine O_nilCheck rfl rfl rfl rfl rfl ?_
  refine O_fieldAddr rfl rfl rfl rfl rfl Try.runUnderlying144 rfl Try.sizeOf125 ?_
  refine O_loadS hS rfl rfl rfl rfl rfl Try.isAgg125 (by repeat (first | exact .here rfl | apply CellAt.there)) (by trivial) ?_
  have hS_4 := hS
  refine O_call rfl rfl rfl rfl Try.call112 rfl ((ht_sc _ _ _ hS.b2).1) (fun _ _ hv => trivial) ?_
  rintro _ w ⟨rfl, hS⟩
  replace hS := hS.b2
  refine O_move rfl rfl rfl rfl rfl ?_
  refine O_nilCheck rfl rfl rfl rfl rfl ?_
  refine O_fieldAddr rfl rfl rfl rfl rfl Try.runUnderlying144 rfl Try.sizeOf125 ?_
  refine O_loadS hS rfl rfl rfl rfl rfl Try.isAgg125 (by repeat (first | exact .here rfl | apply CellAt.there)) (by exact ⟨CellAt.cell (by repeat (first | exact .here rfl | apply CellAt.there)) hS_4, trivial⟩) ?_
  refine O_call rfl rfl rfl rfl Try.call112 rfl ((ht_sc _ _ _ hS.b3).1) (fun _ _ hv => ⟨trivial, trivial⟩) ?_
  rintro _ w ⟨rfl, hS⟩
  replace hS := hS.f3
  refine O_subN rfl rfl rfl rfl rfl rfl (by first | omega | (dsimp only; omega)) ?_
  refine O_assign rfl rfl rfl rfl rfl ?_
  refine R_nil ?_
  refine tn ?_
  refine F_block ?_
  refine F_seq ?_
  refine F_region (p := ⟨_, [0, 0, 0], []⟩) rfl [0, 1, 2] rfl ?_
  refine O_move rfl rfl rfl rfl rfl ?_
  refine O_cmp rfl rfl rfl rfl rfl rfl rfl ?_
  refine O_assign rfl rfl rfl rfl rfl ?_
  refine R_nil ?_
  refine tn ?_
  refine F_false rfl (decide_eq_false (by omega)) ?_
  refine F_seq ?_
  refine F_region (p := ⟨_, [0, 0, 0], []⟩) rfl [0, 1, 2] rfl ?_
  refine O_move rfl rfl rfl rfl rfl ?_
  refine O_cmp rfl rfl rfl rfl rfl rfl rfl ?_
  refine O_assign rfl rfl rfl rfl rfl ?_
  refine R_nil ?_
  refine tn ?_
  refine F_false rfl (decide_eq_false (by omega)) ?_
  refine F_skip ?_
  refine bn ?_
  refine tn ?_
  refine F_seq ?_
  refine F_region (p := ⟨_, [0, 2, 0], []⟩) rfl [0, 1, 2] rfl ?_
  refine O_move rfl rfl rfl rfl rfl ?_
  refine O_call rfl rfl rfl rfl Try.call106 rfl (count_sc ht_sc ht_sc (by omega) hS) (fun _ _ hv => trivial) ?_
  rintro _ w ⟨rfl, hS⟩
  refine O_assign rfl rfl rfl rfl rfl ?_
  refine R_nil ?_
  refine tn ?_
  refine F_ret ?_
  show endF _ _ _ _ _ _
  refine end0 trivial rfl rfl rfl hS ?_
  intro w hS
  exact ⟨_, .node l k v r, rfl, rfl, tree_node_mk rfl rfl hS⟩
theorem put_sc {rb : Nat} {x1 : Value} {k : ByteArray} {v : Nat} (t : T ByteArray Nat) : ∀ {w0 w : World} {R : HProp} {p : Option Addr} (hs : Srt O_sc t.toList) (hm : t.m ≤ 4611686018427370000)
    (hS : Sat w0 (blks [(rb, .cells #[E_sc.cv, x1] 127 (0, 0))] * (tree E_sc p t * R)) w),
    Calls Try.prog 97 #[.pointer (some ⟨rb, 0, none⟩), .pointer p, E_sc.k k, E_sc.v v] w (ret fun u w' => ∃ p' t', u = .tuple #[.pointer p', .bool (get O_sc k t.toList).isSome] ∧ t'.toList = ins O_sc k v t.toList ∧ Sat w0 (blks [(rb, .cells #[E_sc.cv, x1] 127 (0, 0))] * (tree E_sc p' t' * R)) w') := by
  induction t with
  | leaf =>
    intro w0 w R p hs hm hS
    obtain ⟨rfl, hN⟩ := tree_leaf hS.b2
    clear hS
    have hS := hN
    refine enterF (args := [_, _, _, _]) Try.func97 rfl Try.ntmps97 rfl rfl ?_
    refine F_seq ?_
    refine F_region (p := ⟨_, [0, 0], []⟩) rfl [0, 1] rfl ?_
    refine O_assign rfl rfl rfl rfl rfl ?_
    refine O_assign rfl rfl rfl rfl rfl ?_
    refine R_nil ?_
    refine tn ?_
    refine F_seq ?_
    refine F_seq ?_
    refine F_region (p := ⟨_, [0, 0], []⟩) rfl [0, 1] rfl ?_
    refine O_move rfl rfl rfl rfl rfl ?_
    refine O_eqNil rfl rfl rfl rfl rfl rfl Try.runUnderlying125 ?_
    refine R_nil ?_
    refine tn ?_
    refine F_true rfl rfl ?_
    refine F_seq ?_
    refine F_region (p := ⟨_, [0, 0, 0, 2, 0], []⟩) rfl [0, 1, 2, 3, 4] rfl ?_
    refine O_move rfl rfl rfl rfl rfl ?_
    refine O_move rfl rfl rfl rfl rfl ?_
    refine O_build rfl rfl rfl rfl rfl (run_buildS [_, _, _, _, _, _] Try.zeroValue144 Try.runUnderlying144 (fun _ => 1) ⟨Try.sizeOf9, Try.sizeOf91, Try.sizeOf125, Try.sizeOf125, Try.sizeOf3, Try.sizeOf3, trivial⟩ rfl) ?_
    refine O_boxS hS rfl rfl rfl rfl rfl (fun _ _ hv => trivial) ?_
    intro b1 w hS
    refine O_assign rfl rfl rfl rfl rfl ?_
    refine R_nil ?_
    refine tn ?_
    refine F_seq ?_
    refine F_region (p := ⟨_, [0, 2, 0, 0], []⟩) rfl [0, 1, 2, 3] rfl ?_
    refine O_move rfl rfl rfl rfl rfl ?_
    replace hS : Sat w0 (blks [(b1, .cells #[E_sc.k k, E_sc.v v, .pointer none, .pointer none, .int .i64 0, .int .i64 0] 144 (0, 0)), (rb, .cells #[E_sc.cv, x1] 127 (0, 0))] * R) w := hS
    replace hS : Sat w0 (blks [(b1, .cells #[E_sc.k k, E_sc.v v, .pointer none, .pointer none, .int .i64 0, .int .i64 0] 144 (0, 0))] * (blks [(rb, .cells #[E_sc.cv, x1] 127 (0, 0))] * R)) w := hS.to (by simp only [blks]; ac_rfl)
    have hQ := (tree_leaf_mk (E := E_sc) (tree_leaf_mk (E := E_sc) hS.b2)).f3
    replace hQ : Sat w0 (blks [(b1, .cells #[E_sc.k k, E_sc.v v, .pointer none, .pointer none, .int .i64 0, .int .i64 0] 144 (0, 0))] * (tree E_sc none .leaf * (tree E_sc none .leaf * (blks [(rb, .cells #[E_sc.cv, x1] 127 (0, 0))] * R)))) w := hQ.to (by ac_rfl)
    refine O_call rfl rfl rfl rfl Try.call106 rfl (count_sc ht_sc ht_sc (by simp [T.h, T.m]) hQ) (fun _ _ hv => trivial) ?_
    rintro _ w ⟨rfl, hS⟩
    refine O_assign rfl rfl rfl rfl rfl ?_
    refine O_assign rfl rfl rfl rfl rfl ?_
    refine R_nil ?_
    refine tn ?_
    refine F_ret ?_
    refine tr ?_
    show endF _ _ _ _ _ _
    refine end0 trivial rfl rfl rfl hS ?_
    intro w hS
    exact ⟨_, .node .leaf k v .leaf, rfl, rfl, (tree_node_mk rfl rfl hS).b2⟩
  | node l k0 v0 r ihl ihr =>
    intro w0 w R p hs hm hS
    obtain ⟨b, pl, pr, rfl, hN⟩ := tree_node hS.b2
    clear hS
    have d1 := l.bd
    have d2 := r.bd
    simp only [T.m] at hm
    simp only [T.toList] at hs ⊢
    obtain ⟨s1, s2, s3, s4⟩ := srt_left hs
    have hS : Sat w0 (blks [(rb, .cells #[E_sc.cv, x1] 127 (0, 0)), (b, .cells #[E_sc.k k0, E_sc.v v0, .pointer pl, .pointer pr, .int .i64 (1 + max l.h r.h), .int .i64 (1 + l.m + r.m)] 144 (0, 0))] * (tree E_sc pl l * (tree E_sc pr r * R))) w := hN.to (by simp only [blks]; ac_rfl)
    clear hN
    cases e1 : O_sc.lt k k0 with
    | true =>
      have hc : cmpv O_sc k k0 = -1 := by simp [cmpv, e1]
      refine enterF (args := [_, _, _, _]) Try.func97 rfl Try.ntmps97 rfl rfl ?_
      refine F_seq ?_
      refine F_region (p := ⟨_, [0, 0], []⟩) rfl [0, 1] rfl ?_
      refine O_assign rfl rfl rfl rfl rfl ?_
      refine O_assign rfl rfl rfl rfl rfl ?_
      refine R_nil ?_
      refine tn ?_
      refine F_seq ?_
      refine F_seq ?_
      refine F_region (p := ⟨_, [0, 0], []⟩) rfl [0, 1] rfl ?_
      refine O_move rfl rfl rfl rfl rfl ?_
      refine O_eqNil rfl rfl rfl rfl rfl rfl Try.runUnderlying125 ?_
      refine R_nil ?_
      refine tn ?_
      refine F_false rfl rfl ?_
      refine F_skip ?_
      refine tn ?_
      refine F_seq ?_
      refine F_region (p := ⟨_, [0], []⟩) rfl [0] rfl ?_
      refine O_assign rfl rfl rfl rfl rfl ?_
      refine R_nil ?_
      refine tn ?_
      refine F_seq ?_
      refine F_seq ?_
      refine F_drawnS hS (by kernel_rfl) (p := ⟨_, [0, 0, 0, 1, 0, 0, 0, 0, 1, 2, 0], []⟩) rfl (.ofList [0, 1, 2, 3, 4, 5, 6, 7, 8, 9, 10]) (by kernel_rfl) ?_
      intro w hS
      refine O_move rfl rfl rfl rfl rfl ?_
      refine O_nilCheck rfl rfl rfl rfl rfl ?_
      refine O_fieldAddr rfl rfl rfl rfl rfl Try.runUnderlying127 rfl Try.sizeOf92 ?_
      refine O_loadS hS rfl rfl rfl rfl rfl Try.isAgg92 (by repeat (first | exact .here rfl | apply CellAt.there)) (by trivial) ?_
      refine O_move rfl rfl rfl rfl rfl ?_
      refine O_move rfl rfl rfl rfl rfl ?_
      refine O_nilCheck rfl rfl rfl rfl rfl ?_
      refine O_fieldAddr rfl rfl rfl rfl rfl Try.runUnderlying144 rfl Try.sizeOf9 ?_
      refine O_loadS hS rfl rfl rfl rfl rfl Try.isAgg9 (by repeat (first | exact .here rfl | apply CellAt.there)) (by trivial) ?_
      refine O_callv rfl rfl rfl rfl rfl rfl (cmp_sc k k0 hS) (fun _ _ hv => trivial) ?_
      rintro _ w ⟨rfl, hS⟩
      refine O_assign rfl rfl rfl rfl rfl ?_
      refine R_nil ?_
      refine tn ?_
      refine F_block ?_
      refine F_seq ?_
      refine F_region (p := ⟨_, [0, 0, 0], []⟩) rfl [0, 1, 2] rfl ?_
      refine O_move rfl rfl rfl rfl rfl ?_
      refine O_cmp rfl rfl rfl rfl rfl rfl rfl ?_
      refine O_assign rfl rfl rfl rfl rfl ?_
      refine R_nil ?_
      refine tn ?_
      refine F_true rfl (decide_eq_true (by omega)) ?_
      refine F_region (p := ⟨_, [0, 0, 0, 0, 0, 1, 0, 0, 2, 0, 0, 0, 0, 0, 2, 0], []⟩) rfl [0, 1, 2, 3, 4, 5, 6, 7, 8, 9, 10, 11, 12, 13, 14, 15] rfl ?_
      refine O_move rfl rfl rfl rfl rfl ?_
      refine O_move rfl rfl rfl rfl rfl ?_
      refine O_move rfl rfl rfl rfl rfl ?_
      refine O_nilCheck rfl rfl rfl rfl rfl ?_
      refine O_fieldAddr rfl rfl rfl rfl rfl Try.runUnderlying144 rfl Try.sizeOf125 ?_
      refine O_loadS hS rfl rfl rfl rfl rfl Try.isAgg125 (by repeat (first | exact .here rfl | apply CellAt.there)) (by trivial) ?_
      refine O_move rfl rfl rfl rfl rfl ?_
      refine O_move rfl rfl rfl rfl rfl ?_
      have hQ : Sat w0 (blks [(rb, .cells #[E_sc.cv, x1] 127 (0, 0))] * (tree E_sc pl l * (blks [(b, .cells #[E_sc.k k0, E_sc.v v0, .pointer pl, .pointer pr, .int .i64 (1 + max l.h r.h), .int .i64 (1 + l.m + r.m)] 144 (0, 0))] * (tree E_sc pr r * R)))) w := hS.to (by simp only [blks]; ac_rfl)
      refine O_call rfl rfl rfl rfl Try.call97 rfl (ihl s1 (by omega) hQ) (fun _ _ hv => trivial) ?_
      rintro _ w ⟨p', t', rfl, ht', hS⟩
      have hm' : t'.m ≤ l.m + 1 := by rw [T.m_len, T.m_len, ht', ins_len]; split <;> omega
      replace hS : Sat w0 (blks [(b, .cells #[E_sc.k k0, E_sc.v v0, .pointer pl, .pointer pr, .int .i64 (1 + max l.h r.h), .int .i64 (1 + l.m + r.m)] 144 (0, 0))] * (tree E_sc p' t' * (tree E_sc pr r * (blks [(rb, .cells #[E_sc.cv, x1] 127 (0, 0))] * R)))) w := hS.to (by simp only [blks]; ac_rfl)
      refine O_move rfl rfl rfl rfl rfl ?_
      refine O_extract rfl rfl rfl rfl rfl rfl ?_
      refine O_extract rfl rfl rfl rfl rfl rfl ?_
      refine O_nilCheck rfl rfl rfl rfl rfl ?_
      refine O_fieldAddr rfl rfl rfl rfl rfl Try.runUnderlying144 rfl Try.sizeOf125 ?_
      refine O_storeS hS rfl rfl rfl rfl rfl rfl rfl Try.sizeOf125 (by repeat (first | exact .here rfl rfl | apply SetAt.there)) (fun w' hv => trivial) ?_
      intro w hS
      refine O_assign rfl rfl rfl rfl rfl ?_
      refine R_nil ?_
      refine bn ?_
      refine tn ?_
      refine F_seq ?_
      refine F_region (p := ⟨_, [0, 2, 0, 0, 0], []⟩) rfl [0, 1, 2, 3, 4] rfl ?_
      refine O_move rfl rfl rfl rfl rfl ?_
      replace hS : Sat w0 (blks [(b, .cells #[E_sc.k k0, E_sc.v v0, .pointer p', .pointer pr, .int .i64 (1 + max l.h r.h), .int .i64 (1 + l.m + r.m)] 144 (0, 0))] * (tree E_sc p' t' * (tree E_sc pr r * (blks [(rb, .cells #[E_sc.cv, x1] 127 (0, 0))] * R)))) w := hS
      refine O_call rfl rfl rfl rfl Try.call107 rfl (even_sc (by omega) hS) (fun _ _ hv => trivial) ?_
      rintro _ w ⟨p'', t'', rfl, ht'', hS⟩
      refine O_move rfl rfl rfl rfl rfl ?_
      refine O_assign rfl rfl rfl rfl rfl ?_
      refine O_assign rfl rfl rfl rfl rfl ?_
      refine R_nil ?_
      refine tn ?_
      refine F_ret ?_
      show endF _ _ _ _ _ _
      refine end0 trivial rfl rfl rfl hS ?_
      intro w hS
      refine ⟨p'', t'', ?_, ?_, hS.b2⟩
      · rw [get_lt e1]; rfl
      · rw [ht'', ht', ins_lt e1]
    | false =>
      cases e2 : O_sc.lt k0 k with
      | true =>
        have hc : cmpv O_sc k k0 = 1 := by simp [cmpv, e1, e2]
        refine enterF (args := [_, _, _, _]) Try.func97 rfl Try.ntmps97 rfl rfl ?_
        refine F_seq ?_
        refine F_region (p := ⟨_, [0, 0], []⟩) rfl [0, 1] rfl ?_
        refine O_assign rfl rfl rfl rfl rfl ?_
        refine O_assign rfl rfl rfl rfl rfl ?_
        refine R_nil ?_
        refine tn ?_
        refine F_seq ?_
        refine F_seq ?_
        refine F_region (p := ⟨_, [0, 0], []⟩) rfl [0, 1] rfl ?_
        refine O_move rfl rfl rfl rfl rfl ?_
        refine O_eqNil rfl rfl rfl rfl rfl rfl Try.runUnderlying125 ?_
        refine R_nil ?_
        refine tn ?_
        refine F_false rfl rfl ?_
        refine F_skip ?_
        refine tn ?_
        refine F_seq ?_
        refine F_region (p := ⟨_, [0], []⟩) rfl [0] rfl ?_
        refine O_assign rfl rfl rfl rfl rfl ?_
        refine R_nil ?_
        refine tn ?_
        refine F_seq ?_
        refine F_seq ?_
        refine F_drawnS hS (by kernel_rfl) (p := ⟨_, [0, 0, 0, 1, 0, 0, 0, 0, 1, 2, 0], []⟩) rfl (.ofList [0, 1, 2, 3, 4, 5, 6, 7, 8, 9, 10]) (by kernel_rfl) ?_
        intro w hS
        refine O_move rfl rfl rfl rfl rfl ?_
        refine O_nilCheck rfl rfl rfl rfl rfl ?_
        refine O_fieldAddr rfl rfl rfl rfl rfl Try.runUnderlying127 rfl Try.sizeOf92 ?_
        refine O_loadS hS rfl rfl rfl rfl rfl Try.isAgg92 (by repeat (first | exact .here rfl | apply CellAt.there)) (by trivial) ?_
        refine O_move rfl rfl rfl rfl rfl ?_
        refine O_move rfl rfl rfl rfl rfl ?_
        refine O_nilCheck rfl rfl rfl rfl rfl ?_
        refine O_fieldAddr rfl rfl rfl rfl rfl Try.runUnderlying144 rfl Try.sizeOf9 ?_
        refine O_loadS hS rfl rfl rfl rfl rfl Try.isAgg9 (by repeat (first | exact .here rfl | apply CellAt.there)) (by trivial) ?_
        refine O_callv rfl rfl rfl rfl rfl rfl (cmp_sc k k0 hS) (fun _ _ hv => trivial) ?_
        rintro _ w ⟨rfl, hS⟩
        refine O_assign rfl rfl rfl rfl rfl ?_
        refine R_nil ?_
        refine tn ?_
        refine F_block ?_
        refine F_seq ?_
        refine F_region (p := ⟨_, [0, 0, 0], []⟩) rfl [0, 1, 2] rfl ?_
        refine O_move rfl rfl rfl rfl rfl ?_
        refine O_cmp rfl rfl rfl rfl rfl rfl rfl ?_
        refine O_assign rfl rfl rfl rfl rfl ?_
        refine R_nil ?_
        refine tn ?_
        refine F_false rfl (decide_eq_false (by omega)) ?_
        refine F_seq ?_
        refine F_region (p := ⟨_, [0, 0, 0], []⟩) rfl [0, 1, 2] rfl ?_
        refine O_move rfl rfl rfl rfl rfl ?_
        refine O_cmp rfl rfl rfl rfl rfl rfl rfl ?_
        refine O_assign rfl rfl rfl rfl rfl ?_
        refine R_nil ?_
        refine tn ?_
        refine F_true rfl (decide_eq_true (by omega)) ?_
        refine F_region (p := ⟨_, [0, 0, 0, 0, 0, 1, 0, 0, 2, 0, 0, 0, 0, 0, 2, 0], []⟩) rfl [0, 1, 2, 3, 4, 5, 6, 7, 8, 9, 10, 11, 12, 13, 14, 15] rfl ?_
        refine O_move rfl rfl rfl rfl rfl ?_
        refine O_move rfl rfl rfl rfl rfl ?_
        refine O_move rfl rfl rfl rfl rfl ?_
        refine O_nilCheck rfl rfl rfl rfl rfl ?_
        refine O_fieldAddr rfl rfl rfl rfl rfl Try.runUnderlying144 rfl Try.sizeOf125 ?_
        refine O_loadS hS rfl rfl rfl rfl rfl Try.isAgg125 (by repeat (first | exact .here rfl | apply CellAt.there)) (by trivial) ?_
        refine O_move rfl rfl rfl rfl rfl ?_
        refine O_move rfl rfl rfl rfl rfl ?_
        have hQ : Sat w0 (blks [(rb, .cells #[E_sc.cv, x1] 127 (0, 0))] * (tree E_sc pr r * (blks [(b, .cells #[E_sc.k k0, E_sc.v v0, .pointer pl, .pointer pr, .int .i64 (1 + max l.h r.h), .int .i64 (1 + l.m + r.m)] 144 (0, 0))] * (tree E_sc pl l * R)))) w := hS.to (by simp only [blks]; ac_rfl)
        refine O_call rfl rfl rfl rfl Try.call97 rfl (ihr s2 (by omega) hQ) (fun _ _ hv => trivial) ?_
        rintro _ w ⟨p', t', rfl, ht', hS⟩
        have hm' : t'.m ≤ r.m + 1 := by rw [T.m_len, T.m_len, ht', ins_len]; split <;> omega
        replace hS : Sat w0 (blks [(b, .cells #[E_sc.k k0, E_sc.v v0, .pointer pl, .pointer pr, .int .i64 (1 + max l.h r.h), .int .i64 (1 + l.m + r.m)] 144 (0, 0))] * (tree E_sc pl l * (tree E_sc p' t' * (blks [(rb, .cells #[E_sc.cv, x1] 127 (0, 0))] * R)))) w := hS.to (by simp only [blks]; ac_rfl)
        refine O_move rfl rfl rfl rfl rfl ?_
        refine O_extract rfl rfl rfl rfl rfl rfl ?_
        refine O_extract rfl rfl rfl rfl rfl rfl ?_
        refine O_nilCheck rfl rfl rfl rfl rfl ?_
        refine O_fieldAddr rfl rfl rfl rfl rfl Try.runUnderlying144 rfl Try.sizeOf125 ?_
        refine O_storeS hS rfl rfl rfl rfl rfl rfl rfl Try.sizeOf125 (by repeat (first | exact .here rfl rfl | apply SetAt.there)) (fun w' hv => trivial) ?_
        intro w hS
        refine O_assign rfl rfl rfl rfl rfl ?_
        refine R_nil ?_
        refine bn ?_
        refine tn ?_
        refine F_seq ?_
        refine F_region (p := ⟨_, [0, 2, 0, 0, 0], []⟩) rfl [0, 1, 2, 3, 4] rfl ?_
        refine O_move rfl rfl rfl rfl rfl ?_
        replace hS : Sat w0 (blks [(b, .cells #[E_sc.k k0, E_sc.v v0, .pointer pl, .pointer p', .int .i64 (1 + max l.h r.h), .int .i64 (1 + l.m + r.m)] 144 (0, 0))] * (tree E_sc pl l * (tree E_sc p' t' * (blks [(rb, .cells #[E_sc.cv, x1] 127 (0, 0))] * R)))) w := hS
        refine O_call rfl rfl rfl rfl Try.call107 rfl (even_sc (by omega) hS) (fun _ _ hv => trivial) ?_
        rintro _ w ⟨p'', t'', rfl, ht'', hS⟩
        refine O_move rfl rfl rfl rfl rfl ?_
        refine O_assign rfl rfl rfl rfl rfl ?_
        refine O_assign rfl rfl rfl rfl rfl ?_
        refine R_nil ?_
        refine tn ?_
        refine F_ret ?_
        show endF _ _ _ _ _ _
        refine end0 trivial rfl rfl rfl hS ?_
        intro w hS
        refine ⟨p'', t'', ?_, ?_, hS.b2⟩
        · rw [get_gt_ e2 s3]; rfl
        · rw [ht'', ht', ins_gt_ e2 s3]
      | false =>
        have hc : cmpv O_sc k k0 = 0 := by simp [cmpv, e1, e2]
        refine enterF (args := [_, _, _, _]) Try.func97 rfl Try.ntmps97 rfl rfl ?_
        refine F_seq ?_
        refine F_region (p := ⟨_, [0, 0], []⟩) rfl [0, 1] rfl ?_
        refine O_assign rfl rfl rfl rfl rfl ?_
        refine O_assign rfl rfl rfl rfl rfl ?_
        refine R_nil ?_
        refine tn ?_
        refine F_seq ?_
        refine F_seq ?_
        refine F_region (p := ⟨_, [0, 0], []⟩) rfl [0, 1] rfl ?_
        refine O_move rfl rfl rfl rfl rfl ?_
        refine O_eqNil rfl rfl rfl rfl rfl rfl Try.runUnderlying125 ?_
        refine R_nil ?_
        refine tn ?_
        refine F_false rfl rfl ?_
        refine F_skip ?_
        refine tn ?_
        refine F_seq ?_
        refine F_region (p := ⟨_, [0], []⟩) rfl [0] rfl ?_
        refine O_assign rfl rfl rfl rfl rfl ?_
        refine R_nil ?_
        refine tn ?_
        refine F_seq ?_
        refine F_seq ?_
        refine F_drawnS hS (by kernel_rfl) (p := ⟨_, [0, 0, 0, 1, 0, 0, 0, 0, 1, 2, 0], []⟩) rfl (.ofList [0, 1, 2, 3, 4, 5, 6, 7, 8, 9, 10]) (by kernel_rfl) ?_
        intro w hS
        refine O_move rfl rfl rfl rfl rfl ?_
        refine O_nilCheck rfl rfl rfl rfl rfl ?_
        refine O_fieldAddr rfl rfl rfl rfl rfl Try.runUnderlying127 rfl Try.sizeOf92 ?_
        refine O_loadS hS rfl rfl rfl rfl rfl Try.isAgg92 (by repeat (first | exact .here rfl | apply CellAt.there)) (by trivial) ?_
        refine O_move rfl rfl rfl rfl rfl ?_
        refine O_move rfl rfl rfl rfl rfl ?_
        refine O_nilCheck rfl rfl rfl rfl rfl ?_
        refine O_fieldAddr rfl rfl rfl rfl rfl Try.runUnderlying144 rfl Try.sizeOf9 ?_
        refine O_loadS hS rfl rfl rfl rfl rfl Try.isAgg9 (by repeat (first | exact .here rfl | apply CellAt.there)) (by trivial) ?_
        refine O_callv rfl rfl rfl rfl rfl rfl (cmp_sc k k0 hS) (fun _ _ hv => trivial) ?_
        rintro _ w ⟨rfl, hS⟩
        refine O_assign rfl rfl rfl rfl rfl ?_
        refine R_nil ?_
        refine tn ?_
        refine F_block ?_
        refine F_seq ?_
        refine F_region (p := ⟨_, [0, 0, 0], []⟩) rfl [0, 1, 2] rfl ?_
        refine O_move rfl rfl rfl rfl rfl ?_
        refine O_cmp rfl rfl rfl rfl rfl rfl rfl ?_
        refine O_assign rfl rfl rfl rfl rfl ?_
        refine R_nil ?_
        refine tn ?_
        refine F_false rfl (decide_eq_false (by omega)) ?_
        refine F_seq ?_
        refine F_region (p := ⟨_, [0, 0, 0], []⟩) rfl [0, 1, 2] rfl ?_
        refine O_move rfl rfl rfl rfl rfl ?_
        refine O_cmp rfl rfl rfl rfl rfl rfl rfl ?_
        refine O_assign rfl rfl rfl rfl rfl ?_
        refine R_nil ?_
        refine tn ?_
        refine F_false rfl (decide_eq_false (by omega)) ?_
        refine F_region (p := ⟨_, [0, 0, 0, 0, 2], []⟩) rfl [0, 1, 2, 3, 4] rfl ?_
        refine O_move rfl rfl rfl rfl rfl ?_
        refine O_move rfl rfl rfl rfl rfl ?_
        refine O_nilCheck rfl rfl rfl rfl rfl ?_
        refine O_fieldAddr rfl rfl rfl rfl rfl Try.runUnderlying144 rfl Try.sizeOf91 ?_
        refine O_storeS hS rfl rfl rfl rfl rfl rfl rfl Try.sizeOf91 (by repeat (first | exact .here rfl rfl | apply SetAt.there)) (fun w' hv => trivial) ?_
        intro w hS
        refine R_nil ?_
        refine bn ?_
        refine tn ?_
        refine F_seq ?_
        refine F_region (p := ⟨_, [0, 2, 0, 0, 0], []⟩) rfl [0, 1, 2, 3, 4] rfl ?_
        refine O_move rfl rfl rfl rfl rfl ?_
        replace hS : Sat w0 (blks [(rb, .cells #[E_sc.cv, x1] 127 (0, 0)), (b, .cells #[E_sc.k k0, E_sc.v v, .pointer pl, .pointer pr, .int .i64 (1 + max l.h r.h), .int .i64 (1 + l.m + r.m)] 144 (0, 0))] * (tree E_sc pl l * (tree E_sc pr r * R))) w := hS
        replace hS : Sat w0 (blks [(b, .cells #[E_sc.k k0, E_sc.v v, .pointer pl, .pointer pr, .int .i64 (1 + max l.h r.h), .int .i64 (1 + l.m + r.m)] 144 (0, 0))] * (tree E_sc pl l * (tree E_sc pr r * (blks [(rb, .cells #[E_sc.cv, x1] 127 (0, 0))] * R)))) w := hS.to (by simp only [blks]; ac_rfl)
        refine O_call rfl rfl rfl rfl Try.call107 rfl (even_sc (by omega) hS) (fun _ _ hv => trivial) ?_
        rintro _ w ⟨p'', t'', rfl, ht'', hS⟩
        refine O_move rfl rfl rfl rfl rfl ?_
        refine O_assign rfl rfl rfl rfl rfl ?_
        refine O_assign rfl rfl rfl rfl rfl ?_
        refine R_nil ?_
        refine tn ?_
        refine F_ret ?_
        show endF _ _ _ _ _ _
        refine end0 trivial rfl rfl rfl hS ?_
        intro w hS
        refine ⟨p'', t'', ?_, ?_, hS.b2⟩
        · rw [get_eq e1 e2 s3]; rfl
        · rw [ht'', ins_eq e1 e2 s3]
theorem New_sc {w0 w : World} {R : HProp} (hS : Sat w0 R w) : Calls Try.prog 47 #[E_sc.cv] w (ret fun u w' => ∃ rb, u = .pointer (some ⟨rb, 0, none⟩) ∧ Sat w0 (rackP E_sc O_sc rb [] * R) w') := by
  replace hS := hS.noblks
  refine enterF (args := [_]) Try.func47 rfl Try.ntmps47 rfl rfl ?_
  refine F_seq ?_
  refine F_region (p := ⟨_, [0], []⟩) rfl [0] rfl ?_
  refine O_assign rfl rfl rfl rfl rfl ?_
  refine R_nil ?_
  refine tn ?_
  refine F_seq ?_
  refine F_region (p := ⟨_, [0, 0, 2, 0], []⟩) rfl [0, 1, 2, 3] rfl ?_
  refine O_move rfl rfl rfl rfl rfl ?_
  refine O_build rfl rfl rfl rfl rfl (run_buildS [_, _] Try.zeroValue127 Try.runUnderlying127 (fun _ => 1) ⟨Try.sizeOf92, Try.sizeOf125, trivial⟩ rfl) ?_
  refine O_boxS hS rfl rfl rfl rfl rfl (fun _ _ hv => trivial) ?_
  intro b1 w hS
  refine O_assign rfl rfl rfl rfl rfl ?_
  refine R_nil ?_
  refine tn ?_
  refine F_ret ?_
  show endF _ _ _ _ _ _
  refine end0 trivial rfl rfl rfl hS ?_
  intro w hS
  exact ⟨_, rfl, rackP_mk (t := .leaf) rfl (by simp [Srt]) ((tree_leaf_mk (E := E_sc) (hS.to (by simp only [blks]; ac_rfl))).b2)⟩
theorem Put_sc {w0 w : World} {R : HProp} {rb : Nat} {xs : List (ByteArray × Nat)} (k : ByteArray) (v : Nat) (hm : (xs.length : Int) ≤ 4611686018427370000) (hS : Sat w0 (rackP E_sc O_sc rb xs * R) w) :
    Calls Try.prog 75 #[.pointer (some ⟨rb, 0, none⟩), E_sc.k k, E_sc.v v] w (ret fun u w' => u = .bool (get O_sc k xs).isSome ∧ Sat w0 (rackP E_sc O_sc rb (ins O_sc k v xs) * R) w') := by
  obtain ⟨root, t, rfl, hs, hS⟩ := rackP_open hS
  have hm' : t.m ≤ 4611686018427370000 := by rw [T.m_len]; exact hm
  refine enterF (args := [_, _, _]) Try.func75 rfl Try.ntmps75 rfl rfl ?_
  refine F_seq ?_
  refine F_region (p := ⟨_, [0], []⟩) rfl [0] rfl ?_
  refine O_assign rfl rfl rfl rfl rfl ?_
  refine R_nil ?_
  refine tn ?_
  refine F_seq ?_
  refine F_region (p := ⟨_, [0, 0, 0, 0, 1, 0, 0, 2, 0, 0, 0, 0, 0], []⟩) rfl [0, 1, 2, 3, 4, 5, 6, 7, 8, 9, 10, 11, 12] rfl ?_
  refine O_move rfl rfl rfl rfl rfl ?_
  refine O_move rfl rfl rfl rfl rfl ?_
  refine O_nilCheck rfl rfl rfl rfl rfl ?_
  refine O_fieldAddr rfl rfl rfl rfl rfl Try.runUnderlying127 rfl Try.sizeOf125 ?_
  refine O_loadS hS rfl rfl rfl rfl rfl Try.isAgg125 (by repeat (first | exact .here rfl | apply CellAt.there)) (by trivial) ?_
  refine O_move rfl rfl rfl rfl rfl ?_
  refine O_move rfl rfl rfl rfl rfl ?_
  refine O_call rfl rfl rfl rfl Try.call97 rfl (put_sc t hs hm' hS) (fun _ _ hv => trivial) ?_
  rintro _ w ⟨p', t', rfl, ht', hS⟩
  refine O_move rfl rfl rfl rfl rfl ?_
  refine O_extract rfl rfl rfl rfl rfl rfl ?_
  refine O_extract rfl rfl rfl rfl rfl rfl ?_
  refine O_assign rfl rfl rfl rfl rfl ?_
  refine O_assign rfl rfl rfl rfl rfl ?_
  refine R_nil ?_
  refine tn ?_
  refine F_seq ?_
  refine F_region (p := ⟨_, [0, 0, 0, 0, 2], []⟩) rfl [0, 1, 2, 3, 4] rfl ?_
  refine O_move rfl rfl rfl rfl rfl ?_
  refine O_move rfl rfl rfl rfl rfl ?_
  refine O_nilCheck rfl rfl rfl rfl rfl ?_
  refine O_fieldAddr rfl rfl rfl rfl rfl Try.runUnderlying127 rfl Try.sizeOf125 ?_
  refine O_storeS hS rfl rfl rfl rfl rfl rfl rfl Try.sizeOf125 (by repeat (first | exact .here rfl rfl | apply SetAt.there)) (fun w' hv => trivial) ?_
  intro w hS
  refine R_nil ?_
  refine tn ?_
  refine F_seq ?_
  refine F_region (p := ⟨_, [0, 0], []⟩) rfl [0, 1] rfl ?_
  refine O_move rfl rfl rfl rfl rfl ?_
  refine O_assign rfl rfl rfl rfl rfl ?_
  refine R_nil ?_
  refine tn ?_
  refine F_ret ?_
  show endF _ _ _ _ _ _
  refine end0 trivial rfl rfl rfl hS ?_
  intro w hS
  exact ⟨rfl, rackP_mk ht' (ins_srt hs) hS⟩
theorem Len_sc {w0 w : World} {R : HProp} {rb : Nat} {xs : List (ByteArray × Nat)} (hS : Sat w0 (rackP E_sc O_sc rb xs * R) w) :
    Calls Try.prog 72 #[.pointer (some ⟨rb, 0, none⟩)] w (ret fun u w' => u = .int .i64 xs.length ∧ Sat w0 (rackP E_sc O_sc rb xs * R) w') := by
  obtain ⟨root, t, rfl, hs, hS⟩ := rackP_open hS
  refine enterF (args := [_]) Try.func72 rfl Try.ntmps72 rfl rfl ?_
  refine F_seq ?_
  refine F_region (p := ⟨_, [0], []⟩) rfl [0] rfl ?_
  refine O_assign rfl rfl rfl rfl rfl ?_
  refine R_nil ?_
  refine tn ?_
  refine F_seq ?_
  refine F_region (p := ⟨_, [0, 0, 0, 1, 2, 0], []⟩) rfl [0, 1, 2, 3, 4, 5] rfl ?_
  refine O_move rfl rfl rfl rfl rfl ?_
  refine O_nilCheck rfl rfl rfl rfl rfl ?_
  refine O_fieldAddr rfl rfl rfl rfl rfl Try.runUnderlying127 rfl Try.sizeOf125 ?_
  refine O_loadS hS rfl rfl rfl rfl rfl Try.isAgg125 (by repeat (first | exact .here rfl | apply CellAt.there)) (by trivial) ?_
  refine O_call rfl rfl rfl rfl Try.call96 rfl ((ht_sc _ _ _ hS.b2).2) (fun _ _ hv => trivial) ?_
  rintro _ w ⟨rfl, hS⟩
  replace hS := hS.b2
  refine O_assign rfl rfl rfl rfl rfl ?_
  refine R_nil ?_
  refine tn ?_
  refine F_ret ?_
  show endF _ _ _ _ _ _
  refine end0 trivial rfl rfl rfl hS ?_
  intro w hS
  exact ⟨by rw [← T.m_len]; rfl, rackP_mk rfl hs hS⟩
theorem Get_sc {w0 w : World} {R : HProp} {rb : Nat} {xs : List (ByteArray × Nat)} (k : ByteArray) (hS : Sat w0 (rackP E_sc O_sc rb xs * R) w) :
    Calls Try.prog 64 #[.pointer (some ⟨rb, 0, none⟩), E_sc.k k] w (ret fun u w' => u = getV E_sc (.pointer none) (get O_sc k xs) ∧ Sat w0 (rackP E_sc O_sc rb xs * R) w') := by
  obtain ⟨root, t0, rfl, hs, hS⟩ := rackP_open hS
  refine enterF (args := [_, _]) Try.func64 rfl Try.ntmps64 rfl rfl ?_
  refine F_seq ?_
  refine F_region (p := ⟨_, [0, 0], []⟩) rfl [0, 1] rfl ?_
  refine O_assign rfl rfl rfl rfl rfl ?_
  refine O_assign rfl rfl rfl rfl rfl ?_
  refine R_nil ?_
  refine tn ?_
  refine F_seq ?_
  refine F_seq ?_
  refine F_region (p := ⟨_, [0, 0, 0, 1, 0], []⟩) rfl [0, 1, 2, 3, 4] rfl ?_
  refine O_move rfl rfl rfl rfl rfl ?_
  refine O_nilCheck rfl rfl rfl rfl rfl ?_
  refine O_fieldAddr rfl rfl rfl rfl rfl Try.runUnderlying127 rfl Try.sizeOf125 ?_
  refine O_loadS hS rfl rfl rfl rfl rfl Try.isAgg125 (by repeat (first | exact .here rfl | apply CellAt.there)) (by trivial) ?_
  refine O_assign rfl rfl rfl rfl rfl ?_
  refine R_nil ?_
  refine tn ?_
  refine F_block ?_
  refine F_loop (α := Option Addr × T ByteArray Nat) (fun x => [(0, .pointer (some ⟨rb, 0, none⟩)), (1, E_sc.k k), (4, (.pointer none)), (5, .bool false), (6, .pointer x.1)]) (fun x w => get O_sc k x.2.toList = get O_sc k t0.toList ∧ Srt O_sc x.2.toList ∧ ∃ C : HProp, Sat w0 (blks [(rb, .cells #[E_sc.cv, .pointer root] 127 (0, 0))] * (tree E_sc x.1 x.2 * (C * R))) w ∧ ∀ R' w', Sat w0 (tree E_sc x.1 x.2 * (C * R')) w' → Sat w0 (tree E_sc root t0 * R') w') (fun x => x.2.sz) (root, t0) ⟨rfl, rfl, rfl, rfl, rfl, trivial⟩ ⟨rfl, hs, hemp, hS.to (by ac_rfl), fun R' w' h' => h'.to (by ac_rfl)⟩ ?_
  clear hS
  rintro ⟨p, t⟩ w ⟨hg, hs', C, hS, hC⟩
  cases t with
  | leaf =>
    obtain ⟨rfl, hN⟩ := tree_leaf hS.b2
    clear hS
    have hS := hN
    refine F_seq ?_
    refine F_seq ?_
    refine F_region (p := ⟨_, [0, 0], []⟩) rfl [0, 1] rfl ?_
    refine O_move rfl rfl rfl rfl rfl ?_
    refine O_neNil rfl rfl rfl rfl rfl rfl Try.runUnderlying125 ?_
    refine R_nil ?_
    refine tn ?_
    refine F_false rfl rfl ?_
    refine F_exit ?_
    refine tx ?_
    refine tx ?_
    refine Go.Sl.bx rfl ?_
    refine tn ?_
    refine F_seq ?_
    refine F_region (p := ⟨_, [0], []⟩) rfl [0] rfl ?_
    refine O_assign rfl rfl rfl rfl rfl ?_
    refine R_nil ?_
    refine tn ?_
    refine F_seq ?_
    refine F_region (p := ⟨_, [0, 0, 0], []⟩) rfl [0, 1, 2] rfl ?_
    refine O_move rfl rfl rfl rfl rfl ?_
    refine O_assign rfl rfl rfl rfl rfl ?_
    refine O_assign rfl rfl rfl rfl rfl ?_
    refine R_nil ?_
    refine tn ?_
    refine F_ret ?_
    show endF _ _ _ _ _ _
    refine end0 trivial rfl rfl rfl hS ?_
    intro w hS
    refine ⟨by rw [← hg]; rfl, ?_⟩
    exact rackP_mk rfl hs ((hC _ _ ((tree_leaf_mk (E := E_sc) (hS.to (A := _) (by ac_rfl)) : Sat w0 (tree E_sc none .leaf * (C * (blks [(rb, .cells #[E_sc.cv, .pointer root] 127 (0, 0))] * R))) w))).b2)
  | node l k0 v0 r =>
    obtain ⟨b, pl, pr, rfl, hN⟩ := tree_node hS.b2
    clear hS
    simp only [T.toList] at hg hs'
    obtain ⟨s1, s2, s3, s4⟩ := srt_left hs'
    have hS : Sat w0 (blks [(rb, .cells #[E_sc.cv, .pointer root] 127 (0, 0)), (b, .cells #[E_sc.k k0, E_sc.v v0, .pointer pl, .pointer pr, .int .i64 (1 + max l.h r.h), .int .i64 (1 + l.m + r.m)] 144 (0, 0))] * (tree E_sc pl l * (tree E_sc pr r * (C * R)))) w := hN.to (by simp only [blks]; ac_rfl)
    clear hN
    cases e1 : O_sc.lt k k0 with
    | true =>
      have hc : cmpv O_sc k k0 = -1 := by simp [cmpv, e1]
      refine F_seq ?_
      refine F_seq ?_
      refine F_region (p := ⟨_, [0, 0], []⟩) rfl [0, 1] rfl ?_
      refine O_move rfl rfl rfl rfl rfl ?_
      refine O_neNil rfl rfl rfl rfl rfl rfl Try.runUnderlying125 ?_
      refine R_nil ?_
      refine tn ?_
      refine F_true rfl rfl ?_
      refine F_skip ?_
      refine tn ?_
      refine F_block ?_
      refine F_seq ?_
      refine F_drawnS hS (by kernel_rfl) (p := ⟨_, [0, 0, 0, 1, 0, 0, 0, 0, 1, 2, 0], []⟩) rfl (.ofList [0, 1, 2, 3, 4, 5, 6, 7, 8, 9, 10]) (by kernel_rfl) ?_
      intro w hS
      refine O_move rfl rfl rfl rfl rfl ?_
      refine O_nilCheck rfl rfl rfl rfl rfl ?_
      refine O_fieldAddr rfl rfl rfl rfl rfl Try.runUnderlying127 rfl Try.sizeOf92 ?_
      refine O_loadS hS rfl rfl rfl rfl rfl Try.isAgg92 (by repeat (first | exact .here rfl | apply CellAt.there)) (by trivial) ?_
      refine O_move rfl rfl rfl rfl rfl ?_
      refine O_move rfl rfl rfl rfl rfl ?_
      refine O_nilCheck rfl rfl rfl rfl rfl ?_
      refine O_fieldAddr rfl rfl rfl rfl rfl Try.runUnderlying144 rfl Try.sizeOf9 ?_
      refine O_loadS hS rfl rfl rfl rfl rfl Try.isAgg9 (by repeat (first | exact .here rfl | apply CellAt.there)) (by trivial) ?_
      refine O_callv rfl rfl rfl rfl rfl rfl (cmp_sc k k0 hS) (fun _ _ hv => trivial) ?_
      rintro _ w ⟨rfl, hS⟩
      refine O_assign rfl rfl rfl rfl rfl ?_
      refine R_nil ?_
      refine tn ?_
      refine F_seq ?_
      refine F_seq ?_
      refine F_region (p := ⟨_, [0, 0], []⟩) rfl [0, 1] rfl ?_
      refine O_move rfl rfl rfl rfl rfl ?_
      refine O_cmp rfl rfl rfl rfl rfl rfl rfl ?_
      refine R_nil ?_
      refine tn ?_
      refine F_false rfl (decide_eq_false (by omega)) ?_
      refine F_skip ?_
      refine tn ?_
      refine F_seq ?_
      refine F_region (p := ⟨_, [0, 0], []⟩) rfl [0, 1] rfl ?_
      refine O_move rfl rfl rfl rfl rfl ?_
      refine O_cmp rfl rfl rfl rfl rfl rfl rfl ?_
      refine R_nil ?_
      refine tn ?_
      refine F_true rfl (decide_eq_true (by omega)) ?_
      refine F_region (p := ⟨_, [0, 0, 0, 1, 0], []⟩) rfl [0, 1, 2, 3, 4] rfl ?_
      refine O_move rfl rfl rfl rfl rfl ?_
      refine O_nilCheck rfl rfl rfl rfl rfl ?_
      refine O_fieldAddr rfl rfl rfl rfl rfl Try.runUnderlying144 rfl Try.sizeOf125 ?_
      refine O_loadS hS rfl rfl rfl rfl rfl Try.isAgg125 (by repeat (first | exact .here rfl | apply CellAt.there)) (by trivial) ?_
      refine O_assign rfl rfl rfl rfl rfl ?_
      refine R_nil ?_
      refine bn ?_
      refine tn ⟨rfl, rfl, (pl, l), ⟨rfl, rfl, rfl, rfl, rfl, trivial⟩, ⟨?_, s1, (blks [(b, .cells #[E_sc.k k0, E_sc.v v0, .pointer pl, .pointer pr, .int .i64 (1 + max l.h r.h), .int .i64 (1 + l.m + r.m)] 144 (0, 0))] * tree E_sc pr r) * C, ?_, ?_⟩, ?_⟩
      · rw [← hg, get_lt e1]
      · exact hS.to (by simp only [blks]; ac_rfl)
      · intro R' w' h'; dsimp only at h'
        have h2 : Sat w0 (blks [(b, .cells #[E_sc.k k0, E_sc.v v0, .pointer pl, .pointer pr, .int .i64 (1 + max l.h r.h), .int .i64 (1 + l.m + r.m)] 144 (0, 0))] * (tree E_sc pl l * (tree E_sc pr r * (C * R')))) w' := h'.to (by ac_rfl)
        exact hC R' w' (tree_node_mk rfl rfl h2)
      · simp only [T.sz]; omega
    | false =>
      cases e2 : O_sc.lt k0 k with
      | true =>
        have hc : cmpv O_sc k k0 = 1 := by simp [cmpv, e1, e2]
        refine F_seq ?_
        refine F_seq ?_
        refine F_region (p := ⟨_, [0, 0], []⟩) rfl [0, 1] rfl ?_
        refine O_move rfl rfl rfl rfl rfl ?_
        refine O_neNil rfl rfl rfl rfl rfl rfl Try.runUnderlying125 ?_
        refine R_nil ?_
        refine tn ?_
        refine F_true rfl rfl ?_
        refine F_skip ?_
        refine tn ?_
        refine F_block ?_
        refine F_seq ?_
        refine F_drawnS hS (by kernel_rfl) (p := ⟨_, [0, 0, 0, 1, 0, 0, 0, 0, 1, 2, 0], []⟩) rfl (.ofList [0, 1, 2, 3, 4, 5, 6, 7, 8, 9, 10]) (by kernel_rfl) ?_
        intro w hS
        refine O_move rfl rfl rfl rfl rfl ?_
        refine O_nilCheck rfl rfl rfl rfl rfl ?_
        refine O_fieldAddr rfl rfl rfl rfl rfl Try.runUnderlying127 rfl Try.sizeOf92 ?_
        refine O_loadS hS rfl rfl rfl rfl rfl Try.isAgg92 (by repeat (first | exact .here rfl | apply CellAt.there)) (by trivial) ?_
        refine O_move rfl rfl rfl rfl rfl ?_
        refine O_move rfl rfl rfl rfl rfl ?_
        refine O_nilCheck rfl rfl rfl rfl rfl ?_
        refine O_fieldAddr rfl rfl rfl rfl rfl Try.runUnderlying144 rfl Try.sizeOf9 ?_
        refine O_loadS hS rfl rfl rfl rfl rfl Try.isAgg9 (by repeat (first | exact .here rfl | apply CellAt.there)) (by trivial) ?_
        refine O_callv rfl rfl rfl rfl rfl rfl (cmp_sc k k0 hS) (fun _ _ hv => trivial) ?_
        rintro _ w ⟨rfl, hS⟩
        refine O_assign rfl rfl rfl rfl rfl ?_
        refine R_nil ?_
        refine tn ?_
        refine F_seq ?_
        refine F_seq ?_
        refine F_region (p := ⟨_, [0, 0], []⟩) rfl [0, 1] rfl ?_
        refine O_move rfl rfl rfl rfl rfl ?_
        refine O_cmp rfl rfl rfl rfl rfl rfl rfl ?_
        refine R_nil ?_
        refine tn ?_
        refine F_false rfl (decide_eq_false (by omega)) ?_
        refine F_skip ?_
        refine tn ?_
        refine F_seq ?_
        refine F_region (p := ⟨_, [0, 0], []⟩) rfl [0, 1] rfl ?_
        refine O_move rfl rfl rfl rfl rfl ?_
        refine O_cmp rfl rfl rfl rfl rfl rfl rfl ?_
        refine R_nil ?_
        refine tn ?_
        refine F_false rfl (decide_eq_false (by omega)) ?_
        refine F_region (p := ⟨_, [0, 0, 0, 1, 0], []⟩) rfl [0, 1, 2, 3, 4] rfl ?_
        refine O_move rfl rfl rfl rfl rfl ?_
        refine O_nilCheck rfl rfl rfl rfl rfl ?_
        refine O_fieldAddr rfl rfl rfl rfl rfl Try.runUnderlying144 rfl Try.sizeOf125 ?_
        refine O_loadS hS rfl rfl rfl rfl rfl Try.isAgg125 (by repeat (first | exact .here rfl | apply CellAt.there)) (by trivial) ?_
        refine O_assign rfl rfl rfl rfl rfl ?_
        refine R_nil ?_
        refine bn ?_
        refine tn ⟨rfl, rfl, (pr, r), ⟨rfl, rfl, rfl, rfl, rfl, trivial⟩, ⟨?_, s2, (blks [(b, .cells #[E_sc.k k0, E_sc.v v0, .pointer pl, .pointer pr, .int .i64 (1 + max l.h r.h), .int .i64 (1 + l.m + r.m)] 144 (0, 0))] * tree E_sc pl l) * C, ?_, ?_⟩, ?_⟩
        · rw [← hg, get_gt_ e2 s3]
        · exact hS.to (by simp only [blks]; ac_rfl)
        · intro R' w' h'; dsimp only at h'
          have h2 : Sat w0 (blks [(b, .cells #[E_sc.k k0, E_sc.v v0, .pointer pl, .pointer pr, .int .i64 (1 + max l.h r.h), .int .i64 (1 + l.m + r.m)] 144 (0, 0))] * (tree E_sc pl l * (tree E_sc pr r * (C * R')))) w' := h'.to (by ac_rfl)
          exact hC R' w' (tree_node_mk rfl rfl h2)
        · simp only [T.sz]; omega
      | false =>
        have hc : cmpv O_sc k k0 = 0 := by simp [cmpv, e1, e2]
        refine F_seq ?_
        refine F_seq ?_
        refine F_region (p := ⟨_, [0, 0], []⟩) rfl [0, 1] rfl ?_
        refine O_move rfl rfl rfl rfl rfl ?_
        refine O_neNil rfl rfl rfl rfl rfl rfl Try.runUnderlying125 ?_
        refine R_nil ?_
        refine tn ?_
        refine F_true rfl rfl ?_
        refine F_skip ?_
        refine tn ?_
        refine F_block ?_
        refine F_seq ?_
        refine F_drawnS hS (by kernel_rfl) (p := ⟨_, [0, 0, 0, 1, 0, 0, 0, 0, 1, 2, 0], []⟩) rfl (.ofList [0, 1, 2, 3, 4, 5, 6, 7, 8, 9, 10]) (by kernel_rfl) ?_
        intro w hS
        refine O_move rfl rfl rfl rfl rfl ?_
        refine O_nilCheck rfl rfl rfl rfl rfl ?_
        refine O_fieldAddr rfl rfl rfl rfl rfl Try.runUnderlying127 rfl Try.sizeOf92 ?_
        refine O_loadS hS rfl rfl rfl rfl rfl Try.isAgg92 (by repeat (first | exact .here rfl | apply CellAt.there)) (by trivial) ?_
        refine O_move rfl rfl rfl rfl rfl ?_
        refine O_move rfl rfl rfl rfl rfl ?_
        refine O_nilCheck rfl rfl rfl rfl rfl ?_
        refine O_fieldAddr rfl rfl rfl rfl rfl Try.runUnderlying144 rfl Try.sizeOf9 ?_
        refine O_loadS hS rfl rfl rfl rfl rfl Try.isAgg9 (by repeat (first | exact .here rfl | apply CellAt.there)) (by trivial) ?_
        refine O_callv rfl rfl rfl rfl rfl rfl (cmp_sc k k0 hS) (fun _ _ hv => trivial) ?_
        rintro _ w ⟨rfl, hS⟩
        refine O_assign rfl rfl rfl rfl rfl ?_
        refine R_nil ?_
        refine tn ?_
        refine F_seq ?_
        refine F_seq ?_
        refine F_region (p := ⟨_, [0, 0], []⟩) rfl [0, 1] rfl ?_
        refine O_move rfl rfl rfl rfl rfl ?_
        refine O_cmp rfl rfl rfl rfl rfl rfl rfl ?_
        refine R_nil ?_
        refine tn ?_
        refine F_true rfl (decide_eq_true (by omega)) ?_
        refine F_seq ?_
        refine F_region (p := ⟨_, [0, 0, 0, 1, 0, 0], []⟩) rfl [0, 1, 2, 3, 4, 5] rfl ?_
        refine O_move rfl rfl rfl rfl rfl ?_
        refine O_nilCheck rfl rfl rfl rfl rfl ?_
        refine O_fieldAddr rfl rfl rfl rfl rfl Try.runUnderlying144 rfl Try.sizeOf91 ?_
        refine O_loadS hS rfl rfl rfl rfl rfl Try.isAgg91 (by repeat (first | exact .here rfl | apply CellAt.there)) (by trivial) ?_
        refine O_assign rfl rfl rfl rfl rfl ?_
        refine O_assign rfl rfl rfl rfl rfl ?_
        refine R_nil ?_
        refine tn ?_
        refine F_ret ?_
        refine tr ?_
        refine br ?_
        refine tr ?_
        refine br ?_
        refine tr ?_
        show endF _ _ _ _ _ _
        refine end0 trivial rfl rfl rfl hS ?_
        intro w hS
        refine ⟨by rw [← hg, get_eq e1 e2 s3]; rfl, ?_⟩
        have hq : Sat w0 (blks [(b, .cells #[E_sc.k k0, E_sc.v v0, .pointer pl, .pointer pr, .int .i64 (1 + max l.h r.h), .int .i64 (1 + l.m + r.m)] 144 (0, 0))] * (tree E_sc pl l * (tree E_sc pr r * (C * (blks [(rb, .cells #[E_sc.cv, .pointer root] 127 (0, 0))] * R))))) w := hS.to (by simp only [blks]; ac_rfl)
        exact rackP_mk rfl hs (hC _ _ (tree_node_mk rfl rfl hq)).b2
theorem ahead_sc {w0 w : World} {B : HProp} (k : ByteArray) (hS : Sat w0 B w) : FV Try.prog (.func (.func 81) #[] #[]) [E_sc.k k].toArray w (fun v w' => v = .bool false ∧ Sat w0 B w') := by
  refine FV.of_calls Try.call81 ?_
  show Calls Try.prog 81 (#[] ++ [E_sc.k k].toArray ++ #[]) w _
  rw [Array.empty_append, Array.append_empty]
  refine enterF (args := [_]) Try.func81 rfl Try.ntmps81 rfl rfl ?_
  refine F_seq ?_
  refine F_region (p := ⟨_, [0], []⟩) rfl [0] rfl ?_
  refine O_assign rfl rfl rfl rfl rfl ?_
  refine R_nil ?_
  refine tn ?_
  refine F_seq ?_
  refine F_region (p := ⟨_, [0], []⟩) rfl [0] rfl ?_
  refine O_assign rfl rfl rfl rfl rfl ?_
  refine R_nil ?_
  refine tn ?_
  refine F_ret ?_
  show endF _ _ _ _ _ _
  refine end0 trivial rfl rfl rfl hS ?_
  intro w hS
  exact ⟨rfl, hS⟩
theorem up_sc {w0 : World} {y : Value} {J Jx : List (ByteArray × Nat) → HProp} {xs : List (ByteArray × Nat)}
    (hy : ∀ pre x post R w, xs = pre ++ x :: post → Sat w0 (J pre * R) w → FV Try.prog y [E_sc.k x.1, E_sc.v x.2].toArray w (fun r w' => (r = .bool true ∧ Sat w0 (J (pre ++ [x]) * R) w') ∨ (r = .bool false ∧ Sat w0 (Jx (pre ++ [x]) * R) w')))
    (t : T ByteArray Nat) : ∀ {w : World} {R : HProp} {p : Option Addr} {pre post : List (ByteArray × Nat)} (hx : xs = pre ++ (t.toList ++ post)) (hS : Sat w0 (tree E_sc p t * (J pre * R)) w),
    Calls Try.prog 80 #[.pointer p, .func (.func 81) #[] #[], y] w (ret fun u w' => (u = .bool true ∧ Sat w0 (tree E_sc p t * (J (pre ++ t.toList) * R)) w') ∨ (u = .bool false ∧ ∃ q, q <+: t.toList ∧ Sat w0 (tree E_sc p t * (Jx (pre ++ q) * R)) w')) := by
  induction t with
  | leaf =>
    intro w R p pre post hx hS
    obtain ⟨rfl, hN⟩ := tree_leaf hS
    clear hS
    have hS := hN
    refine enterF (args := [_, _, _]) Try.func80 rfl Try.ntmps80 rfl rfl ?_
    refine F_seq ?_
    refine F_region (p := ⟨_, [0], []⟩) rfl [0] rfl ?_
    refine O_assign rfl rfl rfl rfl rfl ?_
    refine R_nil ?_
    refine tn ?_
    refine F_seq ?_
    refine F_seq ?_
    refine F_region (p := ⟨_, [0, 0], []⟩) rfl [0, 1] rfl ?_
    refine O_move rfl rfl rfl rfl rfl ?_
    refine O_eqNil rfl rfl rfl rfl rfl rfl Try.runUnderlying125 ?_
    refine R_nil ?_
    refine tn ?_
    refine F_true rfl rfl ?_
    refine F_seq ?_
    refine F_region (p := ⟨_, [0], []⟩) rfl [0] rfl ?_
    refine O_assign rfl rfl rfl rfl rfl ?_
    refine R_nil ?_
    refine tn ?_
    refine F_ret ?_
    refine tr ?_
    show endF _ _ _ _ _ _
    refine end0 trivial rfl rfl rfl hS ?_
    intro w hS
    exact .inl ⟨rfl, tree_leaf_mk (by simpa [T.toList] using hS)⟩
  | node l k v r ihl ihr =>
    intro w R p pre post hx hS
    obtain ⟨b, pl, pr, rfl, hN⟩ := tree_node hS
    clear hS
    simp only [T.toList, List.append_assoc, List.cons_append] at hx ⊢
    have hS : Sat w0 (blks [(b, .cells #[E_sc.k k, E_sc.v v, .pointer pl, .pointer pr, .int .i64 (1 + max l.h r.h), .int .i64 (1 + l.m + r.m)] 144 (0, 0))] * (tree E_sc pl l * (tree E_sc pr r * (J pre * R)))) w := hN
    clear hN
    refine enterF (args := [_, _, _]) Try.func80 rfl Try.ntmps80 rfl rfl ?_
    refine F_seq ?_
    refine F_region (p := ⟨_, [0], []⟩) rfl [0] rfl ?_
    refine O_assign rfl rfl rfl rfl rfl ?_
    refine R_nil ?_
    refine tn ?_
    refine F_seq ?_
    refine F_seq ?_
    refine F_region (p := ⟨_, [0, 0], []⟩) rfl [0, 1] rfl ?_
    refine O_move rfl rfl rfl rfl rfl ?_
    refine O_eqNil rfl rfl rfl rfl rfl rfl Try.runUnderlying125 ?_
    refine R_nil ?_
    refine tn ?_
    refine F_false rfl rfl ?_
    refine F_skip ?_
    refine tn ?_
    refine F_seq ?_
    refine F_seq ?_
    refine F_region (p := ⟨_, [0, 0, 0, 0, 1, 2], []⟩) rfl [0, 1, 2, 3, 4, 5] rfl ?_
    refine O_move rfl rfl rfl rfl rfl ?_
    refine O_move rfl rfl rfl rfl rfl ?_
    refine O_nilCheck rfl rfl rfl rfl rfl ?_
    refine O_fieldAddr rfl rfl rfl rfl rfl Try.runUnderlying144 rfl Try.sizeOf9 ?_
    refine O_loadS hS rfl rfl rfl rfl rfl Try.isAgg9 (by repeat (first | exact .here rfl | apply CellAt.there)) (by trivial) ?_
    refine O_callv rfl rfl rfl rfl rfl rfl (ahead_sc k hS) (fun _ _ hv => trivial) ?_
    rintro _ w ⟨rfl, hS⟩
    refine R_nil ?_
    refine tn ?_
    refine F_false rfl rfl ?_
    refine F_skip ?_
    refine tn ?_
    refine F_seq ?_
    refine F_drawnS hS (by kernel_rfl) (p := ⟨_, [0, 0, 0, 1, 0, 0, 2, 0, 0, 0, 0, 0, 1, 0, 0, 0, 1, 2, 0, 0, 0, 0, 0, 1, 0, 0, 2, 0, 0], []⟩) rfl (.ofList [0, 1, 2, 3, 4, 5, 6, 7, 8, 9, 10, 11, 12, 13, 14, 15, 16, 17, 18, 19, 20, 21, 22, 23, 24, 25, 26, 27, 28]) (by kernel_rfl) ?_
    intro w hS
    refine O_move rfl rfl rfl rfl rfl ?_
    refine O_nilCheck rfl rfl rfl rfl rfl ?_
    refine O_fieldAddr rfl rfl rfl rfl rfl Try.runUnderlying144 rfl Try.sizeOf125 ?_
    refine O_loadS hS rfl rfl rfl rfl rfl Try.isAgg125 (by repeat (first | exact .here rfl | apply CellAt.there)) (by trivial) ?_
    refine O_move rfl rfl rfl rfl rfl ?_
    refine O_move rfl rfl rfl rfl rfl ?_
    have hQ : Sat w0 (tree E_sc pl l * (J pre * (blks [(b, .cells #[E_sc.k k, E_sc.v v, .pointer pl, .pointer pr, .int .i64 (1 + max l.h r.h), .int .i64 (1 + l.m + r.m)] 144 (0, 0))] * (tree E_sc pr r * R)))) w := hS.to (by simp only [blks]; ac_rfl)
    refine O_call rfl rfl rfl rfl Try.call80 rfl (ihl (post := (k, v) :: (r.toList ++ post)) hx hQ) (fun _ _ hv => trivial) ?_
    rintro _ w (⟨rfl, hS⟩ | ⟨rfl, q, hq, hS⟩)
    · replace hS : Sat w0 (blks [(b, .cells #[E_sc.k k, E_sc.v v, .pointer pl, .pointer pr, .int .i64 (1 + max l.h r.h), .int .i64 (1 + l.m + r.m)] 144 (0, 0))] * (tree E_sc pl l * (tree E_sc pr r * (J (pre ++ l.toList) * R)))) w := hS.to (by simp only [blks]; ac_rfl)
      refine O_move rfl rfl rfl rfl rfl ?_
      refine O_move rfl rfl rfl rfl rfl ?_
      refine O_move rfl rfl rfl rfl rfl ?_
      refine O_nilCheck rfl rfl rfl rfl rfl ?_
      refine O_fieldAddr rfl rfl rfl rfl rfl Try.runUnderlying144 rfl Try.sizeOf9 ?_
      refine O_loadS hS rfl rfl rfl rfl rfl Try.isAgg9 (by repeat (first | exact .here rfl | apply CellAt.there)) (by trivial) ?_
      refine O_move rfl rfl rfl rfl rfl ?_
      refine O_nilCheck rfl rfl rfl rfl rfl ?_
      refine O_fieldAddr rfl rfl rfl rfl rfl Try.runUnderlying144 rfl Try.sizeOf91 ?_
      refine O_loadS hS rfl rfl rfl rfl rfl Try.isAgg91 (by repeat (first | exact .here rfl | apply CellAt.there)) (by trivial) ?_
      have hQ : Sat w0 (J (pre ++ l.toList) * (blks [(b, .cells #[E_sc.k k, E_sc.v v, .pointer pl, .pointer pr, .int .i64 (1 + max l.h r.h), .int .i64 (1 + l.m + r.m)] 144 (0, 0))] * (tree E_sc pl l * (tree E_sc pr r * R)))) w := hS.to (by simp only [blks]; ac_rfl)
      refine O_callv rfl rfl rfl rfl rfl rfl (hy (pre ++ l.toList) (k, v) (r.toList ++ post) _ _ (by simpa using hx) hQ) (fun _ _ hv => trivial) ?_
      rintro _ w (⟨rfl, hS⟩ | ⟨rfl, hS⟩)
      · replace hS : Sat w0 (blks [(b, .cells #[E_sc.k k, E_sc.v v, .pointer pl, .pointer pr, .int .i64 (1 + max l.h r.h), .int .i64 (1 + l.m + r.m)] 144 (0, 0))] * (tree E_sc pl l * (tree E_sc pr r * (J (pre ++ l.toList ++ [(k, v)]) * R)))) w := hS.to (by simp only [blks]; ac_rfl)
        refine O_pickT rfl rfl rfl rfl rfl rfl ?_
        refine O_move rfl rfl rfl rfl rfl ?_
        refine O_move rfl rfl rfl rfl rfl ?_
        refine O_nilCheck rfl rfl rfl rfl rfl ?_
        refine O_fieldAddr rfl rfl rfl rfl rfl Try.runUnderlying144 rfl Try.sizeOf125 ?_
        refine O_loadS hS rfl rfl rfl rfl rfl Try.isAgg125 (by repeat (first | exact .here rfl | apply CellAt.there)) (by trivial) ?_
        refine O_move rfl rfl rfl rfl rfl ?_
        refine O_move rfl rfl rfl rfl rfl ?_
        have hQ : Sat w0 (tree E_sc pr r * (J (pre ++ l.toList ++ [(k, v)]) * (blks [(b, .cells #[E_sc.k k, E_sc.v v, .pointer pl, .pointer pr, .int .i64 (1 + max l.h r.h), .int .i64 (1 + l.m + r.m)] 144 (0, 0))] * (tree E_sc pl l * R)))) w := hS.to (by simp only [blks]; ac_rfl)
        refine O_call rfl rfl rfl rfl Try.call80 rfl (ihr (post := post) (by simpa using hx) hQ) (fun _ _ hv => trivial) ?_
        rintro _ w (⟨rfl, hS⟩ | ⟨rfl, q, hq, hS⟩)
        · replace hS : Sat w0 (blks [(b, .cells #[E_sc.k k, E_sc.v v, .pointer pl, .pointer pr, .int .i64 (1 + max l.h r.h), .int .i64 (1 + l.m + r.m)] 144 (0, 0))] * (tree E_sc pl l * (tree E_sc pr r * (J (pre ++ l.toList ++ [(k, v)] ++ r.toList) * R)))) w := hS.to (by simp only [blks]; ac_rfl)
          refine O_pickT rfl rfl rfl rfl rfl rfl ?_
          refine O_assign rfl rfl rfl rfl rfl ?_
          refine R_nil ?_
          refine tn ?_
          refine F_ret ?_
          show endF _ _ _ _ _ _
          refine end0 trivial rfl rfl rfl hS ?_
          intro w hS
          exact .inl ⟨rfl, tree_node_mk rfl rfl (by simpa [List.append_assoc] using hS)⟩
        · replace hS : Sat w0 (blks [(b, .cells #[E_sc.k k, E_sc.v v, .pointer pl, .pointer pr, .int .i64 (1 + max l.h r.h), .int .i64 (1 + l.m + r.m)] 144 (0, 0))] * (tree E_sc pl l * (tree E_sc pr r * (Jx (pre ++ l.toList ++ [(k, v)] ++ q) * R)))) w := hS.to (by simp only [blks]; ac_rfl)
          refine O_pickT rfl rfl rfl rfl rfl rfl ?_
          refine O_assign rfl rfl rfl rfl rfl ?_
          refine R_nil ?_
          refine tn ?_
          refine F_ret ?_
          show endF _ _ _ _ _ _
          refine end0 trivial rfl rfl rfl hS ?_
          intro w hS
          obtain ⟨z, hz⟩ := hq
          exact .inr ⟨rfl, l.toList ++ (k, v) :: q, ⟨z, by simp [← hz]⟩, tree_node_mk rfl rfl (by simpa [List.append_assoc] using hS)⟩
      · replace hS : Sat w0 (blks [(b, .cells #[E_sc.k k, E_sc.v v, .pointer pl, .pointer pr, .int .i64 (1 + max l.h r.h), .int .i64 (1 + l.m + r.m)] 144 (0, 0))] * (tree E_sc pl l * (tree E_sc pr r * (Jx (pre ++ l.toList ++ [(k, v)]) * R)))) w := hS.to (by simp only [blks]; ac_rfl)
        refine O_pickT rfl rfl rfl rfl rfl rfl ?_
        refine O_move rfl rfl rfl rfl rfl ?_
        refine R_skip rfl rfl rfl rfl ?_
        refine R_skip rfl rfl rfl rfl ?_
        refine R_skip rfl rfl rfl rfl ?_
        refine R_skip rfl rfl rfl rfl ?_
        refine R_skip rfl rfl rfl rfl ?_
        refine R_skip rfl rfl rfl rfl ?_
        refine R_skip rfl rfl rfl rfl ?_
        refine O_pickF rfl rfl rfl rfl rfl rfl ?_
        refine O_assign rfl rfl rfl rfl rfl ?_
        refine R_nil ?_
        refine tn ?_
        refine F_ret ?_
        show endF _ _ _ _ _ _
        refine end0 trivial rfl rfl rfl hS ?_
        intro w hS
        exact .inr ⟨rfl, l.toList ++ [(k, v)], ⟨r.toList, by simp⟩, tree_node_mk rfl rfl (by simpa [List.append_assoc] using hS)⟩
    · replace hS : Sat w0 (blks [(b, .cells #[E_sc.k k, E_sc.v v, .pointer pl, .pointer pr, .int .i64 (1 + max l.h r.h), .int .i64 (1 + l.m + r.m)] 144 (0, 0))] * (tree E_sc pl l * (tree E_sc pr r * (Jx (pre ++ q) * R)))) w := hS.to (by simp only [blks]; ac_rfl)
      refine O_move rfl rfl rfl rfl rfl ?_
      refine R_skip rfl rfl rfl rfl ?_
      refine R_skip rfl rfl rfl rfl ?_
      refine R_skip rfl rfl rfl rfl ?_
      refine R_skip rfl rfl rfl rfl ?_
      refine R_skip rfl rfl rfl rfl ?_
      refine R_skip rfl rfl rfl rfl ?_
      refine R_skip rfl rfl rfl rfl ?_
      refine R_skip rfl rfl rfl rfl ?_
      refine R_skip rfl rfl rfl rfl ?_
      refine R_skip rfl rfl rfl rfl ?_
      refine O_pickF rfl rfl rfl rfl rfl rfl ?_
      refine O_move rfl rfl rfl rfl rfl ?_
      refine R_skip rfl rfl rfl rfl ?_
      refine R_skip rfl rfl rfl rfl ?_
      refine R_skip rfl rfl rfl rfl ?_
      refine R_skip rfl rfl rfl rfl ?_
      refine R_skip rfl rfl rfl rfl ?_
      refine R_skip rfl rfl rfl rfl ?_
      refine R_skip rfl rfl rfl rfl ?_
      refine O_pickF rfl rfl rfl rfl rfl rfl ?_
      refine O_assign rfl rfl rfl rfl rfl ?_
      refine R_nil ?_
      refine tn ?_
      refine F_ret ?_
      show endF _ _ _ _ _ _
      refine end0 trivial rfl rfl rfl hS ?_
      intro w hS
      exact .inr ⟨rfl, q, hq.trans (by simp), tree_node_mk rfl rfl hS⟩
theorem all_sc_iter {rb bx : Nat} {xs : List (ByteArray × Nat)} : Iter Try.prog (.func (.func 79) #[] #[.pointer (some ⟨bx, 0, none⟩)]) (pt bx (.cells #[.pointer (some ⟨rb, 0, none⟩)] 89) * rackP E_sc O_sc rb xs) (fun x => [E_sc.k x.1, E_sc.v x.2].toArray) xs := by
  intro w0 y J Jx hyf hy R w hS
  obtain ⟨yn, ya, yc, rfl⟩ := hyf
  refine FV.of_list (args := [.func yn ya yc]) (cap := [.pointer (some ⟨bx, 0, none⟩)]) Try.call79 ?_
  replace hS : Sat w0 (rackP E_sc O_sc rb xs * (blks [(bx, .cells #[.pointer (some ⟨rb, 0, none⟩)] 89 (0, 0))] * (J [] * R))) w := hS.to (by simp only [blks]; ac_rfl)
  obtain ⟨root, t, rfl, hs, hS⟩ := rackP_open hS
  replace hS : Sat w0 (blks [(rb, .cells #[E_sc.cv, .pointer root] 127 (0, 0)), (bx, .cells #[.pointer (some ⟨rb, 0, none⟩)] 89 (0, 0))] * (tree E_sc root t * (J [] * R))) w := hS.to (by simp only [blks]; ac_rfl)
  refine enterF (args := [_, _]) Try.func79 rfl Try.ntmps79 rfl rfl ?_
  refine F_region (p := ⟨_, [1, 0, 0, 1, 0, 2], []⟩) rfl [0, 1, 2, 3, 4, 5] rfl ?_
  refine O_loadS hS rfl rfl rfl rfl rfl Try.isAgg89 (by repeat (first | exact .here rfl | apply CellAt.there)) (by trivial) ?_
  refine O_nilCheck rfl rfl rfl rfl rfl ?_
  refine O_fieldAddr rfl rfl rfl rfl rfl Try.runUnderlying127 rfl Try.sizeOf125 ?_
  refine O_loadS hS rfl rfl rfl rfl rfl Try.isAgg125 (by repeat (first | exact .here rfl | apply CellAt.there)) (by trivial) ?_
  refine O_move rfl rfl rfl rfl rfl ?_
  have hQ : Sat w0 (tree E_sc root t * (J [] * (blks [(rb, .cells #[E_sc.cv, .pointer root] 127 (0, 0)), (bx, .cells #[.pointer (some ⟨rb, 0, none⟩)] 89 (0, 0))] * R))) w := hS.to (by simp only [blks]; ac_rfl)
  refine O_call rfl rfl rfl rfl Try.call80 rfl (up_sc (xs := t.toList) hy t (post := []) (by simp) hQ) (fun _ _ hv => trivial) ?_
  rintro _ w hS
  refine R_nil ?_
  rcases hS with ⟨rfl, hS⟩ | ⟨rfl, q, hq, hS⟩
  ·
    show endF _ _ _ _ _ _
    refine end0 trivial rfl rfl rfl hS ?_
    intro w hS
    replace hS : Sat w0 (blks [(rb, .cells #[E_sc.cv, .pointer root] 127 (0, 0))] * (tree E_sc root t * (blks [(bx, .cells #[.pointer (some ⟨rb, 0, none⟩)] 89 (0, 0))] * (J t.toList * R)))) w := hS.to (by simp only [blks, List.nil_append]; ac_rfl)
    exact .inl ((rackP_mk rfl hs hS).to (by simp only [blks]; ac_rfl))
  ·
    show endF _ _ _ _ _ _
    refine end0 trivial rfl rfl rfl hS ?_
    intro w hS
    replace hS : Sat w0 (blks [(rb, .cells #[E_sc.cv, .pointer root] 127 (0, 0))] * (tree E_sc root t * (blks [(bx, .cells #[.pointer (some ⟨rb, 0, none⟩)] 89 (0, 0))] * (Jx q * R)))) w := hS.to (by simp only [blks, List.nil_append]; ac_rfl)
    exact .inr ⟨q, hq, ((rackP_mk rfl hs hS).to (by simp only [blks]; ac_rfl))⟩
theorem All_sc {w0 w : World} {R : HProp} {a : Value} (ha : ∃ rb, a = .pointer (some ⟨rb, 0, none⟩)) (hS : Sat w0 R w) : Calls Try.prog 59 #[a] w (ret fun u w' => ∃ bx, u = .func (.func 79) #[] #[.pointer (some ⟨bx, 0, none⟩)] ∧ Sat w0 (pt bx (.cells #[a] 89) * R) w') := by
  obtain ⟨rb, rfl⟩ := ha
  replace hS := hS.noblks
  refine enterF (args := [_]) Try.func59 rfl Try.ntmps59 rfl rfl ?_
  refine F_seq ?_
  refine F_region (p := ⟨_, [2, 0], []⟩) rfl [0, 1] rfl ?_
  refine O_boxS hS rfl rfl rfl rfl rfl (fun _ _ hv => trivial) ?_
  intro b1 w hS
  refine O_assign rfl rfl rfl rfl rfl ?_
  refine R_nil ?_
  refine tn ?_
  refine F_seq ?_
  refine F_region (p := ⟨_, [0, 0], []⟩) rfl [0, 1] rfl ?_
  refine O_makeFunc rfl rfl rfl rfl rfl rfl ?_
  refine O_assign rfl rfl rfl rfl rfl ?_
  refine R_nil ?_
  refine tn ?_
  refine F_ret ?_
  show endF _ _ _ _ _ _
  refine end0 trivial rfl rfl rfl hS ?_
  intro w hS
  exact ⟨_, rfl, hS.to (by simp only [blks]; ac_rfl)⟩
end Go.Proofs.Ytpnigaoibhogfaa
