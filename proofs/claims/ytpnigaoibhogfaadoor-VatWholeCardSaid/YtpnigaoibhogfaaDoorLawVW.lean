/- VatWhole answers true, whatever the input, and leaves what it is handed as it was. No condition; the table of ranks is tied by the card. -/
import Derived.Test.YtpnigaoibhogfaaDoorRows
import Derived.Test.YtpnigaoibhogfaaDoorV8
import Derived.WalkKit
import Derived.ProofKit
import Derived.OpenShut
import Derived.ShutString
import Derived.ChangeOld
import Derived.Below
import Derived.SizedLaws
import Derived.Test.YtpnigaoibhogfaaDoorTie
import Derived.Test.YtpnigaoibhogfaaDoorCards
import Derived.Handy
import Derived.Lay
import Derived.SevenTiedAt
set_option linter.all false
namespace Go.Proofs.YtpnigaoibhogfaaDoor.vatWhole
open Go.ChangeShapes Go.WideShapes Go.ChangeAt Go.RowKit Go.Sl
open Go.ChangeMaps (open_string shut_string)
set_option linter.unusedVariables false
theorem own : ownKnob Tryd.prog.godebug = none := by kernel_rfl
theorem laidOut : laidOutB Tryd.prog = true := by kernel_rfl
theorem u_range (k : IntKind) {q : Int} (h : (Lit.int k q).wf = true) : k.min ≤ q ∧ q ≤ k.max := by simpa [Lit.wf] using h
set_option maxRecDepth 100000 in
theorem lifted (os : Os) (started : os.Started) (H : Type) (enc : TypeId × Value → H) :
    ReturnsInHanded {} Tryd.checked os 6 .any (fun w args => (Rows.vatWholeSpec.pre enc Tryd.prog Tryd.f6 [] false w args ∧ laidMetH Tryd.prog Rows.vatWholeRow.laid w) ∧ sizedMet enc Tryd.prog Tryd.f6 (OpenSpec.ofChange Rows.vatWholeSpec) false w args) (Rows.vatWholeSpec.post enc Tryd.prog Tryd.f6 false true false false) := by
  refine returnsInHanded_of_change_and (C := Tryd.checked) (X := fun w _ => laidMetH Tryd.prog Rows.vatWholeRow.laid w) (fun _ _ _ hh h => h.of_heap hh) own started (by kernel_rfl) Tryd.func6
    (ChangeSpec.witness_shaped (enc := enc) (C := Tryd.checked) (os := os) (X := fun w _ => laidMetH Tryd.prog Rows.vatWholeRow.laid w) false (World.laidAll Tryd.prog os Rows.vatWholeRow.laid) #[.slice none 0 0, .slice none 0 0] 8 (World.laidAll_os _ _ _)
      (World.shaped_of_ZipB (by kernel_rfl) (by kernel_rfl)) (by kernel_rfl) (by kernel_rfl) (by kernel_rfl)
      (by rw [MakeChecks.laidMetH_plain _ _ _ (by kernel_rfl)]; exact laidMet_laidAll _ (by kernel_rfl) (by kernel_rfl))) ?_
  intro W base args ds gs before hval0 hW _ hsz0 hL _
  have hsz : (DataW.weightsEach Tryd.prog (Tryd.f6.params.toList ++ Rows.vatWholeSpec.plain.varTypes Tryd.prog) (ds ++ gs)).all (· ≤ reachBytes) = true := hsz0
  have hval : ∀ (j : Nat) t v, Tryd.f6.params[j]? = some t → args[j]? = some v → Value.okWide Tryd.prog W .any base t v := hval0
  have hW' := hW
  obtain ⟨p, q, hA0, hV, rfl, hfz, hnd⟩ := hW
  have hA : DataW.TrodAll enc Tryd.prog W 0 (fun _ => true) true Tryd.f6.params.toList args.toList ds p := hA0
  rw [Tryd.params6] at hA hval hsz
  obtain ⟨v0, vs0, d0, ds0, p0, q0, hargs, rfl, rfl, h0, r0⟩ := trodAll_cons hA
  obtain ⟨v1, vs1, d1, ds1, p1, q1, rfl, rfl, rfl, h1, r1⟩ := trodAll_cons r0
  obtain ⟨rfl, rfl, rfl⟩ := trodAll_nil r1
  obtain rfl : args = #[v0, v1] := by cases args; simp_all
  obtain ⟨rfl, rfl⟩ := trodVars_none hV
  obtain ⟨a0, len0, cap0, rfl⟩ := okWide_slice Tryd.underlying43 (hval 0 43 v0 rfl rfl)
  have k0 := h0
  have lt0 : ∀ x ∈ p0, x.block < W.heap.size := by obtain ⟨m, hm⟩ := k0; exact DataW.trod_lt m _ _ _ hm
  obtain ⟨z0, hz0, w0, m0, n0⟩ : ∃ zs : List Int, zs.length = len0 ∧ RdW W a0 (zs.map fun n => .int .i64 n) ∧ zs.length ≤ maxLen ∧ ∀ y ∈ zs, (Lit.int .i64 y).wf = true := by
    obtain ⟨fuel, hf⟩ := h0
    rcases open_ints Tryd.underlying43 Tryd.underlying3 (by kernel_rfl) hf with ⟨hcs, _⟩ | ⟨x, l, c, zs, hcs, _, hl, hm, hz, _, hcell, hwz⟩
    · simp [Value.cells] at hcs
      obtain ⟨rfl, rfl, rfl⟩ := hcs
      exact ⟨[], rfl, fun i u hu => by simp at hu, by simp, by simp⟩
    · simp [Value.cells] at hcs
      obtain ⟨rfl, rfl, rfl⟩ := hcs
      have hI : IsRowI .i64 W (some x) len0 cap0 zs := .inr ⟨_, rfl, hl, hm, by simpa using hz, hcell⟩
      exact ⟨zs.take len0, hI.facts.2.1, hI.facts.1, by have := hI.facts.2.2.1; have := hI.facts.2.1; omega, fun y hy => hwz y (List.mem_of_mem_take hy)⟩
  obtain ⟨a1, len1, cap1, rfl⟩ := okWide_slice Tryd.underlying55 (hval 1 55 v1 rfl rfl)
  have k1 := h1
  have lt1 : ∀ x ∈ p1, x.block < W.heap.size := by obtain ⟨m, hm⟩ := k1; exact DataW.trod_lt m _ _ _ hm
  obtain ⟨z1, hz1, w1, m1, n1⟩ : ∃ zs : List Int, zs.length = len1 ∧ RdW W a1 (zs.map fun n => .int .u8 n) ∧ zs.length ≤ maxLen ∧ ∀ y ∈ zs, (Lit.int .u8 y).wf = true := by
    obtain ⟨fuel, hf⟩ := h1
    rcases open_ints Tryd.underlying55 Tryd.underlying5 (by kernel_rfl) hf with ⟨hcs, _⟩ | ⟨x, l, c, zs, hcs, _, hl, hm, hz, _, hcell, hwz⟩
    · simp [Value.cells] at hcs
      obtain ⟨rfl, rfl, rfl⟩ := hcs
      exact ⟨[], rfl, fun i u hu => by simp at hu, by simp, by simp⟩
    · simp [Value.cells] at hcs
      obtain ⟨rfl, rfl, rfl⟩ := hcs
      have hI : IsRowI .u8 W (some x) len1 cap1 zs := .inr ⟨_, rfl, hl, hm, by simpa using hz, hcell⟩
      exact ⟨zs.take len1, hI.facts.2.1, hI.facts.1, by have := hI.facts.2.2.1; have := hI.facts.2.1; omega, fun y hy => hwz y (List.mem_of_mem_take hy)⟩
  clear hA0 hval0 hsz0 hsz
  refine ((by subst hz0; subst hz1; refine Calls.mono' (vatWhole_walk (c1 := cap0) (c2 := cap1) (whole_rds w0) (whole_rds w1) (fun x hx => u_range .u8 (n1 x hx)) (by simp only [maxLen] at m0; omega) (by simp only [maxLen] at m1; omega) ((Sat.start W).to (star_hemp _).symm)) ?_; rintro e w' ⟨u, rfl, rfl, hS⟩; exact ⟨rfl, Sat.below (A := hemp) (hS.to (star_comm _ _))⟩) : Calls Tryd.prog 6 _ W fun e W' => e = .returned (.bool true) ∧ Below W.heap.size W W').mono fun e W' ⟨he, bel⟩ => ?_
  subst he
  exact ⟨_, rfl, _, _, _, [], _, [], hW', trodAll_mk1 (shut_bool Tryd.underlying4 _), (trodAll_cons_mk (Below.trod laidOut (by kernel_rfl) (of_decide_eq_true (by kernel_rfl)) k0 bel lt0) (trodAll_cons_mk (Below.trod laidOut (by kernel_rfl) (of_decide_eq_true (by kernel_rfl)) k1 bel lt1) trodAll_mk0)), rfl, bel.frame _, fun h => by cases h⟩
theorem over : Rows.vatWholeRow.holds Tryd.pinned (OpenSpec.ofChange Rows.vatWholeSpec) :=
  OpenClaim.holds_of_wide 6 Tryd.f6 rfl rfl rfl rfl rfl rfl rfl ⟨rfl, rfl, rfl, rfl, rfl⟩ rfl rfl rfl rfl rfl (by kernel_rfl) Tryd.func6 (by kernel_rfl)
    (of_decide_eq_true (by kernel_rfl)) (by unfold Func.isWrapper; first | (rw [if_pos (by decide +kernel)]; kernel_rfl) | (rw [if_neg (by decide +kernel)]; exact ⟨rfl, rfl⟩))
    (fun os started H enc _ => lifted os started H enc)
theorem proved : Rows.VatWholeCardSaid :=
  Claim7.holds_tied_plain_at .later [] [.data] true (true, "bd2f5fb8a2e3d0ef2bf273fff60766853cee3ca2e6501f0f44ce5f7e9fc6e71c") false over (fun _ h => by cases h) (by kernel_rfl) (fun _ h => by cases h) vatWhole_row_tie rfl ⟨rfl, rfl⟩ (by kernel_rfl) rfl
    (fun f fn hf hfn => by
      obtain rfl : f = 6 := Option.some.inj ((show Tryd.prog.funcNamed "tidemill/tidemilllaw11.VatWhole" = some 6 by kernel_rfl).symm.trans hf) |>.symm
      obtain rfl : fn = Tryd.f6 := (Option.some.inj (Tryd.func6.symm.trans hfn)).symm
      exact ⟨by kernel_rfl, fun j t ht => by
        rw [Tryd.params6] at ht
        have hm : t ∈ [43, 55] := by simpa using Array.mem_of_getElem? ht
        have hall : ([43, 55].all fun u => !Tryd.prog.wantsStandIn u) = true := by kernel_rfl
        exact (show Tryd.prog.wantsStandIn t = false by simpa using List.all_eq_true.1 hall t hm)⟩)
    (by kernel_rfl)
end Go.Proofs.YtpnigaoibhogfaaDoor.vatWhole
namespace Go.Proofs.YtpnigaoibhogfaaDoor
/-- The row, under a short name, for the claim. -/
theorem vatWhole_holds : Rows.VatWholeCardSaid := vatWhole.proved
end Go.Proofs.YtpnigaoibhogfaaDoor