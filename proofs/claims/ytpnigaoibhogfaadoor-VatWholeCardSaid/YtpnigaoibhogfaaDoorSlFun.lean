/- YtpnigaoibhogfaaDoorSlFun: a part of the proof: walks over the translated code, and plain facts on lists beside. -/
import Derived.Test.YtpnigaoibhogfaaDoorSlCore
set_option linter.all false
namespace Go.Sl
open Go Go.RowKit

/-! ### Calls, in whatever frame -/

/-- The wide fence, at a frame of a function (none) or of a round of loop l (some l). -/
abbrev FR (ro : Option Nat) : Fence := { fn := fun _ => True, depth := none, alive := false, round := ro }

/-- It returns, and then. -/
def ret (R : Value → World → Prop) : Ending → World → Prop := fun e w => ∃ v, e = .returned v ∧ R v w

theorem callsIn_FR {ro : Option Nat} {n : Nat} {P : Program} {f : FuncId} {args : Array Value} {w : World} {R : Ending → World → Prop} (h : Calls P f args w R) : CallsIn (FR ro) n P f args w R :=
  (callsIn_wide (n := n)).2 h
theorem calls_of_FR {ro : Option Nat} {n : Nat} {P : Program} {f : FuncId} {args : Array Value} {w : World} {R : Ending → World → Prop} (h : CallsIn (FR ro) n P f args w R) : Calls P f args w R :=
  (callsIn_wide (n := n)).1 h

theorem Calls.mono' {P : Program} {f : FuncId} {args : Array Value} {w : World} {R R' : Ending → World → Prop} (h : Calls P f args w R) (hr : ∀ e w', R e w' → R' e w') : Calls P f args w R' :=
  fun cs => let ⟨e, w', fr, r, rest⟩ := h cs; ⟨e, w', fr, hr _ _ r, rest⟩

/-- What a call of the function value v with these arguments comes to. -/
def FV (P : Program) (v : Value) (args : Array Value) (w : World) (R : Value → World → Prop) : Prop :=
  ∃ fn first cap, v = .func fn first cap ∧
    ((∃ f, fn = .func f ∧ (∀ args w, (callFunc f args).run P w = .ok (.enter f args) w) ∧ Calls P f (first ++ args ++ cap) w (ret R)) ∨
     (∃ l f tmps assign body, fn = .yield l ∧ (Instr.yield l (first ++ args)).run P w = .ok (.round l f tmps assign body) w ∧ RoundIn (FR none) 0 P l f tmps assign body w (ret R)))

theorem FV.mono {P : Program} {v : Value} {args : Array Value} {w : World} {R R' : Value → World → Prop} (h : FV P v args w R) (hr : ∀ v w', R v w' → R' v w') : FV P v args w R' := by
  obtain ⟨fn, first, cap, hv, h⟩ := h
  refine ⟨fn, first, cap, hv, ?_⟩
  have hret : ∀ e w', ret R e w' → ret R' e w' := fun e w' ⟨v, he, hR⟩ => ⟨v, he, hr _ _ hR⟩
  rcases h with ⟨f, hf, eg, hc⟩ | ⟨l, f, tmps, assign, body, hf, hy, hc⟩
  · exact .inl ⟨f, hf, eg, Calls.mono' hc hret⟩
  · exact .inr ⟨l, f, tmps, assign, body, hf, hy, hc.mono hret⟩

theorem FV.of_calls {P : Program} {f : FuncId} {first cap args : Array Value} {w : World} {R : Value → World → Prop} (eg : ∀ args w, (callFunc f args).run P w = .ok (.enter f args) w)
    (h : Calls P f (first ++ args ++ cap) w (ret R)) : FV P (.func (.func f) first cap) args w R :=
  ⟨_, first, cap, rfl, .inl ⟨f, rfl, eg, h⟩⟩

/-- A call of a function value, as an operation. -/
theorem wpIn_callv {ro : Option Nat} {n : Nat} {P : Program} {o : Oper} {a : Act} {w : World} {K : Act → World → Prop} {Q : Exit → Act → World → Prop}
    {g : Operand} {as_ : Array Operand} {ts : Array TypeId} (hop : o.op = .call { callee := .value g, args := as_, argTypes := ts })
    (h : FV P (a.eval g) (as_.map a.eval) w (fun r w' => K (a.put o.dst r) w')) : o.wpIn (FR ro) n P a w K Q := by
  obtain ⟨fn, first, cap, hv, h⟩ := h
  refine ⟨fun _ _ => trivial, ?_⟩
  rw [Oper.semAt_eq _ _ _ (by rw [hop]; intro c hc; cases hc)]
  rcases h with ⟨f, rfl, eg, hc⟩ | ⟨l, f, tmps, assign, body, rfl, hy, hc⟩
  · have : (execOp a.eval o).run P w = .ok (.enter f (first ++ as_.map a.eval ++ cap)) w := by
      simp [execOp, hop, resolve, hv, Deferred.ofValue, Sem.run_bind, Sem.run_pure, Result.andThen, invoke, eg]
    rw [this]
    refine ⟨fun h => by simp at h, ?_⟩
    refine callsIn_FR (Calls.mono' hc ?_)
    rintro e w' ⟨r, rfl, hR⟩
    exact hR
  · have : (execOp a.eval o).run P w = .ok (.round l f tmps assign body) w := by
      simp [execOp, hop, resolve, hv, Deferred.ofValue, Sem.run_bind, Sem.run_pure, Result.andThen, invoke, hy]
    rw [this]
    refine ⟨fun h => by simp at h, ?_⟩
    refine RoundIn.mono (R := ret fun r w' => K (a.put o.dst r) w') ?_ ?_
    · exact ⟨trivial, fun c cs hroom => hc.2 c cs (fun d h => by cases h)⟩
    · rintro e w' ⟨r, rfl, hR⟩
      exact hR

theorem wpListIn_callv {ro : Option Nat} {n : Nat} {P : Program} {ops : Array Oper} {rest : List Oper} {o : Oper} {a : Act} {w : World} {Q : Exit → Act → World → Prop}
    (hg : o.guard = none) {g : Operand} {as_ : Array Operand} {ts : Array TypeId} (hop : o.op = .call { callee := .value g, args := as_, argTypes := ts })
    (h : FV P (a.eval g) (as_.map a.eval) w (fun r w' => wpListIn (FR ro) n P ops Q rest (a.put o.dst r) w')) : wpListIn (FR ro) n P ops Q (o :: rest) a w :=
  wpListIn_plain hg fun K hK => wpIn_callv hop (h.mono fun r w' hw => hK _ _ hw)

/-! ### Iterators -/

/-- 'it' hands xs over, one by one, to whatever takes them; it leans on It, and leaves It. -/
def Iter (P : Program) (it : Value) (It : HProp) {α : Type} (encs : α → Array Value) (xs : List α) : Prop :=
  ∀ (w0 : World) (y : Value) (J Jx : List α → HProp), (∃ fn a b, y = .func fn a b) →
    (∀ pre x post R w, xs = pre ++ x :: post → Sat w0 (J pre * R) w →
        FV P y (encs x) w (fun r w' => (r = .bool true ∧ Sat w0 (J (pre ++ [x]) * R) w') ∨ (r = .bool false ∧ Sat w0 (Jx (pre ++ [x]) * R) w'))) →
    ∀ R w, Sat w0 (It * (J [] * R)) w →
      FV P it #[y] w (fun _ w' => Sat w0 (It * (J xs * R)) w' ∨ ∃ pre, pre <+: xs ∧ Sat w0 (It * (Jx pre * R)) w')

/-- The marks of the loops over functions that a call has gone through. -/
def marks : List Nat → HProp
  | [] => hemp
  | D :: Ds => pt D (.deferred (some [])) * marks Ds
def markL (Ds : List Nat) : List Deferred := Ds.map fun D => { target := .collected D, args := #[] }

section loop
variable {P : Program} {g : Operand} {ps : Array Tmp} {assign body : Code} {Q : Exit → Act → World → Prop} {a : Act} {w w0 : World} {n : Nat}

/-- How a round is left. -/
def roundEnds {α : Type} (w0 : World) (I : List α → HProp) (Ix : Code → List α → HProp) (R : HProp) (xs : List α) : Exit → Act → World → Prop
  | .normal, _, w => Sat w0 (I xs * R) w
  | .ret, _, w => Sat w0 (Ix .ret xs * R) w
  | .exit id, _, w => Sat w0 (Ix (.exit id) xs * R) w
  | .goto t, _, w => Sat w0 (Ix (.goto t) xs * R) w
  | .panic _, _, _ => False
  | .outgrown, _, _ => False

theorem wpIn_range {α : Type} {gf : Nat} {first lb : Array Value} (hg : a.eval g = .func (.func gf) first lb) (eg : ∀ args w, (callFunc gf args).run P w = .ok (.enter gf args) w)
    {It : HProp} {encs : α → Array Value} {xs : List α} (hit : Iter P (.func (.func gf) first lb) It encs xs)
    (hps : ∀ x, (encs x).size = ps.size) (I : List α → HProp) (Ix : Code → List α → HProp) {R0 : HProp} (h0 : Sat w0 (It * (I [] * R0)) w)
    (hround : ∀ (l : Nat) (pre : List α) (x : α) (post : List α) (R : HProp) (W : World), xs = pre ++ x :: post → Sat w0 (I pre * R) W →
      assign.wpIn (FR (some l)) n P (Exit.then (fun a₁ W₁ => ∃ M : HProp, Sat w0 (M * R) W₁ ∧ ∀ R' W', Sat w0 (M * R') W' → body.wpIn (FR (some l)) n P (roundEnds w0 I Ix R' (pre ++ [x])) a₁ W') (fun _ _ _ => False))
        { tmps := (ps.zip (encs x)).foldl (fun t (p, v) => t.setIfInBounds p v) a.tmps, defers := [] } W)
    (hdone : ∀ (D : Nat) (W : World), Sat w0 (pt D (.deferred (some [])) * (It * (I xs * R0))) W → Q .normal { a with defers := { target := .collected D, args := #[] } :: a.defers } W)
    (hstop : ∀ (D : Nat) (c : Code) (pre : List α) (W : World), pre <+: xs → Sat w0 (pt D (.deferred (some [])) * (It * (Ix c pre * R0))) W →
      c.wpIn (FR none) n P Q { a with defers := { target := .collected D, args := #[] } :: a.defers } W) :
    (Code.rangeFunc g ps assign body).wpIn (FR none) n P Q a w := by
  refine wpIn_rangeFunc ?_
  intro fn _
  obtain ⟨rec, hrec⟩ : ∃ rec : LoopState → Option Code → Loop, rec = fun st pe => { state := st, pending := pe, fn, tmps := a.tmps, params := ps, assign, body, defers := w.heap.size } := ⟨_, rfl⟩
  have h1 := (h0.alloc (.deferred (some []))).alloc (.loop (rec .ready none))
  rw [World.size_alloc] at h1
  obtain ⟨l, hl⟩ : ∃ l, l = w.heap.size + 1 := ⟨_, rfl⟩
  obtain ⟨D, hD⟩ : ∃ D, D = w.heap.size := ⟨_, rfl⟩
  obtain ⟨W1, hW1⟩ : ∃ W1, W1 = (w.alloc (.deferred (some []))).alloc (.loop (rec .ready none)) := ⟨_, rfl⟩
  rw [← hl, ← hD, ← hW1] at h1
  refine ⟨l, [{ target := .collected D, args := #[] }], W1, { target := .fn (.func gf) lb, args := first ++ #[.func (.yield l) #[] #[]] }, W1, gf,
    first ++ #[.func (.yield l) #[] #[]] ++ lb, W1, ?_, ?_, fun _ _ => trivial, ?_, fun h => by simp at h, ?_⟩
  · rw [hW1, hrec, hl, hD]; exact run_enterLoop_outer _ _ _ _ _
  · simp only [resolve, hg]
    simp [go_sem]
  · simp [invoke, eg]
  · have key := hit w0 (.func (.yield l) #[] #[]) (fun pre => pt l (.loop (rec .ready none)) * I pre) (fun pre => hex fun c => pt l (.loop (rec .done (some c))) * Ix c pre) ⟨_, _, _, rfl⟩ ?_ (pt D (.deferred (some [])) * R0) W1
      (h1.to (by ac_rfl))
    · obtain ⟨fn', first', cap', hv, hcase⟩ := key
      cases hv
      rcases hcase with ⟨f, hf, _, hc⟩ | ⟨l', f, tmps, assign', body', hf, _⟩
      · cases hf
        refine callsIn_FR (Calls.mono' hc ?_)
        rintro e W2 ⟨v, rfl, (hs | ⟨pre, hpre, hs⟩)⟩
        · have hs' : Sat w0 (pt l (.loop (rec .ready none)) * (pt D (.deferred (some [])) * (It * (I xs * R0)))) W2 := hs.to (by ac_rfl)
          refine ⟨none, _, ?_, hdone D _ (hs'.putObj (o' := .loop { rec .ready none with state := .exhausted })).drop⟩
          have := run_endLoop (P := P) hs'.at (by rw [hrec]; simp)
          rw [hrec] at this ⊢; exact this
        · have hs1 : Sat w0 ((hex fun c => pt l (.loop (rec .done (some c))) * Ix c pre) * (It * (pt D (.deferred (some [])) * R0))) W2 := hs.to (by ac_rfl)
          obtain ⟨c, hs1⟩ := hs1.ex
          have hs' : Sat w0 (pt l (.loop (rec .done (some c))) * (pt D (.deferred (some [])) * (It * (Ix c pre * R0)))) W2 := hs1.to (by ac_rfl)
          refine ⟨some c, _, ?_, hstop D c pre _ hpre (hs'.putObj (o' := .loop { rec .done (some c) with state := .exhausted })).drop⟩
          have := run_endLoop (P := P) hs'.at (by rw [hrec]; simp)
          rw [hrec] at this ⊢; exact this
      · cases hf
    · intro pre x post R W hxs hs
      have hs' : Sat w0 (pt l (.loop (rec .ready none)) * (I pre * R)) W := hs.to (by ac_rfl)
      have hy := run_yield (P := P) (args := encs x) hs'.at (by rw [hrec]; exact hps x)
      rw [hrec] at hy
      have hy' := hy
      rw [show encs x = (#[] : Array Value) ++ encs x by simp] at hy'
      refine ⟨_, #[], #[], rfl, .inr ⟨l, fn, _, assign, body, rfl, hy', ?_⟩⟩
      clear hy'
      rw [show (#[] : Array Value) ++ encs x = encs x by simp]
      clear hy
      have hb := hround l pre x post (pt l (.loop (rec .ready none)) * R) W hxs (hs.to (by ac_rfl))
      have hr : RoundIn (FR none) n P l fn ((ps.zip (encs x)).foldl (fun t (p, v) => t.setIfInBounds p v) a.tmps) assign body W
          (ret fun r w' => (r = .bool true ∧ Sat w0 ((pt l (.loop (rec .ready none)) * I (pre ++ [x])) * R) w') ∨ (r = .bool false ∧ Sat w0 ((hex fun c => pt l (.loop (rec .done (some c))) * Ix c (pre ++ [x])) * R) w')) := by
        refine roundIn_of_wpIn (F := FR none) trivial (wpIn_mono hb ?_)
        rintro e a₁ W₁ hp
        cases e with
        | normal =>
          obtain ⟨M, hM, hbody⟩ := hp
          have hM' : Sat w0 (pt l (.loop (rec .ready none)) * (M * R)) W₁ := hM.to (by ac_rfl)
          refine ⟨_, run_beginRound hM'.at (by rw [hrec]), ?_⟩
          have hM2 := hM'.putObj (o' := .loop { rec .ready none with state := .busy })
          refine wpIn_mono (hbody (pt l (.loop { rec .ready none with state := .busy }) * R) _ (hM2.to (by ac_rfl))) ?_
          have fin : ∀ (jump : Option Code) (X : HProp) (W3 : World), Sat w0 (X * (pt l (.loop { rec .ready none with state := .busy }) * R)) W3 →
              (Instr.endRound l jump).run P W3 = .ok (.bool jump.isNone) (W3.putObj l (.loop (rec (if jump.isNone then .ready else .done) jump))) ∧
              Sat w0 (pt l (.loop (rec (if jump.isNone then .ready else .done) jump)) * (X * R)) (W3.putObj l (.loop (rec (if jump.isNone then .ready else .done) jump))) := fun jump X W3 h3 => by
            have h3' : Sat w0 (pt l (.loop { rec .ready none with state := .busy }) * (X * R)) W3 := h3.to (by ac_rfl)
            have := run_endRound (P := P) jump h3'.at
            rw [hrec] at this ⊢
            rw [hrec] at h3'
            exact ⟨this, h3'.putObj⟩
          rintro e a3 W3 hp3
          cases e with
          | normal =>
            obtain ⟨hr, h4⟩ := fin none _ W3 hp3
            exact ⟨_, _, hr, _, rfl, .inl ⟨rfl, h4.to (by simp only [Option.isNone_none, if_true]; ac_rfl)⟩⟩
          | ret =>
            obtain ⟨hr, h4⟩ := fin (some .ret) _ W3 hp3
            exact ⟨_, _, hr, _, rfl, .inr ⟨rfl, Sat.mkex .ret (h4.to (by simp only [Option.isNone_some, Bool.false_eq_true, if_false]; ac_rfl))⟩⟩
          | exit id =>
            obtain ⟨hr, h4⟩ := fin (some (.exit id)) _ W3 hp3
            exact ⟨_, _, hr, _, rfl, .inr ⟨rfl, Sat.mkex (.exit id) (h4.to (by simp only [Option.isNone_some, Bool.false_eq_true, if_false]; ac_rfl))⟩⟩
          | goto t =>
            obtain ⟨hr, h4⟩ := fin (some (.goto t)) _ W3 hp3
            exact ⟨_, _, hr, _, rfl, .inr ⟨rfl, Sat.mkex (.goto t) (h4.to (by simp only [Option.isNone_some, Bool.false_eq_true, if_false]; ac_rfl))⟩⟩
          | panic ch => exact hp3.elim
          | outgrown => exact hp3.elim
        | exit id => exact hp.elim
        | goto t => exact hp.elim
        | ret => exact hp.elim
        | panic ch => exact hp.elim
        | outgrown => exact hp.elim
      exact ⟨trivial, fun c cs _ => hr.2 c cs (fun d h => by cases h)⟩

end loop
end Go.Sl
