/- YtpnigaoibhogfaaDoorSlRangeA: a part of the proof: walks over the translated code, and plain facts on lists beside. -/
import Derived.Test.YtpnigaoibhogfaaDoorSlX2
set_option linter.all false
namespace Go.Sl
open Go Go.RowKit
/-! ### A range over a function that only reads what stands in the body's hands, too -/
section
variable {P : Program} {g : Operand} {ps : Array Tmp} {assign body : Code} {Q : Exit → Act → World → Prop} {a : Act} {w w0 : World} {n : Nat}
theorem wpIn_rangeA {α : Type} {gf : Nat} {first lb : Array Value} (hg : a.eval g = .func (.func gf) first lb) (eg : ∀ args w, (callFunc gf args).run P w = .ok (.enter gf args) w)
    {A It : HProp} {encs : α → Array Value} {xs : List α} (hit : IterA P (.func (.func gf) first lb) A It encs xs)
    (hps : ∀ x, (encs x).size = ps.size) (I : List α → HProp) (Ix : Code → List α → HProp) {R0 : HProp} (h0 : Sat w0 (It * ((A * I []) * R0)) w)
    (hround : ∀ (l : Nat) (pre : List α) (x : α) (post : List α) (R : HProp) (W : World), xs = pre ++ x :: post → Sat w0 ((A * I pre) * R) W →
      assign.wpIn (FR (some l)) n P (Exit.then (fun a₁ W₁ => ∃ M : HProp, Sat w0 (M * R) W₁ ∧ ∀ R' W', Sat w0 (M * R') W' → body.wpIn (FR (some l)) n P (roundEnds w0 (fun l => A * I l) (fun c l => A * Ix c l) R' (pre ++ [x])) a₁ W') (fun _ _ _ => False))
        { tmps := (ps.zip (encs x)).foldl (fun t (p, v) => t.setIfInBounds p v) a.tmps, defers := [] } W)
    (hdone : ∀ (D : Nat) (W : World), Sat w0 (pt D (.deferred (some [])) * (It * ((A * I xs) * R0))) W → Q .normal { a with defers := { target := .collected D, args := #[] } :: a.defers } W)
    (hstop : ∀ (D : Nat) (c : Code) (pre : List α) (W : World), pre <+: xs → Sat w0 (pt D (.deferred (some [])) * (It * ((A * Ix c pre) * R0))) W →
      c.wpIn (FR none) n P Q { a with defers := { target := .collected D, args := #[] } :: a.defers } W) :
    (Code.rangeFunc g ps assign body).wpIn (FR none) n P Q a w := by
  refine wpIn_rangeFunc ?_
  intro fn _
  obtain ⟨rec, hrec⟩ : ∃ rec : LoopState → Option Code → Loop, rec = fun st pe => { state := st, pending := pe, fn, tmps := a.tmps, params := ps, assign, body, defers := w.heap.size } := ⟨_, rfl⟩
  have h1 := (h0.alloc (.deferred (some []))).alloc (.loop (rec .ready none))
  rw [World.size_alloc] at h1
  obtain ⟨l, hl⟩ : ∃ l, l = w.heap.size + 1 := ⟨_, rfl⟩
  obtain ⟨D, hD⟩ : ∃ D, D = w.heap.size := ⟨_, rfl⟩
  obtain ⟨W1, hW1⟩ : ∃ W1, W1 = (w.alloc (.deferred (some []))).alloc (.loop (rec .ready none)) := ⟨_, rfl⟩
  rw [← hl, ← hD, ← hW1] at h1
  refine ⟨l, [{ target := .collected D, args := #[] }], W1, { target := .fn (.func gf) lb, args := first ++ #[.func (.yield l) #[] #[]] }, W1, gf,
    first ++ #[.func (.yield l) #[] #[]] ++ lb, W1, ?_, ?_, fun _ _ => trivial, ?_, fun h => by simp at h, ?_⟩
  · rw [hW1, hrec, hl, hD]; exact run_enterLoop_outer _ _ _ _ _
  · simp only [resolve, hg]
    simp [go_sem]
  · simp [invoke, eg]
  · have key := hit w0 (.func (.yield l) #[] #[]) (fun pre => pt l (.loop (rec .ready none)) * I pre) (fun pre => hex fun c => pt l (.loop (rec .done (some c))) * Ix c pre) ⟨_, _, _, rfl⟩ ?_ (pt D (.deferred (some [])) * R0) W1
      (h1.to (by ac_rfl))
    · obtain ⟨fn', first', cap', hv, hcase⟩ := key
      cases hv
      rcases hcase with ⟨f, hf, _, hc⟩ | ⟨l', f, tmps, assign', body', hf, _⟩
      · cases hf
        refine callsIn_FR (Calls.mono' hc ?_)
        rintro e W2 ⟨v, rfl, (hs | ⟨pre, hpre, hs⟩)⟩
        · have hs' : Sat w0 (pt l (.loop (rec .ready none)) * (pt D (.deferred (some [])) * (It * ((A * I xs) * R0)))) W2 := hs.to (by ac_rfl)
          refine ⟨none, _, ?_, hdone D _ (hs'.putObj (o' := .loop { rec .ready none with state := .exhausted })).drop⟩
          have := run_endLoop (P := P) hs'.at (by rw [hrec]; simp)
          rw [hrec] at this ⊢; exact this
        · have hs1 : Sat w0 ((hex fun c => pt l (.loop (rec .done (some c))) * Ix c pre) * (A * (It * (pt D (.deferred (some [])) * R0)))) W2 := hs.to (by ac_rfl)
          obtain ⟨c, hs1⟩ := hs1.ex
          have hs' : Sat w0 (pt l (.loop (rec .done (some c))) * (pt D (.deferred (some [])) * (It * ((A * Ix c pre) * R0)))) W2 := hs1.to (by ac_rfl)
          refine ⟨some c, _, ?_, hstop D c pre _ hpre (hs'.putObj (o' := .loop { rec .done (some c) with state := .exhausted })).drop⟩
          have := run_endLoop (P := P) hs'.at (by rw [hrec]; simp)
          rw [hrec] at this ⊢; exact this
      · cases hf
    · intro pre x post R W hxs hs
      have hs' : Sat w0 (pt l (.loop (rec .ready none)) * ((A * I pre) * R)) W := hs.to (by ac_rfl)
      have hy := run_yield (P := P) (args := encs x) hs'.at (by rw [hrec]; exact hps x)
      rw [hrec] at hy
      have hy' := hy
      rw [show encs x = (#[] : Array Value) ++ encs x by simp] at hy'
      refine ⟨_, #[], #[], rfl, .inr ⟨l, fn, _, assign, body, rfl, hy', ?_⟩⟩
      clear hy'
      rw [show (#[] : Array Value) ++ encs x = encs x by simp]
      clear hy
      have hb := hround l pre x post (pt l (.loop (rec .ready none)) * R) W hxs (hs.to (by ac_rfl))
      have hr : RoundIn (FR none) n P l fn ((ps.zip (encs x)).foldl (fun t (p, v) => t.setIfInBounds p v) a.tmps) assign body W
          (ret fun r w' => (r = .bool true ∧ Sat w0 (A * ((pt l (.loop (rec .ready none)) * I (pre ++ [x])) * R)) w') ∨ (r = .bool false ∧ Sat w0 (A * ((hex fun c => pt l (.loop (rec .done (some c))) * Ix c (pre ++ [x])) * R)) w')) := by
        refine roundIn_of_wpIn (F := FR none) trivial (wpIn_mono hb ?_)
        rintro e a₁ W₁ hp
        cases e with
        | normal =>
          obtain ⟨M, hM, hbody⟩ := hp
          have hM' : Sat w0 (pt l (.loop (rec .ready none)) * (M * R)) W₁ := hM.to (by ac_rfl)
          refine ⟨_, run_beginRound hM'.at (by rw [hrec]), ?_⟩
          have hM2 := hM'.putObj (o' := .loop { rec .ready none with state := .busy })
          refine wpIn_mono (hbody (pt l (.loop { rec .ready none with state := .busy }) * R) _ (hM2.to (by ac_rfl))) ?_
          have fin : ∀ (jump : Option Code) (X : HProp) (W3 : World), Sat w0 (X * (pt l (.loop { rec .ready none with state := .busy }) * R)) W3 →
              (Instr.endRound l jump).run P W3 = .ok (.bool jump.isNone) (W3.putObj l (.loop (rec (if jump.isNone then .ready else .done) jump))) ∧
              Sat w0 (pt l (.loop (rec (if jump.isNone then .ready else .done) jump)) * (X * R)) (W3.putObj l (.loop (rec (if jump.isNone then .ready else .done) jump))) := fun jump X W3 h3 => by
            have h3' : Sat w0 (pt l (.loop { rec .ready none with state := .busy }) * (X * R)) W3 := h3.to (by ac_rfl)
            have := run_endRound (P := P) jump h3'.at
            rw [hrec] at this ⊢
            rw [hrec] at h3'
            exact ⟨this, h3'.putObj⟩
          rintro e a3 W3 hp3
          cases e with
          | normal =>
            obtain ⟨hr, h4⟩ := fin none _ W3 hp3
            exact ⟨_, _, hr, _, rfl, .inl ⟨rfl, h4.to (by simp only [Option.isNone_none, if_true]; ac_rfl)⟩⟩
          | ret =>
            obtain ⟨hr, h4⟩ := fin (some .ret) _ W3 hp3
            exact ⟨_, _, hr, _, rfl, .inr ⟨rfl, (Sat.mkex (f := fun c => pt l (.loop (rec .done (some c))) * Ix c (pre ++ [x])) .ret ((h4.to (by simp only [Option.isNone_some, Bool.false_eq_true, if_false]; ac_rfl)) : Sat w0 ((pt l (.loop (rec .done (some .ret))) * Ix .ret (pre ++ [x])) * (A * R)) _)).to (by ac_rfl)⟩⟩
          | exit id =>
            obtain ⟨hr, h4⟩ := fin (some (.exit id)) _ W3 hp3
            exact ⟨_, _, hr, _, rfl, .inr ⟨rfl, (Sat.mkex (f := fun c => pt l (.loop (rec .done (some c))) * Ix c (pre ++ [x])) (.exit id) ((h4.to (by simp only [Option.isNone_some, Bool.false_eq_true, if_false]; ac_rfl)) : Sat w0 ((pt l (.loop (rec .done (some (.exit id)))) * Ix (.exit id) (pre ++ [x])) * (A * R)) _)).to (by ac_rfl)⟩⟩
          | goto t =>
            obtain ⟨hr, h4⟩ := fin (some (.goto t)) _ W3 hp3
            exact ⟨_, _, hr, _, rfl, .inr ⟨rfl, (Sat.mkex (f := fun c => pt l (.loop (rec .done (some c))) * Ix c (pre ++ [x])) (.goto t) ((h4.to (by simp only [Option.isNone_some, Bool.false_eq_true, if_false]; ac_rfl)) : Sat w0 ((pt l (.loop (rec .done (some (.goto t)))) * Ix (.goto t) (pre ++ [x])) * (A * R)) _)).to (by ac_rfl)⟩⟩
          | panic ch => exact hp3.elim
          | outgrown => exact hp3.elim
        | exit id => exact hp.elim
        | goto t => exact hp.elim
        | ret => exact hp.elim
        | panic ch => exact hp.elim
        | outgrown => exact hp.elim
      exact ⟨trivial, fun c cs _ => hr.2 c cs (fun d h => by cases h)⟩


end
section
variable {P : Program} {Q : Exit → Fr → World → Prop} {f : Fr} {w w0 : World}
theorem F_rangeA {α : Type} {g : Operand} {ps : Array Tmp} {assign body : Code} {gf : Nat} {first lb : Array Value} (hg : f.ev g = some (.func (.func gf) first lb)) (eg : ∀ args w, (callFunc gf args).run P w = .ok (.enter gf args) w)
    {A It : HProp} (encl : α → List Value) {xs : List α} (hit : IterA P (.func (.func gf) first lb) A It (fun x => (encl x).toArray) xs) (pl : List Nat) (hpl : ps = pl.toArray) (hlen : ∀ x, (encl x).length = pl.length)
    (hpn : (pl.all fun d => Nat.blt d f.n) = true)
    (I : List α → HProp) (Ix : Code → List α → HProp) {R0 : HProp} (h0 : Sat w0 (It * ((A * I []) * R0)) w)
    (hround : ∀ (l : Nat) (pre : List α) (x : α) (post : List α) (R : HProp) (W : World), xs = pre ++ x :: post → Sat w0 ((A * I pre) * R) W →
      wpF P (some l) assign (thenF (fun f₁ W₁ => ∃ M : HProp, Sat w0 (M * R) W₁ ∧ ∀ R' W', Sat w0 (M * R') W' → wpF P (some l) body (roundF w0 (fun l => A * I l) (fun c l => A * Ix c l) R' (pre ++ [x])) f₁ W') (fun _ _ _ => False))
        ⟨f.n, [], putAll f.l (pl.zip (encl x))⟩ W)
    (hdone : ∀ (D : Nat) (W : World), Sat w0 (pt D (.deferred (some [])) * (It * ((A * I xs) * R0))) W → Q .normal ⟨f.n, D :: f.ds, f.l⟩ W)
    (hstop : ∀ (D : Nat) (c : Code) (pre : List α) (W : World), pre <+: xs → Sat w0 (pt D (.deferred (some [])) * (It * ((A * Ix c pre) * R0))) W → wpF P none c Q ⟨f.n, D :: f.ds, f.l⟩ W) :
    wpF P none (.rangeFunc g ps assign body) Q f w := by
  intro a ha
  have mark : ∀ D, Ok ⟨f.n, D :: f.ds, f.l⟩ { a with defers := { target := .collected D, args := #[] } :: a.defers } := fun D => ⟨ha.1, by simp [markL, ha.2.1], ha.2.2⟩
  refine wpIn_rangeA (ha.ev hg) eg hit (by intro x; rw [hpl]; simp [hlen]) I Ix h0 ?_ (fun D W hS => ⟨_, mark D, hdone D W hS⟩) (fun D c pre W hp hS => hstop D c pre W hp hS _ (mark D))
  intro l pre x post R W hx hS
  have hz : ((pl.zip (encl x)).all fun z => Nat.blt z.1 f.n) = true := by
    rw [List.all_eq_true] at hpn ⊢
    intro z hz
    exact hpn z.1 (List.of_mem_zip (a := z.1) (b := z.2) hz).1
  have hok : Ok ⟨f.n, [], putAll f.l (pl.zip (encl x))⟩ { tmps := (ps.zip (encl x).toArray).foldl (fun t (p, v) => t.setIfInBounds p v) a.tmps, defers := [] } := by
    have h1 := Ok.putAll (zs := pl.zip (encl x)) (l := f.l) (t := a.tmps) (df := []) (ds := []) (n := f.n) ⟨ha.1, rfl, ha.2.2⟩ hz
    have e : (ps.zip (encl x).toArray).foldl (fun t (p, v) => t.setIfInBounds p v) a.tmps = (pl.zip (encl x)).foldl (fun t (p, v) => t.setIfInBounds p v) a.tmps := by
      subst hpl
      rw [← Array.foldl_toList]
      simp
    rw [e]
    exact h1
  refine wpIn_mono (hround l pre x post R W hx hS _ hok) ?_
  rintro e a₁ W₁ ⟨f₁, hf₁, hp⟩
  cases e with
  | normal =>
    obtain ⟨M, hM, hbody⟩ := hp
    refine ⟨M, hM, fun R' W' hS' => wpIn_mono (hbody R' W' hS' a₁ hf₁) ?_⟩
    rintro e a₂ W₂ ⟨f₂, hf₂, hq⟩
    cases e <;> exact hq
  | exit id => exact hp.elim
  | goto t => exact hp.elim
  | ret => exact hp.elim
  | panic ch => exact hp.elim
  | outgrown => exact hp.elim

theorem marks2 {D D' : Nat} {A : HProp} (h : Sat w0 (pt D (.deferred (some [])) * (pt D' (.deferred (some [])) * A)) w) : Sat w0 (marks [D, D'] * A) w := h.to (by simp only [marks, star_hemp]; ac_rfl)
/-- What a range's body may turn (C), and what it finds and leaves (F). -/
theorem F_rangeK {α : Type} {g : Operand} {ps : Array Tmp} {assign body : Code} {gf : Nat} {first lb : Array Value} (hg : f.ev g = some (.func (.func gf) first lb)) (eg : ∀ args w, (callFunc gf args).run P w = .ok (.enter gf args) w)
    {It F : HProp} (encl : α → List Value) {xs : List α} (hit : Iter P (.func (.func gf) first lb) It (fun x => (encl x).toArray) xs) (pl : List Nat) (hpl : ps = pl.toArray) (hlen : ∀ x, (encl x).length = pl.length)
    (hpn : (pl.all fun d => Nat.blt d f.n) = true)
    (C : List α → HProp) (Cx : Code → List α → HProp) {R0 : HProp} (h0 : Sat w0 (It * ((C [] * F) * R0)) w)
    (hround : ∀ (l : Nat) (pre : List α) (x : α) (post : List α) (R : HProp) (W : World), xs = pre ++ x :: post → Sat w0 ((C pre * F) * R) W →
      wpF P (some l) assign (thenF (fun f₁ W₁ => ∃ M : HProp, Sat w0 (M * R) W₁ ∧ ∀ R' W', Sat w0 (M * R') W' → wpF P (some l) body (roundF w0 (fun l => C l * F) (fun c l => Cx c l * F) R' (pre ++ [x])) f₁ W') (fun _ _ _ => False))
        ⟨f.n, [], putAll f.l (pl.zip (encl x))⟩ W)
    (hdone : ∀ (D : Nat) (W : World), Sat w0 (pt D (.deferred (some [])) * (It * ((C xs * F) * R0))) W → Q .normal ⟨f.n, D :: f.ds, f.l⟩ W)
    (hstop : ∀ (D : Nat) (c : Code) (pre : List α) (W : World), pre <+: xs → Sat w0 (pt D (.deferred (some [])) * (It * ((Cx c pre * F) * R0))) W → wpF P none c Q ⟨f.n, D :: f.ds, f.l⟩ W) :
    wpF P none (.rangeFunc g ps assign body) Q f w :=
  F_range hg eg encl hit pl hpl hlen hpn (fun l => C l * F) (fun c l => Cx c l * F) h0 hround hdone hstop
theorem F_rangeKA {α : Type} {g : Operand} {ps : Array Tmp} {assign body : Code} {gf : Nat} {first lb : Array Value} (hg : f.ev g = some (.func (.func gf) first lb)) (eg : ∀ args w, (callFunc gf args).run P w = .ok (.enter gf args) w)
    {A It F : HProp} (encl : α → List Value) {xs : List α} (hit : IterA P (.func (.func gf) first lb) A It (fun x => (encl x).toArray) xs) (pl : List Nat) (hpl : ps = pl.toArray) (hlen : ∀ x, (encl x).length = pl.length)
    (hpn : (pl.all fun d => Nat.blt d f.n) = true)
    (C : List α → HProp) (Cx : Code → List α → HProp) {R0 : HProp} (h0 : Sat w0 (It * ((A * (C [] * F)) * R0)) w)
    (hround : ∀ (l : Nat) (pre : List α) (x : α) (post : List α) (R : HProp) (W : World), xs = pre ++ x :: post → Sat w0 ((A * (C pre * F)) * R) W →
      wpF P (some l) assign (thenF (fun f₁ W₁ => ∃ M : HProp, Sat w0 (M * R) W₁ ∧ ∀ R' W', Sat w0 (M * R') W' → wpF P (some l) body (roundF w0 (fun l => A * (C l * F)) (fun c l => A * (Cx c l * F)) R' (pre ++ [x])) f₁ W') (fun _ _ _ => False))
        ⟨f.n, [], putAll f.l (pl.zip (encl x))⟩ W)
    (hdone : ∀ (D : Nat) (W : World), Sat w0 (pt D (.deferred (some [])) * (It * ((A * (C xs * F)) * R0))) W → Q .normal ⟨f.n, D :: f.ds, f.l⟩ W)
    (hstop : ∀ (D : Nat) (c : Code) (pre : List α) (W : World), pre <+: xs → Sat w0 (pt D (.deferred (some [])) * (It * ((A * (Cx c pre * F)) * R0))) W → wpF P none c Q ⟨f.n, D :: f.ds, f.l⟩ W) :
    wpF P none (.rangeFunc g ps assign body) Q f w :=
  F_rangeA hg eg encl hit pl hpl hlen hpn (fun l => C l * F) (fun c l => Cx c l * F) h0 hround hdone hstop
end
end Go.Sl
