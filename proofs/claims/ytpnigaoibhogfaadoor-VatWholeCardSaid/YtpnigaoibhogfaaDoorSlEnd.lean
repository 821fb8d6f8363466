/- YtpnigaoibhogfaaDoorSlEnd: a part of the proof: walks over the translated code, and plain facts on lists beside. -/
import Derived.Test.YtpnigaoibhogfaaDoorSlOps
set_option linter.all false
namespace Go.Sl
open Go Go.RowKit

/-! ### A function's own ends -/
section
variable {P : Program} {f : Fr} {w w0 : World} {R : Value → World → Prop} {fn : Func}

/-- The activation returns. -/
def endF (P : Program) (fn : Func) (R : Value → World → Prop) : Exit → Fr → World → Prop := fun e f w =>
  (match e with | .normal => True | .ret => True | _ => False) ∧
    ∃ v w0 A, Sat w0 (marks f.ds * A) w ∧ ∀ a w', Ok f a → Sat w0 A w' → (results fn a.tmps).run P w' = .ok v w' ∧ R v w'

theorem leaves_of_endF {a : Act} {v : Value} {A : HProp} : ∀ (ds : List Nat) (w : World), Sat w0 (marks ds * A) w →
    (∀ w', Sat w0 A w' → (results fn a.tmps).run P w' = .ok v w' ∧ R v w') → LeavesInM (FR none) 0 P fn a.tmps (ret R) (markL ds) .returning w
  | [], w, hS, h => by
    obtain ⟨h1, h2⟩ := h w (hS.to (hemp_star _))
    exact ⟨v, h1, v, rfl, h2⟩
  | D :: ds, w, hS, h => by
    have hS' : Sat w0 (pt D (.deferred (some [])) * (marks ds * A)) w := hS.to (star_assoc _ _ _)
    refine ⟨by simp, .inl ⟨D, _, rfl, run_takeDeferred hS'.at, ?_⟩⟩
    exact leaves_of_endF ds _ (hS'.putObj (o' := .deferred none)).drop h

theorem enterF {k : Nat} {c : Code} {args : List Value} (hf : P.funcs[k]? = some fn) (hb : fn.body = some c) {n : Nat} (hn : fn.ntmps = n) {L : List (Nat × Value)}
    (hL : ((List.range args.length).zip args) = L) (hlen : Nat.ble args.length n = true)
    (h : wpF P none c (endF P fn R) ⟨n, [], L⟩ w) : Calls P k args.toArray w (ret R) := by
  subst hn
  subst hL
  have hle : args.length ≤ fn.ntmps := by simpa using hlen
  refine calls_of_FR (n := 0) (ro := none) (callsIn_of_wp_marks hf hb trivial (wpIn_mono (h _ ⟨?_, rfl, ?_⟩) ?_))
  · simp; omega
  · intro i v hv
    have hm := look_mem hv
    rw [List.mem_iff_getElem?] at hm
    obtain ⟨j, hj⟩ := hm
    rw [List.getElem?_zip_eq_some] at hj
    obtain ⟨h1, h2⟩ := hj
    have hlt := (List.getElem?_eq_some_iff.1 h2).1
    rw [List.getElem?_range hlt] at h1
    simp at h1
    subst h1
    have : j < args.toArray.size := by simpa using hlt
    simp only [Array.getElem?_append, this, if_true]
    simpa using h2
  · rintro e a' w' ⟨g, hg, h1, v, w0, A, hS, hend⟩
    have : LeavesInM (FR none) 0 P fn a'.tmps (ret R) a'.defers .returning w' := by
      rw [hg.2.1]
      exact leaves_of_endF g.ds w' hS (fun w'' hw'' => hend a' w'' hg hw'')
    cases e with
    | normal => exact this
    | ret => exact this
    | exit id => exact h1.elim
    | goto l => exact h1.elim
    | panic ch => exact h1.elim
    | outgrown => exact h1.elim

def resV (f : Fr) : List ResultVar → Option (List Value)
  | [] => some []
  | .tmp t :: r => match look f.l t with
    | some v => match resV f r with
      | some vs => some (v :: vs)
      | none => none
    | none => none
  | .cell _ _ :: _ => none
def oneRes : List Value → Value
  | [v] => v
  | vs => .tuple vs.toArray

theorem results_resV {a : Act} (ha : Ok f a) {vs : List Value} {rs : List ResultVar} (hr : fn.results.toList = rs) (h : resV f rs = some vs) (w : World) : (results fn a.tmps).run P w = .ok (oneRes vs) w := by
  have key : ∀ (rs : List ResultVar) (vs : List Value), resV f rs = some vs →
      (rs.mapM (m := Sem) fun | .tmp t => pure (a.tmps.getD t undef) | .cell b t => do loadVar t (← asAddr (a.tmps.getD b undef))).run P w = .ok vs w := by
    intro rs
    induction rs with
    | nil => intro vs h; simp [resV] at h; subst h; simp
    | cons x rs ih =>
      intro vs h
      cases x with
      | cell b t => simp [resV] at h
      | tmp t =>
        unfold resV at h
        split at h
        · rename_i v hv
          split at h
          · rename_i us hus
            cases h
            have e : a.tmps.getD t undef = v := ha.ev (x := .tmp t) hv
            rw [List.mapM_cons]
            simp only [Sem.run_bind, Sem.run_pure, Result.andThen, e, ih us hus]
          · cases h
        · cases h
  have hk := key rs vs h
  have hsz : vs.length = fn.results.size := by
    have hl : ∀ (rs : List ResultVar) (vs : List Value), resV f rs = some vs → vs.length = rs.length := by
      intro rs
      induction rs with
      | nil => intro vs h; simp [resV] at h; subst h; rfl
      | cons x rs ih =>
        intro vs h
        cases x with
        | cell b t => simp [resV] at h
        | tmp t =>
          unfold resV at h
          split at h
          · split at h
            · rename_i us hus; cases h; simp [ih us hus]
            · cases h
          · cases h
    rw [hl rs vs h, ← hr]; simp
  have e : (fn.results.mapM (m := Sem) fun | .tmp t => pure (a.tmps.getD t undef) | .cell b t => do loadVar t (← asAddr (a.tmps.getD b undef))).run P w = .ok vs.toArray w := by
    rw [Array.mapM_eq_mapM_toList, hr]
    rw [Sem.run_map, hk]
    rfl
  unfold results
  rw [Sem.run_bind]
  refine (congrArg (fun r => Result.andThen r _) e).trans ?_
  show Sem.run P (pure (if h : vs.toArray.size = 1 then vs.toArray[0] else .tuple vs.toArray)) w = _
  rw [Sem.run_pure]
  congr 1
  unfold oneRes
  match vs with
  | [] => rfl
  | [v] => rfl
  | v :: u :: r => rfl

theorem end_sl {A : HProp} {vs : List Value} {rs : List ResultVar} {e : Exit} (he : (match e with | .normal => True | .ret => True | _ => False)) (hr : fn.results.toList = rs) (hv : resV f rs = some vs) (hS : Sat w0 (marks f.ds * A) w)
    (h : ∀ w', Sat w0 A w' → R (oneRes vs) w') : endF P fn R e f w :=
  ⟨he, oneRes vs, w0, A, hS, fun a w' ha hs => ⟨results_resV ha hr hv w', h w' hs⟩⟩
theorem end0 {A : HProp} {vs : List Value} {rs : List ResultVar} {e : Exit} (he : (match e with | .normal => True | .ret => True | _ => False)) (hds : f.ds = []) (hr : fn.results.toList = rs) (hv : resV f rs = some vs) (hS : Sat w0 A w)
    (h : ∀ w', Sat w0 A w' → R (oneRes vs) w') : endF P fn R e f w :=
  end_sl he hr hv (by rw [hds]; exact hS.to (hemp_star A).symm) h

/-- A drawn region over a world of which only so much is known. -/
theorem F_drawnS {ro : Option Nat} {Q : Exit → Fr → World → Prop} {p : Par} {id : Nat} {ops : Array Oper} {A : HProp} (hS : Sat w0 A w) (hm : P.follows .mixedOrders = true) (hp : p.ops = ops) (r : Plan)
    (hc : chk p (ancs p.ops.toList) p.ops.size r (Array.replicate p.ops.size false) = true)
    (h : ∀ w', Sat w0 A w' → wpR P p (Q .normal) r [] [] f w') : wpF P ro (.region id ops true) Q f w :=
  F_drawn hm hp r hc (h _ hS.drew)

theorem tn {K : Fr → World → Prop} {Q : Exit → Fr → World → Prop} (h : K f w) : thenF K Q .normal f w := h
theorem tr {K : Fr → World → Prop} {Q : Exit → Fr → World → Prop} (h : Q .ret f w) : thenF K Q .ret f w := h
theorem tx {K : Fr → World → Prop} {Q : Exit → Fr → World → Prop} {id : Nat} (h : Q (.exit id) f w) : thenF K Q (.exit id) f w := h
theorem bn {Q : Exit → Fr → World → Prop} {id : Nat} (h : Q .normal f w) : blockF id Q .normal f w := h
theorem br {Q : Exit → Fr → World → Prop} {id : Nat} (h : Q .ret f w) : blockF id Q .ret f w := h
theorem bx {Q : Exit → Fr → World → Prop} {id id' : Nat} (e : id' = id) (h : Q .normal f w) : blockF id Q (.exit id') f w := by show (if id' = id then _ else _); rw [if_pos e]; exact h
theorem bm {Q : Exit → Fr → World → Prop} {id id' : Nat} (e : ¬ id' = id) (h : Q (.exit id') f w) : blockF id Q (.exit id') f w := by show (if id' = id then _ else _); rw [if_neg e]; exact h

/-- A truth that a guard asks is parted. -/
theorem R_case {p : Par} {K : Fr → World → Prop} {r : Plan} {h : Hist} {l : Lds} {t : Nat} {b : Bool} (ht : look f.l t = some (.bool b))
    (h1 : b = true → wpR P p K r h l (f.put t (.bool true)) w) (h2 : b = false → wpR P p K r h l (f.put t (.bool false)) w) : wpR P p K r h l f w := by
  have key : ∀ b', b = b' → wpR P p K r h l (f.put t (.bool b')) w → wpR P p K r h l f w := fun b' e H a ha => by
    refine H a ⟨ha.1, ha.2.1, fun i v hv => ?_⟩
    simp only [Fr.put, look] at hv
    cases e' : Nat.beq t i with
    | true =>
      rw [e'] at hv
      have := Nat.eq_of_beq_eq_true e'
      subst this
      cases hv
      exact ha.2.2 _ _ (by rw [ht, e])
    | false => rw [e'] at hv; exact ha.2.2 _ _ hv
  cases b with
  | true => exact key true rfl (h1 rfl)
  | false => exact key false rfl (h2 rfl)
theorem R_caseT {p : Par} {K : Fr → World → Prop} {r : Plan} {h : Hist} {l : Lds} {t : Nat} {b : Bool} (ht : look f.l t = some (.bool b)) (hb : b = true)
    (h1 : wpR P p K r h l (f.put t (.bool true)) w) : wpR P p K r h l f w := R_case ht (fun _ => h1) (fun e => by rw [hb] at e; cases e)
theorem R_caseF {p : Par} {K : Fr → World → Prop} {r : Plan} {h : Hist} {l : Lds} {t : Nat} {b : Bool} (ht : look f.l t = some (.bool b)) (hb : b = false)
    (h1 : wpR P p K r h l (f.put t (.bool false)) w) : wpR P p K r h l f w := R_case ht (fun e => by rw [hb] at e; cases e) (fun _ => h1)

/-! ### Turning an assertion's parts round -/
variable {A B C D E : HProp}
theorem _root_.Go.Sl.Sat.b2 (h : Sat w0 (A * (B * C)) w) : Sat w0 (B * (A * C)) w := h.to (by ac_rfl)
theorem _root_.Go.Sl.Sat.b3 (h : Sat w0 (A * (B * (C * D))) w) : Sat w0 (C * (A * (B * D))) w := h.to (by ac_rfl)
theorem _root_.Go.Sl.Sat.f3 (h : Sat w0 (C * (A * (B * D))) w) : Sat w0 (A * (B * (C * D))) w := h.to (by ac_rfl)
theorem _root_.Go.Sl.Sat.b4 (h : Sat w0 (A * (B * (C * (D * E)))) w) : Sat w0 (D * (A * (B * (C * E)))) w := h.to (by ac_rfl)
theorem _root_.Go.Sl.Sat.f4 (h : Sat w0 (D * (A * (B * (C * E)))) w) : Sat w0 (A * (B * (C * (D * E)))) w := h.to (by ac_rfl)
theorem _root_.Go.Sl.Sat.push {L : List (Nat × Obj)} {x : Nat × Obj} {R : HProp} (h : Sat w0 (pt x.1 x.2 * (blks L * R)) w) : Sat w0 (blks (x :: L) * R) w := h.to (star_assoc _ _ _).symm
theorem _root_.Go.Sl.Sat.pop {L : List (Nat × Obj)} {x : Nat × Obj} {R : HProp} (h : Sat w0 (blks (x :: L) * R) w) : Sat w0 (blks [x] * (blks L * R)) w := h.to (by simp only [blks]; ac_rfl)
theorem _root_.Go.Sl.Sat.unpop {L : List (Nat × Obj)} {x : Nat × Obj} {R : HProp} (h : Sat w0 (blks [x] * (blks L * R)) w) : Sat w0 (blks (x :: L) * R) w := h.to (by simp only [blks]; ac_rfl)
theorem _root_.Go.Sl.Sat.noblks {R : HProp} (h : Sat w0 R w) : Sat w0 (blks [] * R) w := h.to (hemp_star R).symm
theorem _root_.Go.Sl.Sat.unblks {R : HProp} (h : Sat w0 (blks [] * R) w) : Sat w0 R w := h.to (hemp_star R)

theorem O_boxS {x : Operand} {p : Par} {K : Fr → World → Prop} {r : Plan} {h : Hist} {l : Lds} {i : Nat} {v : Value} {ty : TypeId} {pos : String} {after : Array Edge} {dst : Option Nat} {g : Option (Nat × Bool)} {t : TypeId} {L : List (Nat × Obj)} {R : HProp} (hS : Sat w0 (blks L * R) w) (ho : p.ops[i]? = some ⟨dst, .box t x, ty, pos, after, g⟩) (hk : p.kind i = 2) (hw : wantF f p.ops ⟨dst, .box t x, ty, pos, after, g⟩ = some true) (hn : dstOk f dst = true)
    (hx : f.ev x = some v) (hl : ∀ b w', Sat w0 (blks ((b, .cells v.cells t) :: L) * R) w' → ldsOk p i l w')
    (H : ∀ b w', Sat w0 (blks ((b, .cells v.cells t) :: L) * R) w' → wpR P p K r (pushH p i w h) l (putd f dst (.pointer (some ⟨b, 0, none⟩))) w') : wpR P p K (.one i r) h l f w :=
  O_box hS ho hk hw hn hx (fun b w' hS' => hl b w' (Sat.push (x := (b, _)) hS')) (fun b w' hS' => H b w' (Sat.push (x := (b, _)) hS'))
theorem O_allocS {p : Par} {K : Fr → World → Prop} {r : Plan} {h : Hist} {l : Lds} {i : Nat} {z : Value} {ty : TypeId} {pos : String} {after : Array Edge} {dst : Option Nat} {g : Option (Nat × Bool)} {t : TypeId} {L : List (Nat × Obj)} {R : HProp} (hS : Sat w0 (blks L * R) w) (ho : p.ops[i]? = some ⟨dst, .alloc t, ty, pos, after, g⟩) (hk : p.kind i = 2) (hw : wantF f p.ops ⟨dst, .alloc t, ty, pos, after, g⟩ = some true) (hn : dstOk f dst = true)
    (hz : ∀ w, (zeroValue t).run P w = .ok z w) (hl : ∀ b w', Sat w0 (blks ((b, .cells z.cells t) :: L) * R) w' → ldsOk p i l w')
    (H : ∀ b w', Sat w0 (blks ((b, .cells z.cells t) :: L) * R) w' → wpR P p K r (pushH p i w h) l (putd f dst (.pointer (some ⟨b, 0, none⟩))) w') : wpR P p K (.one i r) h l f w :=
  O_alloc hS ho hk hw hn hz (fun b w' hS' => hl b w' (Sat.push (x := (b, _)) hS')) (fun b w' hS' => H b w' (Sat.push (x := (b, _)) hS'))


/-! ### Builtins that only reckon -/
variable {p : Par} {K : Fr → World → Prop} {r : Plan} {h : Hist} {l : Lds} {i : Nat} {v : Value} {ty : TypeId} {pos : String} {after : Array Edge} {dst : Option Nat} {g : Option (Nat × Bool)}
theorem run_builtin {b : Builtin} {as_ : Array Operand} {ts : Array TypeId} {vs : List Value} {ρ : Operand → Value} (hρ : as_.toList.map ρ = vs) {s : Sem Value}
    (hb : ∀ cs, builtin b ts ty cs vs.toArray = (do pure (.value (← s)))) (hs : s.run P w = .ok v w) : rd P (execOp ρ ⟨dst, .call ⟨.builtin b, as_, ts⟩, ty, pos, after, g⟩) w v := by
  have e1 : as_.map ρ = vs.toArray := map_toArray hρ
  simp only [rd, execOp, resolve, e1]
  simp only [Sem.run_bind, Sem.run_pure, Result.andThen, invoke, hb, hs]
theorem O_max2 {x y : Operand} {ts : Array TypeId} {k : IntKind} {a b : Int} (ho : p.ops[i]? = some ⟨dst, .call ⟨.builtin .max, #[x, y], ts⟩, ty, pos, after, g⟩) (hk : p.kind i = 0) (hw : wantF f p.ops ⟨dst, .call ⟨.builtin .max, #[x, y], ts⟩, ty, pos, after, g⟩ = some true) (hn : dstOk f dst = true)
    (hx : f.ev x = some (.int k a)) (hy : f.ev y = some (.int k b)) (H : wpR P p K r h l (putd f dst (.int k (max a b))) w) : wpR P p K (.one i r) h l f w :=
  R_soft ho rfl hk hw hn (fun ρ w' hρ => run_builtin (vs := [.int k a, .int k b]) (by simp [hρ _ _ hx, hρ _ _ hy]) (fun _ => rfl) (by
    have e : max a b = if b > a then b else a := by rw [Int.max_def]; split <;> split <;> omega
    rw [e]; rfl)) H
theorem O_min2 {x y : Operand} {ts : Array TypeId} {k : IntKind} {a b : Int} (ho : p.ops[i]? = some ⟨dst, .call ⟨.builtin .min, #[x, y], ts⟩, ty, pos, after, g⟩) (hk : p.kind i = 0) (hw : wantF f p.ops ⟨dst, .call ⟨.builtin .min, #[x, y], ts⟩, ty, pos, after, g⟩ = some true) (hn : dstOk f dst = true)
    (hx : f.ev x = some (.int k a)) (hy : f.ev y = some (.int k b)) (H : wpR P p K r h l (putd f dst (.int k (min a b))) w) : wpR P p K (.one i r) h l f w :=
  R_soft ho rfl hk hw hn (fun ρ w' hρ => run_builtin (vs := [.int k a, .int k b]) (by simp [hρ _ _ hx, hρ _ _ hy]) (fun _ => rfl) (by
    have e : min a b = if b < a then b else a := by rw [Int.min_def]; split <;> split <;> omega
    rw [e]; rfl)) H
theorem O_lenSl {x : Operand} {t e : TypeId} {ad : Option Addr} {n c : Nat} (ho : p.ops[i]? = some ⟨dst, .call ⟨.builtin .len, #[x], #[t]⟩, ty, pos, after, g⟩) (hk : p.kind i = 0) (hw : wantF f p.ops ⟨dst, .call ⟨.builtin .len, #[x], #[t]⟩, ty, pos, after, g⟩ = some true) (hn : dstOk f dst = true)
    (hx : f.ev x = some (.slice ad n c)) (hu : ∀ w, (underlying t).run P w = .ok (.slice e) w) (H : wpR P p K r h l (putd f dst (.int .i64 n)) w) : wpR P p K (.one i r) h l f w :=
  R_soft ho rfl hk hw hn (fun ρ w' hρ => run_builtin (vs := [.slice ad n c]) (by simp [hρ _ _ hx]) (fun _ => rfl) (by
    simp [Builtin.len_, Sem.run_bind, hu, Result.andThen, goInt])) H
theorem O_lenStr {x : Operand} {t : TypeId} {s : ByteArray} (ho : p.ops[i]? = some ⟨dst, .call ⟨.builtin .len, #[x], #[t]⟩, ty, pos, after, g⟩) (hk : p.kind i = 0) (hw : wantF f p.ops ⟨dst, .call ⟨.builtin .len, #[x], #[t]⟩, ty, pos, after, g⟩ = some true) (hn : dstOk f dst = true)
    (hx : f.ev x = some (.string s)) (hu : ∀ w, (underlying t).run P w = .ok .string w) (H : wpR P p K r h l (putd f dst (.int .i64 s.size)) w) : wpR P p K (.one i r) h l f w :=
  R_soft ho rfl hk hw hn (fun ρ w' hρ => run_builtin (vs := [.string s]) (by simp [hρ _ _ hx]) (fun _ => rfl) (by
    simp [Builtin.len_, Sem.run_bind, hu, Result.andThen, goInt])) H

/-! ### A struct of parts -/
def _root_.Go.Sl.Fr.evp (f : Fr) : List (Nat × Operand) → Option (List (Nat × Value))
  | [] => some []
  | x :: r => match f.ev x.2 with
    | some v => match f.evp r with
      | some vs => some ((x.1, v) :: vs)
      | none => none
    | none => none
theorem evp_map {f : Fr} {ρ : Operand → Value} (hρ : ∀ x u, f.ev x = some u → ρ x = u) : ∀ {xs : List (Nat × Operand)} {vs : List (Nat × Value)}, f.evp xs = some vs → xs.map (fun (i, x) => (i, ρ x)) = vs
  | [], vs, h => by simp [Fr.evp] at h; subst h; rfl
  | x :: xs, vs, h => by
    unfold Fr.evp at h
    split at h
    · rename_i u hu
      split at h
      · rename_i us' hus
        cases h
        simp [hρ x.2 u hu, evp_map hρ hus]
      · cases h
    · cases h
theorem O_build {t : TypeId} {parts : Array (Nat × Operand)} {vs : List (Nat × Value)} (ho : p.ops[i]? = some ⟨dst, .build t parts, ty, pos, after, g⟩) (hk : p.kind i = 0) (hw : wantF f p.ops ⟨dst, .build t parts, ty, pos, after, g⟩ = some true) (hn : dstOk f dst = true)
    (hx : f.evp parts.toList = some vs) (hrun : ∀ w, (Instr.build t vs.toArray).run P w = .ok v w) (H : wpR P p K r h l (putd f dst v) w) : wpR P p K (.one i r) h l f w :=
  R_soft ho rfl hk hw hn (fun ρ w' hρ => by
    have e : parts.map (fun (i, x) => (i, ρ x)) = vs.toArray := map_toArray (evp_map hρ hx)
    simp only [rd, execOp]
    rw [e]
    simp only [Sem.run_bind, hrun, Result.andThen, Sem.run_pure]) H
def setsL : List Value → Nat → List Value → List Value
  | cs, _, [] => cs
  | cs, k, u :: us => setsL (cs.set k u) (k + 1) us
def fillL (pl : List (Nat × Nat)) : List Value → List (Nat × Value) → Option (List Value)
  | cs, [] => some cs
  | cs, (i, v) :: r => match pl[i]? with
    | none => none
    | some (off, size) => match Nat.beq v.cells.toList.length size, Nat.ble (off + v.cells.toList.length) cs.length with
      | true, true => fillL pl (setsL cs off v.cells.toList) r
      | _, _ => none
theorem setsL_len : ∀ (us cs : List Value) (k : Nat), (setsL cs k us).length = cs.length
  | [], _, _ => rfl
  | u :: us, cs, k => by rw [setsL, setsL_len us]; simp
theorem setsL_fold : ∀ (us : List Value) (cs : List Value) (k j : Nat), ((us.zipIdx j).foldl (fun (cs : Array Value) (x : Value × Nat) => cs.setIfInBounds (k + x.2) x.1) cs.toArray) = (setsL cs (k + j) us).toArray
  | [], _, _, _ => rfl
  | u :: us, cs, k, j => by
    rw [List.zipIdx_cons, List.foldl_cons, setsL, Nat.add_assoc k j 1, ← setsL_fold us (cs.set (k + j) u) k (j + 1)]
    simp
theorem fillL_spec {pl : List (Nat × Nat)} : ∀ {vs : List (Nat × Value)} {cs cs' : List Value}, fillL pl cs vs = some cs' → Instr.fill (fun j => pl[j]?) cs.toArray vs = some cs'.toArray
  | [], cs, cs', h => by simp [fillL] at h; subst h; rfl
  | (i, v) :: r, cs, cs', h => by
    unfold fillL at h
    split at h
    · cases h
    · rename_i off size hp
      split at h
      · rename_i e1 e2
        have h1 : v.cells.size = size := by have := Nat.eq_of_beq_eq_true e1; simpa using this
        have h2 : off + v.cells.size ≤ cs.length := by simpa using e2
        unfold Instr.fill
        simp only [hp]
        rw [if_neg (by simp; omega)]
        have e : Array.foldl (fun (cs : Array Value) (x : Value × Nat) => cs.setIfInBounds (off + x.2) x.1) cs.toArray v.cells.zipIdx = (setsL cs off v.cells.toList).toArray := by
          rw [← Array.foldl_toList, Array.toList_zipIdx]
          exact setsL_fold v.cells.toList cs off 0
        have := fillL_spec h
        rw [← e] at this
        exact this
      · cases h
def SzOk (P : Program) (sz : Field → Nat) : List Field → Prop
  | [] => True
  | x :: r => (∀ w, (Go.sizeOf x.type).run P w = .ok (sz x) w) ∧ SzOk P sz r
theorem SzOk.spec {P : Program} {sz : Field → Nat} : ∀ {l : List Field}, SzOk P sz l → ∀ x ∈ l, ∀ w, (Go.sizeOf x.type).run P w = .ok (sz x) w
  | [], _, _, h => by cases h
  | y :: l, hh, x, h => by
    rcases List.mem_cons.1 h with e | e
    · subst e; exact hh.1
    · exact hh.2.spec x e
theorem run_buildS {t : TypeId} {vs : List (Nat × Value)} {z : Value} {fs : Array Field} (cs : List Value) (hz : ∀ w, (zeroValue t).run P w = .ok z w) (hu : ∀ w, (underlying t).run P w = .ok (.struct fs) w)
    (sz : Field → Nat) (hs' : SzOk P sz fs.toList) (hf : fillL (fs.toList.map fun x => (x.offset, sz x)) z.cells.toList vs = some cs) (w : World) : (Instr.build t vs.toArray).run P w = .ok (.agg cs.toArray) w := by
  have hs := hs'.spec
  have hm : ∀ (l : List Field), (∀ x ∈ l, ∀ w, (sizeOf x.type).run P w = .ok (sz x) w) → (l.mapM (m := Sem) fun f => do pure (f.offset, ← sizeOf f.type)).run P w = .ok (l.map fun x => (x.offset, sz x)) w := by
    intro l
    induction l with
    | nil => intro _; rfl
    | cons x l ih =>
      intro h
      rw [List.mapM_cons]
      simp only [Sem.run_bind, h x (List.mem_cons_self ..), Result.andThen, Sem.run_pure, ih (fun y hy => h y (List.mem_cons_of_mem _ hy)), List.map_cons]
  have e : (fs.mapM (m := Sem) fun f => do pure (f.offset, ← sizeOf f.type)).run P w = .ok (fs.toList.map fun x => (x.offset, sz x)).toArray w := by
    rw [Array.mapM_eq_mapM_toList, Sem.run_map, hm _ hs]; rfl
  unfold Instr.build
  simp only [Sem.run_bind, hz, hu, Result.andThen]
  rw [e]
  have hf' : Instr.fill (fun x => (fs.toList.map fun x => (x.offset, sz x)).toArray[x]?) z.cells vs.toArray.toList = some cs.toArray := by
    have := fillL_spec hf
    simpa using this
  simp only [hf', Result.andThen, Sem.run_pure]
theorem _root_.Go.Sl.FV.of_list {k : Nat} {args cap : List Value} (eg : ∀ args w, (callFunc k args).run P w = .ok (.enter k args) w) (h : Calls P k (args ++ cap).toArray w (ret R)) : FV P (.func (.func k) #[] cap.toArray) args.toArray w R :=
  FV.of_calls eg (by simpa using h)
end
end Go.Sl
