/- YtpnigaoibhogfaaDoorSlFr: a part of the proof: walks over the translated code, and plain facts on lists beside. -/
import Derived.Test.YtpnigaoibhogfaaDoorSlReg
set_option linter.all false
namespace Go.Sl
open Go Go.RowKit

/-! ### Frames, as far as they are known -/

def look : List (Nat × Value) → Nat → Option Value
  | [], _ => none
  | (k, v) :: r, i => match Nat.beq k i with
    | true => some v
    | false => look r i

structure Fr where
  n : Nat
  ds : List Nat
  l : List (Nat × Value)

def Fr.put (f : Fr) (d : Nat) (v : Value) : Fr := { f with l := (d, v) :: f.l }
def Fr.ev (f : Fr) : Operand → Option Value
  | .tmp t => look f.l t
  | .const v => some v
  | .global g => some (.pointer (some ⟨g, 0, none⟩))
  | .func g => some (.func (.func g) #[] #[])
def Fr.evs (f : Fr) : List Operand → Option (List Value)
  | [] => some []
  | x :: r => match f.ev x with
    | some v => match f.evs r with
      | some vs => some (v :: vs)
      | none => none
    | none => none

def Ok (f : Fr) (a : Act) : Prop := a.tmps.size = f.n ∧ a.defers = markL f.ds ∧ ∀ i v, look f.l i = some v → a.tmps[i]? = some v

theorem Ok.ev {f : Fr} {a : Act} (h : Ok f a) {x : Operand} {v : Value} (hx : f.ev x = some v) : a.eval x = v := by
  cases x with
  | tmp t => have := h.2.2 t v hx; simp [Act.eval, Array.getD_eq_getD_getElem?, this]
  | const c => simpa [Fr.ev, Act.eval] using hx
  | global g => simpa [Fr.ev, Act.eval] using hx
  | func g => simpa [Fr.ev, Act.eval] using hx

theorem Ok.evs {f : Fr} {a : Act} (h : Ok f a) : ∀ {xs : List Operand} {vs : List Value}, f.evs xs = some vs → xs.map a.eval = vs
  | [], vs, hx => by simp [Fr.evs] at hx; subst hx; rfl
  | x :: xs, vs, hx => by
    unfold Fr.evs at hx
    split at hx
    · rename_i v hv
      split at hx
      · rename_i ws hws
        cases hx
        simp [h.ev hv, h.evs hws]
      · cases hx
    · cases hx

theorem Ok.put {f : Fr} {a : Act} (h : Ok f a) {d : Nat} {v : Value} (hd : Nat.blt d f.n = true) : Ok (f.put d v) (a.put (some d) v) := by
  have hlt : d < a.tmps.size := by rw [h.1]; simpa using hd
  refine ⟨by simp [Act.put, Fr.put, h.1], h.2.1, fun i u hu => ?_⟩
  simp only [Fr.put, look] at hu
  cases e : Nat.beq d i with
  | true =>
    rw [e] at hu
    have := Nat.eq_of_beq_eq_true e
    subst this
    cases hu
    simp [Act.put, hlt]
  | false =>
    rw [e] at hu
    have hne : d ≠ i := fun e' => by subst e'; simp at e
    simp [Act.put, Array.getElem?_setIfInBounds_ne hne, h.2.2 i u hu]

/-- What f knows of L's places is what L says. -/
def Sup (f : Fr) : List (Nat × Value) → Prop
  | [] => True
  | (i, v) :: r => look f.l i = some v ∧ Sup f r

theorem look_mem : ∀ {L : List (Nat × Value)} {i : Nat} {v : Value}, look L i = some v → (i, v) ∈ L
  | [], i, v, h => by cases h
  | (k, u) :: r, i, v, h => by
    unfold look at h
    cases e : Nat.beq k i with
    | true => rw [e] at h; cases h; have := Nat.eq_of_beq_eq_true e; subst this; exact List.mem_cons_self ..
    | false => rw [e] at h; exact List.mem_cons_of_mem _ (look_mem h)

theorem Sup.mem {f : Fr} : ∀ {L : List (Nat × Value)}, Sup f L → ∀ x ∈ L, look f.l x.1 = some x.2
  | [], _, _, h => by cases h
  | (k, u) :: r, hs, x, h => by
    rcases List.mem_cons.1 h with e | e
    · subst e; exact hs.1
    · exact hs.2.mem x e

theorem Ok.sup {f : Fr} {L : List (Nat × Value)} {a : Act} (h : Ok f a) (hs : Sup f L) : Ok ⟨f.n, f.ds, L⟩ a :=
  ⟨h.1, h.2.1, fun i v hv => h.2.2 i v (hs.mem _ (look_mem hv))⟩

/-! ### Code -/

def up (Q : Exit → Fr → World → Prop) : Exit → Act → World → Prop := fun e a w => ∃ f, Ok f a ∧ Q e f w
def wpF (P : Program) (ro : Option Nat) (c : Code) (Q : Exit → Fr → World → Prop) (f : Fr) (w : World) : Prop :=
  ∀ a, Ok f a → c.wpIn (FR ro) 0 P (up Q) a w

def thenF (K : Fr → World → Prop) (Q : Exit → Fr → World → Prop) : Exit → Fr → World → Prop
  | .normal, f, w => K f w
  | e, f, w => Q e f w
def blockF (id : Nat) (Q : Exit → Fr → World → Prop) : Exit → Fr → World → Prop
  | .exit id', f, w => if id' = id then Q .normal f w else Q (.exit id') f w
  | e, f, w => Q e f w

section
variable {P : Program} {ro : Option Nat} {Q : Exit → Fr → World → Prop} {f : Fr} {w : World}

theorem wpF.mono {c : Code} {Q' : Exit → Fr → World → Prop} (h : wpF P ro c Q f w) (hq : ∀ e f w, Q e f w → Q' e f w) : wpF P ro c Q' f w :=
  fun a ha => wpIn_mono (h a ha) (fun e a w ⟨g, hg, hQ⟩ => ⟨g, hg, hq _ _ _ hQ⟩)
theorem wpF.sup {c : Code} {L : List (Nat × Value)} (h : wpF P ro c Q ⟨f.n, f.ds, L⟩ w) (hs : Sup f L) : wpF P ro c Q f w := fun a ha => h a (ha.sup hs)

theorem F_skip (h : Q .normal f w) : wpF P ro .skip Q f w := fun _ ha => wpIn_skip ⟨f, ha, h⟩
theorem F_exit {id : Nat} (h : Q (.exit id) f w) : wpF P ro (.exit id) Q f w := fun _ ha => wpIn_exit ⟨f, ha, h⟩
theorem F_ret (h : Q .ret f w) : wpF P ro .ret Q f w := fun _ ha => wpIn_ret ⟨f, ha, h⟩
theorem F_seq {x y : Code} (h : wpF P ro x (thenF (wpF P ro y Q) Q) f w) : wpF P ro (.seq x y) Q f w := fun a ha =>
  wpIn_seq (wpIn_mono (h a ha) (fun e a' w' ⟨g, hg, hQ⟩ => by
    cases e with
    | normal => exact hQ a' hg
    | exit id => exact ⟨g, hg, hQ⟩
    | goto l => exact ⟨g, hg, hQ⟩
    | ret => exact ⟨g, hg, hQ⟩
    | panic ch => exact ⟨g, hg, hQ⟩
    | outgrown => exact ⟨g, hg, hQ⟩))
theorem F_block {id : Nat} {c : Code} (h : wpF P ro c (blockF id Q) f w) : wpF P ro (.block id c) Q f w := fun a ha =>
  wpIn_block (wpIn_mono (h a ha) (fun e a' w' ⟨g, hg, hQ⟩ => by
    cases e with
    | exit id' =>
      simp only [blockF] at hQ
      simp only [Exit.inBlock]
      split
      · rename_i e; rw [if_pos e] at hQ; exact ⟨g, hg, hQ⟩
      · rename_i e; rw [if_neg e] at hQ; exact ⟨g, hg, hQ⟩
    | normal => exact ⟨g, hg, hQ⟩
    | goto l => exact ⟨g, hg, hQ⟩
    | ret => exact ⟨g, hg, hQ⟩
    | panic ch => exact ⟨g, hg, hQ⟩
    | outgrown => exact ⟨g, hg, hQ⟩))
theorem F_cond {c : Operand} {x y : Code} {t : Bool} (hc : f.ev c = some (.bool t)) (ht : t = true → wpF P ro x Q f w) (hf : t = false → wpF P ro y Q f w) : wpF P ro (.cond c x y) Q f w := fun a ha => by
  refine wpIn_cond_split (t := t) (ha.ev hc) (fun h => ht h a ha) (fun h => hf h a ha)
theorem F_true {c : Operand} {x y : Code} {t : Bool} (hc : f.ev c = some (.bool t)) (ht : t = true) (h : wpF P ro x Q f w) : wpF P ro (.cond c x y) Q f w :=
  F_cond hc (fun _ => h) (fun h' => by rw [ht] at h'; cases h')
theorem F_false {c : Operand} {x y : Code} {t : Bool} (hc : f.ev c = some (.bool t)) (ht : t = false) (h : wpF P ro y Q f w) : wpF P ro (.cond c x y) Q f w :=
  F_cond hc (fun h' => by rw [ht] at h'; cases h') (fun _ => h)

/-- A loop: at its head the frame is L x and the world has A x. -/
theorem F_loop {c : Code} {α : Type} (L : α → List (Nat × Value)) (A : α → World → Prop) (μ : α → Nat) (x0 : α) (hL : Sup f (L x0)) (h0 : A x0 w)
    (round : ∀ x w, A x w → wpF P ro c (thenF (fun g w' => g.n = f.n ∧ g.ds = f.ds ∧ ∃ x', Sup g (L x') ∧ A x' w' ∧ μ x' < μ x) Q) ⟨f.n, f.ds, L x⟩ w) : wpF P ro (.loop c) Q f w := fun a ha => by
  classical
  have hm : ∃ μ' : Act → World → Nat, ∀ a w x, Ok ⟨f.n, f.ds, L x⟩ a → A x w → True := ⟨fun _ _ => 0, fun _ _ _ _ _ => trivial⟩
  -- the measure: the least of those that fit
  let fits : Act → World → Nat → Prop := fun a w m => ∃ x, Ok ⟨f.n, f.ds, L x⟩ a ∧ A x w ∧ μ x = m
  have key : ∀ m a w, (∃ x, Ok ⟨f.n, f.ds, L x⟩ a ∧ A x w ∧ μ x ≤ m) → ∀ (b : Frame) (k : List Item) (cs : List Frame), b.roundOf = (FR ro).round → (FR ro).fn b.fn → (FR ro).room (cs.length + 1 + 0) →
      ∃ e a' w', up Q e a' w' ∧ ArrivesIn (Machine.fenced P (FR ro)) P (lone (b.atR a (.code c :: .inLoop c :: k)) cs w) b k cs e a' w' := by
    intro m
    induction m with
    | zero =>
      rintro a w ⟨x, hx, hA, hle⟩ b k cs hro hb hr
      obtain ⟨e, a₁, w₁, ⟨g, hg, hq⟩, harr⟩ := round x w hA a hx b (.inLoop c :: k) cs hro hb hr
      cases e with
      | normal =>
        obtain ⟨_, _, x', _, _, hlt⟩ := hq
        omega
      | exit id => exact ⟨_, a₁, w₁, ⟨g, hg, hq⟩, .pass (x := .inLoop c) rfl (fun _ _ => .inl (by simp)) harr⟩
      | goto l => exact ⟨_, a₁, w₁, ⟨g, hg, hq⟩, .pass (x := .inLoop c) rfl (fun _ _ => .inl (by simp)) harr⟩
      | ret => exact ⟨_, a₁, w₁, ⟨g, hg, hq⟩, .pass (x := .inLoop c) rfl (fun _ _ => .inl (by simp)) harr⟩
      | panic ch => exact ⟨_, a₁, w₁, ⟨g, hg, hq⟩, .pass (x := .inLoop c) rfl (fun _ _ => .inl (by simp)) harr⟩
      | outgrown => exact ⟨_, a₁, w₁, ⟨g, hg, hq⟩, .pass (x := .inLoop c) rfl (fun _ _ => .inl (by simp)) harr⟩
    | succ m ih =>
      rintro a w ⟨x, hx, hA, hle⟩ b k cs hro hb hr
      obtain ⟨e, a₁, w₁, ⟨g, hg, hq⟩, harr⟩ := round x w hA a hx b (.inLoop c :: k) cs hro hb hr
      cases e with
      | normal =>
        obtain ⟨e1, e2, x', hs', hA', hlt⟩ := hq
        have hok : Ok ⟨f.n, f.ds, L x'⟩ a₁ := by have := hg.sup hs'; rw [e1, e2] at this; exact this
        obtain ⟨e₂, a₂, w₂, hq₂, harr₂⟩ := ih a₁ w₁ ⟨x', hok, hA', by omega⟩ b k cs hro hb hr
        exact ⟨e₂, a₂, w₂, hq₂, .of_steps (StepsIn.trans harr (.one (fenced_calm hb hr rfl) stepR_inLoop)) harr₂⟩
      | exit id => exact ⟨_, a₁, w₁, ⟨g, hg, hq⟩, .pass (x := .inLoop c) rfl (fun _ _ => .inl (by simp)) harr⟩
      | goto l => exact ⟨_, a₁, w₁, ⟨g, hg, hq⟩, .pass (x := .inLoop c) rfl (fun _ _ => .inl (by simp)) harr⟩
      | ret => exact ⟨_, a₁, w₁, ⟨g, hg, hq⟩, .pass (x := .inLoop c) rfl (fun _ _ => .inl (by simp)) harr⟩
      | panic ch => exact ⟨_, a₁, w₁, ⟨g, hg, hq⟩, .pass (x := .inLoop c) rfl (fun _ _ => .inl (by simp)) harr⟩
      | outgrown => exact ⟨_, a₁, w₁, ⟨g, hg, hq⟩, .pass (x := .inLoop c) rfl (fun _ _ => .inl (by simp)) harr⟩
  intro b k cs hro hb hr
  obtain ⟨e, a', w', hq, harr⟩ := key (μ x0) a w ⟨x0, ha.sup hL, h0, Nat.le_refl _⟩ b k cs hro hb hr
  exact ⟨e, a', w', hq, .of_steps (.one (fenced_calm hb hr rfl) stepR_loop) harr⟩

/-! ### Regions -/

/-- Not in the list of those that conflict. -/
def Par.calm (p : Par) (i : Nat) : Bool := p.cf.all fun x => !(Nat.beq x.1 i) && !(Nat.beq x.2 i)
theorem calm_inc {p : Par} {i j : Nat} (h : p.calm i = true) : inc p.cf i j = false := by
  have key : ∀ x ∈ p.cf, x.1 ≠ i ∧ x.2 ≠ i := fun x hx => by
    have := (List.all_eq_true.1 h) x hx
    simp only [Bool.and_eq_true, Bool.not_eq_true'] at this
    exact ⟨fun e => by rw [e] at this; simp at this, fun e => by rw [e] at this; simp at this⟩
  have h1 : ¬ (j, i) ∈ p.cf := fun hh => (key (j, i) hh).2 rfl
  have h2 : ¬ (i, j) ∈ p.cf := fun hh => (key (i, j) hh).1 rfl
  simp [inc, h1, h2]
theorem calm_inc' {p : Par} {i j : Nat} (h : p.calm i = true) : inc p.cf j i = false := by rw [inc_comm]; exact calm_inc h

def WeakH (p : Par) (h' h : Hist) : Prop := ∀ x ∈ h', x ∈ h ∨ p.calm x.1 = true
def WeakL (p : Par) (l' l : Lds) : Prop := ∀ x ∈ l', (∃ y ∈ l, y.1 = x.1 ∧ ∀ w, y.2 w → x.2 w) ∨ p.calm x.1 = true ∨ ∀ w, x.2 w

def wpR (P : Program) (p : Par) (Q : Fr → World → Prop) (r : Plan) (h : Hist) (l : Lds) (f : Fr) (w : World) : Prop :=
  ∀ a, Ok f a → ∀ h' l', WeakH p h' h → WeakL p l' l → wpT P p (fun a w => ∃ g, Ok g a ∧ Q g w) r h' l' a w

theorem F_region {p : Par} {id : Nat} {ops : Array Oper} (hp : p.ops = ops) (r : List Nat) (hr : List.range ops.size = r)
    (h : wpR P p (Q .normal) (.ofList r) [] [] f w) : wpF P ro (.region id ops false) Q f w := fun a ha => by
  subst hp
  refine wpIn_plain ?_
  have := h a ha [] [] (fun x hx => by cases hx) (fun x hx => by cases hx)
  rw [hr]
  exact this
theorem F_drawn {p : Par} {id : Nat} {ops : Array Oper} (hm : P.follows .mixedOrders = true) (hp : p.ops = ops) (r : Plan)
    (hc : chk p (ancs p.ops.toList) p.ops.size r (Array.replicate p.ops.size false) = true)
    (h : wpR P p (Q .normal) r [] [] f w.drew) : wpF P ro (.region id ops true) Q f w := fun a ha => by
  subst hp
  exact wpIn_drawn hm r hc (h a ha [] [] (fun x hx => by cases hx) (fun x hx => by cases hx))

variable {p : Par} {K : Fr → World → Prop} {r : Plan} {h : Hist} {l : Lds} {i d : Nat} {v : Value} {ty : TypeId} {pos : String} {after : Array Edge}

theorem R_two {j : Nat} {s : Plan} (h1 : wpR P p K (.one i r) h l f w) (h2 : wpR P p K (.one j s) h l f w) : wpR P p K (.two i j r s) h l f w := fun a ha h' l' sh sl => ⟨h1 a ha h' l' sh sl, h2 a ha h' l' sh sl⟩
theorem R_nil (hq : K f w) : wpR P p K .done h l f w := fun _ ha _ _ _ _ => ⟨f, ha, hq⟩
theorem wpR.sup {L : List (Nat × Value)} (H : wpR P p K r h l ⟨f.n, f.ds, L⟩ w) (hs : Sup f L) : wpR P p K r h l f w := fun a ha => H a (ha.sup hs)

def plainOp : Op → Bool
  | .defer _ => false
  | .select .. => false
  | _ => true
theorem plainOp.spec {op : Op} (h : plainOp op = true) : (∀ c, op ≠ .defer c) ∧ (∀ cs b, op ≠ .select cs b) := by
  cases op <;> simp_all [plainOp]

/-- Does the guard say yes? -/
def wantF (f : Fr) (ops : Array Oper) (o : Oper) : Option Bool :=
  match o.guard with
  | none => some true
  | some (g, want) => match ops[g]? with
    | some og => match og.dst with
      | some t => match look f.l t with
        | some (.bool b) => some (match b, want with | true, true => true | false, false => true | _, _ => false)
        | some (.tuple _) => some false
        | _ => none
      | none => none
    | none => none

theorem wantF.spec {ops : Array Oper} {o : Oper} {b : Bool} {a : Act} (hw : wantF f ops o = some b) (ha : Ok f a) : Region.wanted o (yielded ops a.tmps) = b := by
  unfold wantF at hw
  split at hw
  · rename_i hg; cases hw; simp [Region.wanted, hg]
  · rename_i g want hg
    split at hw
    · rename_i og hog
      split at hw
      · rename_i t ht
        have hy : ∀ u, look f.l t = some u → yielded ops a.tmps g = (match u with | .bool b => some b | _ => none) := fun u hu => by
          have := ha.2.2 t u hu
          simp only [yielded, hog, Option.bind_some, ht, this]
          cases u <;> rfl
        split at hw
        · rename_i b' hb'
          cases hw
          simp only [Region.wanted, hg, hy _ hb']
          cases b' <;> cases want <;> rfl
        · rename_i c hc
          cases hw
          simp [Region.wanted, hg, hy _ hc]
        · cases hw
      · cases hw
    · cases hw

def putd (f : Fr) : Option Nat → Value → Fr
  | some d, v => f.put d v
  | none, _ => f
def dstOk (f : Fr) : Option Nat → Bool
  | some d => Nat.blt d f.n
  | none => true
theorem Ok.putd {a : Act} {o : Option Nat} (ha : Ok f a) (hd : dstOk f o = true) : Ok (putd f o v) (a.put o v) := by
  cases o with
  | none => exact ha
  | some d => exact ha.put hd

/-- The guard says no. -/
theorem R_skip {o : Oper} (ho : p.ops[i]? = some o) (hop : plainOp o.op = true) (hw : wantF f p.ops o = some false) (hn : dstOk f o.dst = true) (H : wpR P p K r h l (putd f o.dst undef) w) : wpR P p K (.one i r) h l f w := fun a ha h' l' sh sl =>
  ⟨o, ho, (plainOp.spec hop).1, (plainOp.spec hop).2, .inl ⟨wantF.spec hw ha, H _ (ha.putd hn) h' l' sh sl⟩⟩

/-- A value, whatever the world. -/
theorem R_soft {o : Oper} (ho : p.ops[i]? = some o) (hop : plainOp o.op = true) (hk : p.kind i = 0) (hw : wantF f p.ops o = some true) (hn : dstOk f o.dst = true)
    (hs : ∀ ρ w', (∀ x u, f.ev x = some u → ρ x = u) → rd P (execOp ρ o) w' v) (H : wpR P p K r h l (putd f o.dst v) w) : wpR P p K (.one i r) h l f w := fun a ha h' l' sh sl =>
  have hs' : ∀ w', rd P (execOp a.eval o) w' v := fun w' => hs a.eval w' (fun _ _ hx => ha.ev hx)
  ⟨o, ho, (plainOp.spec hop).1, (plainOp.spec hop).2, .inr (.inl ⟨wantF.spec hw ha, by omega, v, hs' w, fun _ w' => hs' w', fun x _ _ => hs' x.2,
    H _ (ha.putd hn) h' _ sh (fun x hx => by
      rcases List.mem_cons.1 hx with e | e
      · subst e; exact .inr (.inr hs')
      · exact sl x e)⟩)⟩

/-- A value that this world gives. -/
theorem R_read {o : Oper} (ho : p.ops[i]? = some o) (hop : plainOp o.op = true) (hk : p.kind i = 1) (hc : p.calm i = true) (hw : wantF f p.ops o = some true) (hn : dstOk f o.dst = true)
    (hs : ∀ ρ, (∀ x u, f.ev x = some u → ρ x = u) → rd P (execOp ρ o) w v) (H : wpR P p K r h l (putd f o.dst v) w) : wpR P p K (.one i r) h l f w := fun a ha h' l' sh sl =>
  ⟨o, ho, (plainOp.spec hop).1, (plainOp.spec hop).2, .inr (.inl ⟨wantF.spec hw ha, by omega, v, hs a.eval (fun _ _ hx => ha.ev hx), fun e => by omega, fun x _ hin => (by rw [calm_inc' hc] at hin; cases hin),
    H _ (ha.putd hn) h' _ sh (fun x hx => (by
      rcases List.mem_cons.1 hx with e | e
      · subst e; exact .inr (.inl hc)
      · exact sl x e))⟩)⟩

/-- A value that this world gives, and all worlds that may stand in its place. -/
theorem R_readc {o : Oper} (rp : World → Prop) (ho : p.ops[i]? = some o) (hop : plainOp o.op = true) (hk : p.kind i = 1) (hw : wantF f p.ops o = some true) (hn : dstOk f o.dst = true)
    (hs : ∀ ρ w', (∀ x u, f.ev x = some u → ρ x = u) → rp w' → rd P (execOp ρ o) w' v) (h0 : rp w) (hh : ∀ x ∈ h, inc p.cf x.1 i = true → rp x.2)
    (H : wpR P p K r h ((i, rp) :: l) (putd f o.dst v) w) : wpR P p K (.one i r) h l f w := fun a ha h' l' sh sl =>
  ⟨o, ho, (plainOp.spec hop).1, (plainOp.spec hop).2, .inr (.inl ⟨wantF.spec hw ha, by omega, v, hs a.eval w (fun _ _ hx => ha.ev hx) h0, fun e => by omega, fun x hx hin => (by
      rcases sh x hx with e | e
      · exact hs a.eval x.2 (fun _ _ hx => ha.ev hx) (hh x e hin)
      · rw [calm_inc e] at hin; cases hin),
    H _ (ha.putd hn) h' _ sh (fun x hx => by
      rcases List.mem_cons.1 hx with e | e
      · subst e; exact .inl ⟨_, List.mem_cons_self .., rfl, fun w' hr => hs a.eval w' (fun _ _ hx => ha.ev hx) hr⟩
      · rcases sl x e with ⟨y, hy, e1, e2⟩ | e | e
        · exact .inl ⟨y, List.mem_cons_of_mem _ hy, e1, e2⟩
        · exact .inr (.inl e)
        · exact .inr (.inr e))⟩)⟩

/-- Whatever else: what it leaves. -/
theorem R_act {o : Oper} {Rr : Value → World → Prop} (ho : p.ops[i]? = some o) (hop : plainOp o.op = true) (hk : p.kind i = 2) (hc : p.calm i = true) (hw : wantF f p.ops o = some true) (hn : dstOk f o.dst = true)
    (hs : ∀ ρ, (∀ x u, f.ev x = some u → ρ x = u) → runsTo P Rr ((execOp ρ o).run P w)) (H : ∀ v w', Rr v w' → wpR P p K r h l (putd f o.dst v) w') : wpR P p K (.one i r) h l f w := fun a ha h' l' sh sl =>
  ⟨o, ho, (plainOp.spec hop).1, (plainOp.spec hop).2, .inr (.inr ⟨wantF.spec hw ha, hk, Rr, hs a.eval (fun _ _ hx => ha.ev hx), fun v w' hv => ⟨fun x _ hin => (by rw [calm_inc' hc] at hin; cases hin),
    H v w' hv _ (ha.putd hn) _ l' (fun x hx => by
      rcases List.mem_cons.1 hx with e | e
      · subst e; exact .inr hc
      · exact sh x e) sl⟩⟩)⟩
theorem R_actc {o : Oper} {Rr : Value → World → Prop} (ho : p.ops[i]? = some o) (hop : plainOp o.op = true) (hk : p.kind i = 2) (hw : wantF f p.ops o = some true) (hn : dstOk f o.dst = true)
    (hs : ∀ ρ, (∀ x u, f.ev x = some u → ρ x = u) → runsTo P Rr ((execOp ρ o).run P w)) (hl : ∀ v w', Rr v w' → ∀ x ∈ l, inc p.cf x.1 i = true → x.2 w')
    (H : ∀ v w', Rr v w' → wpR P p K r ((i, w) :: h) l (putd f o.dst v) w') : wpR P p K (.one i r) h l f w := fun a ha h' l' sh sl =>
  ⟨o, ho, (plainOp.spec hop).1, (plainOp.spec hop).2, .inr (.inr ⟨wantF.spec hw ha, hk, Rr, hs a.eval (fun _ _ hx => ha.ev hx), fun v w' hv => ⟨fun x hx hin => (by
      rcases sl x hx with ⟨y, hy, e1, e2⟩ | e | e
      · exact e2 _ (hl v w' hv y hy (by rw [e1]; exact hin))
      · rw [calm_inc e] at hin; cases hin
      · exact e w'),
    H v w' hv _ (ha.putd hn) _ l' (fun x hx => by
      rcases List.mem_cons.1 hx with e | e
      · subst e; exact .inl (List.mem_cons_self ..)
      · rcases sh x e with e | e
        · exact .inl (List.mem_cons_of_mem _ e)
        · exact .inr e) sl⟩⟩)⟩
end
end Go.Sl
