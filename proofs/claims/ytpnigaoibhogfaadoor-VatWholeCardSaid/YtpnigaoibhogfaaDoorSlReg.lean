/- YtpnigaoibhogfaaDoorSlReg: a part of the proof: walks over the translated code, and plain facts on lists beside. -/
import Derived.Test.YtpnigaoibhogfaaDoorSlFun
import Derived.OrdersIn
set_option linter.all false
namespace Go.Sl
open Go Go.RowKit

/-! ### Regions that draw their order: ONE walk in an order of our own serves all orders. What reads memory beside what may turn it is asked on both sides. -/

abbrev Hist := List (Nat × World)
abbrev Lds := List (Nat × (World → Prop))
def inc (cf : List (Nat × Nat)) (i j : Nat) : Bool := cf.contains (i, j) || cf.contains (j, i)
theorem inc_comm (cf : List (Nat × Nat)) (i j : Nat) : inc cf i j = inc cf j i := by unfold inc; rw [Bool.or_comm]

def rd (P : Program) (s : Sem Next) (w : World) (v : Value) : Prop := s.run P w = .ok (.value v) w
theorem rd_inj {P : Program} {s : Sem Next} {w : World} {v u : Value} (h : rd P s w v) (k : rd P s w u) : v = u := by
  unfold rd at *; rw [h] at k; cases k; rfl

def runsTo (P : Program) (R : Value → World → Prop) : Result Next → Prop
  | .ok (.value v) w' => R v w'
  | .ok .skip w' => R undef w'
  | .ok (.enter f args) w' => Calls P f args w' (ret R)
  | .ok (.round l f tmps assign body) w' => RoundIn (FR none) 0 P l f tmps assign body w' (ret R)
  | _ => False

theorem runsTo.some {P : Program} {R : Value → World → Prop} {r : Result Next} (h : runsTo P R r) : ∃ v w', R v w' := by
  cases r with
  | halt x w => exact h.elim
  | ok x w =>
    cases x <;> simp only [runsTo] at h
    case value v => exact ⟨_, _, h⟩
    case skip => exact ⟨_, _, h⟩
    case enter f args =>
      obtain ⟨e, w', _, ⟨v, _, hR⟩, _⟩ := h []
      exact ⟨v, w', hR⟩
    case round l f tmps assign body =>
      obtain ⟨e, w', ⟨v, _, hR⟩, _⟩ := h.2 default [] (fun d h => by cases h)
      exact ⟨v, w', hR⟩

theorem runsTo.mono {P : Program} {R R' : Value → World → Prop} {r : Result Next} (h : runsTo P R r) (hr : ∀ v w', R v w' → R' v w') : runsTo P R' r := by
  have hret : ∀ e w', ret R e w' → ret R' e w' := fun e w' ⟨v, he, hR⟩ => ⟨v, he, hr _ _ hR⟩
  cases r with
  | halt x w => exact h.elim
  | ok x w =>
    cases x <;> simp only [runsTo] at h ⊢
    case value v => exact hr _ _ h
    case skip => exact hr _ _ h
    case enter f args => exact Calls.mono' h hret
    case round l f tmps assign body => exact h.mono hret

/-- One operation, by what it is: nothing (its guard says no) · a value (0: in whatever world · 1: in this one) · whatever else (2). -/
def absT (P : Program) (cf : List (Nat × Nat)) (i k : Nat) (want : Bool) (s : Sem Next) (d : Option Tmp) (K : Hist → Lds → Act → World → Prop) (h : Hist) (l : Lds) (a : Act) (w : World) : Prop :=
  (want = false ∧ K h l (a.put d undef) w) ∨
  (want = true ∧ k ≠ 2 ∧ ∃ v, rd P s w v ∧ (k = 0 → ∀ w', rd P s w' v) ∧ (∀ x ∈ h, inc cf x.1 i = true → rd P s x.2 v) ∧ K h ((i, fun w' => rd P s w' v) :: l) (a.put d v) w) ∨
  (want = true ∧ k = 2 ∧ ∃ R, runsTo P R (s.run P w) ∧ ∀ v w', R v w' → (∀ x ∈ l, inc cf x.1 i = true → x.2 w') ∧ K ((i, w) :: h) l (a.put d v) w')

def Anti (K : Hist → Lds → Act → World → Prop) : Prop := ∀ h l h' l' a w, (∀ x ∈ h', x ∈ h) → (∀ x ∈ l', x ∈ l) → K h l a w → K h' l' a w

theorem absT_mono {P : Program} {cf : List (Nat × Nat)} {i k : Nat} {want : Bool} {s : Sem Next} {d : Option Tmp} {K K' : Hist → Lds → Act → World → Prop} {h : Hist} {l : Lds} {a : Act} {w : World}
    (hk : ∀ h l a w, K h l a w → K' h l a w) (H : absT P cf i k want s d K h l a w) : absT P cf i k want s d K' h l a w := by
  rcases H with ⟨hw, H⟩ | ⟨hw, h2, v, hv, hs, hh, H⟩ | ⟨hw, h2, R, hR, H⟩
  · exact .inl ⟨hw, hk _ _ _ _ H⟩
  · exact .inr (.inl ⟨hw, h2, v, hv, hs, hh, hk _ _ _ _ H⟩)
  · exact .inr (.inr ⟨hw, h2, R, hR, fun v w' hv => ⟨(H v w' hv).1, hk _ _ _ _ (H v w' hv).2⟩⟩)

theorem absT_anti {P : Program} {cf : List (Nat × Nat)} {i k : Nat} {want : Bool} {s : Sem Next} {d : Option Tmp} {K : Hist → Lds → Act → World → Prop} (hK : Anti K) : Anti (absT P cf i k want s d K) := by
  intro h l h' l' a w sh sl H
  have cons : ∀ {α : Type} (x : α) (m m' : List α), (∀ y ∈ m', y ∈ m) → ∀ y ∈ x :: m', y ∈ x :: m := fun x m m' hm y hy => by
    rcases List.mem_cons.1 hy with e | e
    · exact List.mem_cons.2 (.inl e)
    · exact List.mem_cons.2 (.inr (hm y e))
  rcases H with ⟨hw, H⟩ | ⟨hw, h2, v, hv, hs, hh, H⟩ | ⟨hw, h2, R, hR, H⟩
  · exact .inl ⟨hw, hK _ _ _ _ _ _ sh sl H⟩
  · exact .inr (.inl ⟨hw, h2, v, hv, hs, fun x hx => hh x (sh x hx), hK _ _ _ _ _ _ sh (cons _ _ _ sl) H⟩)
  · exact .inr (.inr ⟨hw, h2, R, hR, fun v w' hv => ⟨fun x hx => (H v w' hv).1 x (sl x hx), hK _ _ _ _ _ _ (cons _ _ _ sh) sl (H v w' hv).2⟩⟩)

theorem absT_some {P : Program} {cf : List (Nat × Nat)} {i k : Nat} {want : Bool} {s : Sem Next} {d : Option Tmp} {K : Hist → Lds → Act → World → Prop} {h : Hist} {l : Lds} {a : Act} {w : World}
    (H : absT P cf i k want s d K h l a w) : ∃ h l a w, K h l a w := by
  rcases H with ⟨_, H⟩ | ⟨_, _, v, _, _, _, H⟩ | ⟨_, _, R, hR, H⟩
  · exact ⟨_, _, _, _, H⟩
  · exact ⟨_, _, _, _, H⟩
  · obtain ⟨v, w', hv⟩ := hR.some
    exact ⟨_, _, _, _, (H v w' hv).2⟩

/-- Two operations that are apart change places. -/
theorem absT_swap {P : Program} {cf : List (Nat × Nat)} {i j ki kj : Nat} {wi wj : Bool} {si sj : Sem Next} {di dj : Option Tmp} {K : Hist → Lds → Act → World → Prop} (hK : Anti K)
    (hd : ∀ e, di = some e → dj ≠ some e) (hf : (ki = 2 ∧ kj = 2) → False) (hij : (ki = 2 ∧ kj = 1) ∨ (ki = 1 ∧ kj = 2) → inc cf i j = true) (hk1 : ki ≤ 2) (hk2 : kj ≤ 2)
    {h : Hist} {l : Lds} {a : Act} {w : World}
    (H : absT P cf i ki wi si di (absT P cf j kj wj sj dj K) h l a w) : absT P cf j kj wj sj dj (absT P cf i ki wi si di K) h l a w := by
  have sub2 : ∀ {α : Type} (x y : α) (m : List α), ∀ z ∈ x :: y :: m, z ∈ y :: x :: m := fun x y m z hz => by
    simp only [List.mem_cons] at hz ⊢
    rcases hz with e | e | e
    · exact .inr (.inl e)
    · exact .inl e
    · exact .inr (.inr e)
  rcases H with ⟨hwi, H⟩ | ⟨hwi, hki, vi, hvi, hsi, hhi, H⟩ | ⟨hwi, hki, R, hR, H⟩
  · rcases H with ⟨hwj, H⟩ | ⟨hwj, hkj, vj, hvj, hsj, hhj, H⟩ | ⟨hwj, hkj, S, hS, H⟩
    · exact .inl ⟨hwj, .inl ⟨hwi, by rw [← Act.put_comm a undef undef hd]; exact H⟩⟩
    · exact .inr (.inl ⟨hwj, hkj, vj, hvj, hsj, hhj, .inl ⟨hwi, by rw [← Act.put_comm a undef vj hd]; exact H⟩⟩)
    · exact .inr (.inr ⟨hwj, hkj, S, hS, fun v w' hv => ⟨(H v w' hv).1, .inl ⟨hwi, by rw [← Act.put_comm a undef v hd]; exact (H v w' hv).2⟩⟩⟩)
  · rcases H with ⟨hwj, H⟩ | ⟨hwj, hkj, vj, hvj, hsj, hhj, H⟩ | ⟨hwj, hkj, S, hS, H⟩
    · exact .inl ⟨hwj, .inr (.inl ⟨hwi, hki, vi, hvi, hsi, hhi, by rw [← Act.put_comm a vi undef hd]; exact H⟩)⟩
    · refine .inr (.inl ⟨hwj, hkj, vj, hvj, hsj, hhj, .inr (.inl ⟨hwi, hki, vi, hvi, hsi, hhi, ?_⟩)⟩)
      rw [← Act.put_comm a vi vj hd]
      exact hK _ _ _ _ _ _ (fun _ h => h) (sub2 _ _ _) H
    · refine .inr (.inr ⟨hwj, hkj, S, hS, fun v w' hv => ?_⟩)
      obtain ⟨h1, h2⟩ := H v w' hv
      refine ⟨fun x hx => h1 x (List.mem_cons_of_mem _ hx), .inr (.inl ⟨hwi, hki, vi, ?_, hsi, ?_, by rw [← Act.put_comm a vi v hd]; exact h2⟩)⟩
      · rcases Nat.eq_zero_or_pos ki with e | e
        · exact hsi e w'
        · exact h1 _ (List.mem_cons_self ..) (hij (.inr ⟨by omega, hkj⟩))
      · intro x hx hin
        rcases List.mem_cons.1 hx with e | e
        · subst e; exact hvi
        · exact hhi x e hin
  · have hkj2 : kj ≠ 2 := fun e => hf ⟨hki, e⟩
    cases hwj : wj with
    | false =>
      refine .inl ⟨rfl, .inr (.inr ⟨hwi, hki, R, hR, fun v w' hv => ?_⟩)⟩
      obtain ⟨h1, h2⟩ := H v w' hv
      refine ⟨h1, ?_⟩
      rcases h2 with ⟨_, h2⟩ | ⟨e, _⟩ | ⟨e, _⟩
      · rw [← Act.put_comm a v undef hd]; exact h2
      · rw [hwj] at e; cases e
      · rw [hwj] at e; cases e
    | true =>
      have inner : ∀ v w', R v w' → (∀ x ∈ l, inc cf x.1 i = true → x.2 w') ∧ ∃ vj, rd P sj w' vj ∧ (kj = 0 → ∀ w', rd P sj w' vj) ∧ rd P sj w vj ∧ (∀ x ∈ h, inc cf x.1 j = true → rd P sj x.2 vj) ∧
          K ((i, w) :: h) ((j, fun w' => rd P sj w' vj) :: l) ((a.put di v).put dj vj) w' := fun v w' hv => by
        obtain ⟨h1, h2⟩ := H v w' hv
        refine ⟨h1, ?_⟩
        rcases h2 with ⟨e, _⟩ | ⟨_, _, vj, hvj, hsj, hhj, h2⟩ | ⟨_, e, _⟩
        · rw [hwj] at e; cases e
        · refine ⟨vj, hvj, hsj, ?_, fun x hx => hhj x (List.mem_cons_of_mem _ hx), h2⟩
          rcases Nat.eq_zero_or_pos kj with e | e
          · exact hsj e w
          · exact hhj (i, w) (List.mem_cons_self ..) (hij (.inl ⟨hki, by omega⟩))
        · exact absurd e hkj2
      obtain ⟨v0, w0', hv0⟩ := hR.some
      obtain ⟨_, vj0, _, hsj0, hw0, hh0, _⟩ := inner v0 w0' hv0
      refine .inr (.inl ⟨rfl, hkj2, vj0, hw0, hsj0, hh0, .inr (.inr ⟨hwi, hki, R, hR, fun v w' hv => ?_⟩)⟩)
      obtain ⟨h1, vj, hvj, _, hwvj, _, h2⟩ := inner v w' hv
      obtain rfl := rd_inj hw0 hwvj
      refine ⟨fun x hx hin => ?_, by rw [← Act.put_comm a v vj0 hd]; exact h2⟩
      rcases List.mem_cons.1 hx with e | e
      · subst e; exact hvj
      · exact h1 x e hin

/-! ### The same, over a region's operations -/

structure Par where
  ops : Array Oper
  ks : List Nat
  cf : List (Nat × Nat)
def Par.kind (p : Par) (i : Nat) : Nat := p.ks.getD i 2

def stepT (P : Program) (p : Par) (i : Nat) (K : Hist → Lds → Act → World → Prop) (h : Hist) (l : Lds) (a : Act) (w : World) : Prop :=
  ∃ o, p.ops[i]? = some o ∧ (∀ c, o.op ≠ .defer c) ∧ (∀ cs b, o.op ≠ .select cs b) ∧
    absT P p.cf i (p.kind i) (Region.wanted o (yielded p.ops a.tmps)) (execOp a.eval o) o.dst K h l a w

def free (p : Par) (i j : Nat) : Bool :=
  match p.ops[i]?, p.ops[j]? with
  | some x, some y => x.apart p.ops y &&
      (match p.kind i, p.kind j with
       | 2, 2 => false
       | 2, 1 => inc p.cf i j
       | 1, 2 => inc p.cf i j
       | a, b => Nat.ble a 2 && Nat.ble b 2)
  | _, _ => false

section
variable {P : Program} {p : Par} {Q : Act → World → Prop}

theorem stepT_mono {i : Nat} {K K' : Hist → Lds → Act → World → Prop} {h : Hist} {l : Lds} {a : Act} {w : World} (hk : ∀ h l a w, K h l a w → K' h l a w) (H : stepT P p i K h l a w) : stepT P p i K' h l a w := by
  obtain ⟨o, ho, h1, h2, H⟩ := H
  exact ⟨o, ho, h1, h2, absT_mono hk H⟩
theorem stepT_anti {i : Nat} {K : Hist → Lds → Act → World → Prop} (hK : Anti K) : Anti (stepT P p i K) := by
  rintro h l h' l' a w sh sl ⟨o, ho, h1, h2, H⟩
  exact ⟨o, ho, h1, h2, absT_anti hK _ _ _ _ _ _ sh sl H⟩
theorem stepT_some {i : Nat} {K : Hist → Lds → Act → World → Prop} {h : Hist} {l : Lds} {a : Act} {w : World} (H : stepT P p i K h l a w) : ∃ h l a w, K h l a w := by
  obtain ⟨o, ho, h1, h2, H⟩ := H
  exact absT_some H

theorem absT_putEq {cf : List (Nat × Nat)} {i k : Nat} {want : Bool} {s : Sem Next} {d : Option Tmp} {K : Hist → Lds → Act → World → Prop} {h : Hist} {l : Lds} {a : Act} {w : World} {want' : Bool} {s' : Sem Next}
    (e1 : want = want') (e2 : s = s') (H : absT P cf i k want s d K h l a w) : absT P cf i k want' s' d K h l a w := by subst e1; subst e2; exact H

theorem stepT_swap {i j : Nat} (hij : free p i j = true) {K : Hist → Lds → Act → World → Prop} (hK : Anti K) {h : Hist} {l : Lds} {a : Act} {w : World}
    (H : stepT P p i (stepT P p j K) h l a w) : stepT P p j (stepT P p i K) h l a w := by
  obtain ⟨oi, hoi, i1, i2, H⟩ := H
  have hj : ∃ oj, p.ops[j]? = some oj ∧ (∀ c, oj.op ≠ .defer c) ∧ (∀ cs b, oj.op ≠ .select cs b) := by
    obtain ⟨_, _, _, _, oj, hoj, j1, j2, _⟩ := absT_some H
    exact ⟨oj, hoj, j1, j2⟩
  obtain ⟨oj, hoj, j1, j2⟩ := hj
  have hfr := hij
  unfold free at hfr
  simp only [hoi, hoj, Bool.and_eq_true] at hfr
  obtain ⟨hap, hkk⟩ := hfr
  obtain ⟨a1, a2, a3⟩ := Oper.apart_spec hap
  refine ⟨oj, hoj, j1, j2, ?_⟩
  have H' : absT P p.cf i (p.kind i) (Region.wanted oi (yielded p.ops a.tmps)) (execOp a.eval oi) oi.dst
      (absT P p.cf j (p.kind j) (Region.wanted oj (yielded p.ops a.tmps)) (execOp a.eval oj) oj.dst K) h l a w := by
    have conv : ∀ v h l w, stepT P p j K h l (a.put oi.dst v) w → absT P p.cf j (p.kind j) (Region.wanted oj (yielded p.ops a.tmps)) (execOp a.eval oj) oj.dst K h l (a.put oi.dst v) w := fun v h l w hs => by
      obtain ⟨o', ho', _, _, hs⟩ := hs
      rw [hoj] at ho'; cases ho'
      exact absT_putEq (wanted_put oj a oi.dst v a1) (execOp_put oj j2 a oi.dst v a1) hs
    rcases H with ⟨hw, H⟩ | ⟨hw, h2, v, hv, hs, hh, H⟩ | ⟨hw, h2, R, hR, H⟩
    · exact .inl ⟨hw, conv _ _ _ _ H⟩
    · exact .inr (.inl ⟨hw, h2, v, hv, hs, hh, conv _ _ _ _ H⟩)
    · exact .inr (.inr ⟨hw, h2, R, hR, fun v w' hv => ⟨(H v w' hv).1, conv _ _ _ _ (H v w' hv).2⟩⟩)
  have hle : p.kind i ≤ 2 ∧ p.kind j ≤ 2 ∧ ((p.kind i = 2 ∧ p.kind j = 2) → False) ∧ ((p.kind i = 2 ∧ p.kind j = 1) ∨ (p.kind i = 1 ∧ p.kind j = 2) → inc p.cf i j = true) := by
    generalize p.kind i = x at hkk ⊢
    generalize p.kind j = y at hkk ⊢
    split at hkk
    · cases hkk
    · exact ⟨by omega, by omega, by omega, fun _ => hkk⟩
    · exact ⟨by omega, by omega, by omega, fun _ => hkk⟩
    · rename_i n1 n2 n3
      simp only [Bool.and_eq_true, Nat.ble_eq] at hkk
      exact ⟨hkk.1, hkk.2, fun ⟨e1, e2⟩ => n1 e1 e2, fun e => by
        rcases e with ⟨e1, e2⟩ | ⟨e1, e2⟩
        · exact (n2 e1 e2).elim
        · exact (n3 e1 e2).elim⟩
  have S := absT_swap hK a2 hle.2.2.1 hle.2.2.2 hle.1 hle.2.1 H'
  have conv : ∀ v h l w, absT P p.cf i (p.kind i) (Region.wanted oi (yielded p.ops a.tmps)) (execOp a.eval oi) oi.dst K h l (a.put oj.dst v) w → stepT P p i K h l (a.put oj.dst v) w := fun v h l w hs =>
    ⟨oi, hoi, i1, i2, absT_putEq (wanted_put oi a oj.dst v a3).symm (execOp_put oi i2 a oj.dst v a3).symm hs⟩
  rcases S with ⟨hw, H⟩ | ⟨hw, h2, v, hv, hs, hh, H⟩ | ⟨hw, h2, R, hR, H⟩
  · exact .inl ⟨hw, conv _ _ _ _ H⟩
  · exact .inr (.inl ⟨hw, h2, v, hv, hs, hh, conv _ _ _ _ H⟩)
  · exact .inr (.inr ⟨hw, h2, R, hR, fun v w' hv => ⟨(H v w' hv).1, conv _ _ _ _ (H v w' hv).2⟩⟩)

/-- Whatever order is picked from here on. -/
def wpAnyT (P : Program) (p : Par) (Q : Act → World → Prop) : Nat → Array Bool → Hist → Lds → Act → World → Prop
  | 0, listed, _, _, a, w => Region.ready .any p.ops listed = [] ∧ Q a w
  | k + 1, listed, h, l, a, w => (Region.ready .any p.ops listed = [] → Q a w) ∧ ∀ i ∈ Region.ready .any p.ops listed, stepT P p i (wpAnyT P p Q k (listed.setIfInBounds i true)) h l a w

theorem wpAnyT_anti : ∀ (k : Nat) (listed : Array Bool), Anti (wpAnyT P p Q k listed)
  | 0, _ => fun _ _ _ _ _ _ _ _ H => H
  | k + 1, listed => fun _ _ _ _ _ _ sh sl H => ⟨H.1, fun i hi => stepT_anti (wpAnyT_anti k _) _ _ _ _ _ _ sh sl (H.2 i hi)⟩

/-- What comes ahead, by the edges. -/
inductive Bef (ops : Array Oper) : Nat → Nat → Prop
  | one {j : Nat} {o : Oper} {e : Edge} (ho : ops[j]? = some o) (he : e ∈ o.after) (hb : Region.binds .any e = true) : Bef ops e.on j
  | more {i j : Nat} {o : Oper} {e : Edge} (ho : ops[j]? = some o) (he : e ∈ o.after) (hb : Region.binds .any e = true) (h : Bef ops i e.on) : Bef ops i j

def Closed (ops : Array Oper) (listed : Array Bool) : Prop :=
  ∀ j o, ops[j]? = some o → listed.getD j false = true → ∀ e ∈ o.after, Region.binds .any e = true → listed.getD e.on false = true

theorem closed_start (ops : Array Oper) (n : Nat) : Closed ops (Array.replicate n false) := by
  intro j o _ h
  simp [Array.getD] at h

theorem closed_set {ops : Array Oper} {listed : Array Bool} {i : Nat} (hc : Closed ops listed) (hi : i ∈ Region.ready .any ops listed) : Closed ops (listed.setIfInBounds i true) := by
  intro j o ho hl e he hb
  refine getD_set_true ?_
  by_cases hij : i = j
  · subst hij
    obtain ⟨_, o', ho', hall⟩ := mem_ready.1 hi
    rw [ho] at ho'; cases ho'
    exact hall e he hb
  · rw [getD_set_ne _ hij] at hl
    exact hc j o ho hl e he hb

theorem bef_listed {ops : Array Oper} {listed : Array Bool} (hc : Closed ops listed) {i j : Nat} (hb : Bef ops i j) : listed.getD j false = true → listed.getD i false = true := by
  induction hb with
  | one ho he hb => exact fun hl => hc _ _ ho hl _ he hb
  | more ho he hb _ ih => exact fun hl => ih (hc _ _ ho hl _ he hb)

theorem bef_ready {ops : Array Oper} {listed : Array Bool} (hc : Closed ops listed) {i j : Nat} (hj : j ∈ Region.ready .any ops listed) (hb : Bef ops i j) : listed.getD i false = true := by
  obtain ⟨_, o, ho, hall⟩ := mem_ready.1 hj
  cases hb with
  | one ho' he hb => rw [ho] at ho'; cases ho'; exact hall _ he hb
  | more ho' he hb h => rw [ho] at ho'; cases ho'; exact bef_listed hc h (hall _ he hb)

theorem getD_falsetrue {listed : Array Bool} {i : Nat} (h : listed.getD i true = false) : listed.getD i false = false := by
  rcases Nat.lt_or_ge i listed.size with h' | h'
  · simp [h'] at h ⊢; exact h
  · simp [Array.getElem?_eq_none h'] at h

theorem ready_keep {ops : Array Oper} {listed : Array Bool} {i j : Nat} (hj : j ∈ Region.ready .any ops listed) (hji : j ≠ i) : j ∈ Region.ready .any ops (listed.setIfInBounds i true) := by
  obtain ⟨h0, o, ho, hall⟩ := mem_ready.1 hj
  refine mem_ready.2 ⟨by rw [getD_set_ne _ (Ne.symm hji)]; exact h0, o, ho, fun e he hb => getD_set_true (hall e he hb)⟩

theorem wpAnyT_first {i : Nat} : ∀ (k : Nat) (listed : Array Bool) (h : Hist) (l : Lds) (a : Act) (w : World), Closed p.ops listed →
    (∀ j oj, p.ops[j]? = some oj → j ≠ i → listed.getD j true = false → Bef p.ops i j ∨ free p i j = true) → i ∈ Region.ready .any p.ops listed →
    stepT P p i (wpAnyT P p Q k (listed.setIfInBounds i true)) h l a w → wpAnyT P p Q (k + 1) listed h l a w := by
  intro k
  induction k with
  | zero =>
    intro listed h l a w _ _ hi H
    refine ⟨fun e => (by rw [e] at hi; cases hi), fun j hj => ?_⟩
    by_cases hji : j = i
    · subst hji; exact H
    · obtain ⟨_, _, _, _, H', _⟩ := stepT_some H
      have := ready_keep hj hji
      rw [H'] at this; cases this
  | succ k ih =>
    intro listed h l a w hc hfree hi H
    refine ⟨fun e => (by rw [e] at hi; cases hi), fun j hj => ?_⟩
    by_cases hji : j = i
    · subst hji; exact H
    · obtain ⟨hjun, oj, hoj, _⟩ := mem_ready.1 hj
      have hij : free p i j = true := by
        rcases hfree j oj hoj hji hjun with hb | hf
        · have h1 := bef_ready hc hj hb
          have h2 := getD_falsetrue (mem_ready.1 hi).1
          rw [h1] at h2; cases h2
        · exact hf
      have H1 : stepT P p i (stepT P p j (wpAnyT P p Q k ((listed.setIfInBounds i true).setIfInBounds j true))) h l a w :=
        stepT_mono (fun _ _ _ _ H => H.2 j (ready_keep hj hji)) H
      have H2 := stepT_swap hij (wpAnyT_anti _ _) H1
      refine stepT_mono (fun h' l' a' w' H3 => ?_) H2
      rw [Array.setIfInBounds_comm _ _ (Ne.symm hji)] at H3
      refine ih (listed.setIfInBounds j true) h' l' a' w' (closed_set hc hj) ?_ (ready_keep hi (Ne.symm hji)) H3
      intro m om hom hmi hun
      refine hfree m om hom hmi ?_
      by_cases hjm : j = m
      · subst hjm; exact hjun
      · rw [getD_set_ne _ hjm] at hun; exact hun

/-! ### The walk in an order of our own -/

/-- The order of a walk: one after the other; where two stand ready that don't change places, both. -/
inductive Plan where
  | done
  | one (i : Nat) (r : Plan)
  | two (i j : Nat) (r s : Plan)
def Plan.ofList : List Nat → Plan
  | [] => .done
  | i :: r => .one i (Plan.ofList r)
def Plan.app : List Nat → Plan → Plan
  | [], s => s
  | i :: r, s => .one i (Plan.app r s)

def wpT (P : Program) (p : Par) (Q : Act → World → Prop) : Plan → Hist → Lds → Act → World → Prop
  | .done, _, _, a, w => Q a w
  | .one i r, h, l, a, w => stepT P p i (wpT P p Q r) h l a w
  | .two i j r s, h, l, a, w => stepT P p i (wpT P p Q r) h l a w ∧ stepT P p j (wpT P p Q s) h l a w

def ancStep (acc : List Nat) (o : Oper) : Nat := o.after.toList.foldl (fun s e => if Region.binds .any e then s ||| 2 ^ e.on ||| acc.getD e.on 0 else s) 0
def ancs (ops : List Oper) : List Nat := ops.foldl (fun acc o => acc ++ [ancStep acc o]) []

theorem ancStep_sound {ops : Array Oper} {acc : List Nat} {j : Nat} {o : Oper} (ho : ops[j]? = some o) (hacc : ∀ m i, (acc.getD m 0).testBit i = true → Bef ops i m) :
    ∀ i, (ancStep acc o).testBit i = true → Bef ops i j := by
  have gen : ∀ (es : List Edge) (s : Nat), (∀ e ∈ es, e ∈ o.after) → (∀ i, s.testBit i = true → Bef ops i j) →
      ∀ i, (es.foldl (fun s e => if Region.binds .any e then s ||| 2 ^ e.on ||| acc.getD e.on 0 else s) s).testBit i = true → Bef ops i j := by
    intro es
    induction es with
    | nil => intro s _ hs i hi; exact hs i hi
    | cons e es ih =>
      intro s hes hs i hi
      rw [List.foldl_cons] at hi
      refine ih _ (fun e' h' => hes e' (List.mem_cons_of_mem _ h')) ?_ i hi
      intro m hm
      by_cases hb : Region.binds .any e = true
      · rw [if_pos hb] at hm
        simp only [Nat.testBit_or, Bool.or_eq_true] at hm
        rcases hm with (hm | hm) | hm
        · exact hs m hm
        · rw [Nat.testBit_two_pow] at hm
          have : e.on = m := by simpa using hm
          subst this
          exact .one ho (hes e (List.mem_cons_self ..)) hb
        · exact .more ho (hes e (List.mem_cons_self ..)) hb (hacc _ _ hm)
      · rw [if_neg hb] at hm; exact hs m hm
  exact gen o.after.toList 0 (fun e he => Array.mem_toList_iff.1 he) (fun i hi => by simp at hi)

theorem ancs_sound (ops : Array Oper) : ∀ m i, ((ancs ops.toList).getD m 0).testBit i = true → Bef ops i m := by
  have gen : ∀ (l : List Oper) (acc : List Nat), (∀ j, l[j]? = ops[acc.length + j]?) → (∀ m i, (acc.getD m 0).testBit i = true → Bef ops i m) →
      ∀ m i, ((l.foldl (fun acc o => acc ++ [ancStep acc o]) acc).getD m 0).testBit i = true → Bef ops i m := by
    intro l
    induction l with
    | nil => intro acc _ hacc m i hi; exact hacc m i hi
    | cons o l ih =>
      intro acc hl hacc m i hi
      rw [List.foldl_cons] at hi
      have h0 : ops[acc.length]? = some o := by simpa using (hl 0).symm
      refine ih (acc ++ [ancStep acc o]) (fun j => by have := hl (j + 1); simpa [Nat.add_assoc, Nat.add_comm 1 j] using this) ?_ m i hi
      intro m i hi
      rcases Nat.lt_trichotomy m acc.length with hlt | heq | hgt
      · rw [List.getD_eq_getElem?_getD, List.getElem?_append_left hlt, ← List.getD_eq_getElem?_getD] at hi
        exact hacc m i hi
      · subst heq
        simp at hi
        exact ancStep_sound h0 hacc i hi
      · rw [List.getD_eq_getElem?_getD, List.getElem?_eq_none (by simp; omega)] at hi
        simp at hi
  exact gen ops.toList [] (fun j => by simp) (fun m i hi => by simp at hi)

def chk (p : Par) (anc : List Nat) : Nat → Plan → Array Bool → Bool
  | 0, .done, listed => (Region.ready .any p.ops listed).isEmpty
  | k + 1, .one i r, listed => (Region.ready .any p.ops listed).contains i &&
      ((List.range p.ops.size).all fun j => Nat.beq j i || listed.getD j true || (anc.getD j 0).testBit i || free p i j) && chk p anc k r (listed.setIfInBounds i true)
  | k + 1, .two i j r s, listed => ((Region.ready .any p.ops listed).all fun x => Nat.beq x i || Nat.beq x j) && (Region.ready .any p.ops listed).contains i && (Region.ready .any p.ops listed).contains j &&
      chk p anc k r (listed.setIfInBounds i true) && chk p anc k s (listed.setIfInBounds j true)
  | _, _, _ => false

theorem wpAnyT_of_wpT : ∀ (k : Nat) (r : Plan) (listed : Array Bool) (h : Hist) (l : Lds) (a : Act) (w : World), Closed p.ops listed → chk p (ancs p.ops.toList) k r listed = true → wpT P p Q r h l a w → wpAnyT P p Q k listed h l a w
  | 0, .done, listed, h, l, a, w, _, hc, H => ⟨by simpa [chk] using hc, H⟩
  | k + 1, .one i r, listed, h, l, a, w, hcl, hc, H => by
    simp only [chk, Bool.and_eq_true] at hc
    obtain ⟨⟨hr, hall⟩, hc⟩ := hc
    have hi : i ∈ Region.ready .any p.ops listed := by simpa using hr
    refine wpAnyT_first k listed h l a w hcl ?_ hi ?_
    · intro j oj hoj hji hun
      have hlt : j < p.ops.size := (Array.getElem?_eq_some_iff.1 hoj).1
      have := (List.all_eq_true.1 hall) j (List.mem_range.2 hlt)
      simp only [Bool.or_eq_true] at this
      rcases this with ((e | e) | e) | e
      · exact absurd (Nat.eq_of_beq_eq_true e) hji
      · rw [hun] at e; cases e
      · exact .inl (ancs_sound p.ops j i e)
      · exact .inr e
    · exact stepT_mono (fun h' l' a' w' H' => wpAnyT_of_wpT k r _ h' l' a' w' (closed_set hcl hi) hc H') H
  | k + 1, .two i j r s, listed, h, l, a, w, hcl, hc, H => by
    simp only [chk, Bool.and_eq_true] at hc
    obtain ⟨⟨⟨⟨hall, hi⟩, hj⟩, hr⟩, hs⟩ := hc
    have hi : i ∈ Region.ready .any p.ops listed := by simpa using hi
    have hj : j ∈ Region.ready .any p.ops listed := by simpa using hj
    refine ⟨fun e => (by rw [e] at hi; cases hi), fun x hx => ?_⟩
    have := (List.all_eq_true.1 hall) x hx
    simp only [Bool.or_eq_true] at this
    rcases this with e | e
    · have e := Nat.eq_of_beq_eq_true e; subst e
      exact stepT_mono (fun h' l' a' w' H' => wpAnyT_of_wpT k r _ h' l' a' w' (closed_set hcl hi) hr H') H.1
    · have e := Nat.eq_of_beq_eq_true e; subst e
      exact stepT_mono (fun h' l' a' w' H' => wpAnyT_of_wpT k s _ h' l' a' w' (closed_set hcl hj) hs H') H.2
  | 0, .one _ _, _, _, _, _, _, _, hc, _ => by simp [chk] at hc
  | 0, .two _ _ _ _, _, _, _, _, _, _, hc, _ => by simp [chk] at hc
  | _ + 1, .done, _, _, _, _, _, _, hc, _ => by simp [chk] at hc

/-! ### Down to the machine's own -/

theorem wpOpIn_of_stepT {ro : Option Nat} {n : Nat} {i : Nat} {K : Hist → Lds → Act → World → Prop} {K' : Act → World → Prop} {Q' : Exit → Act → World → Prop} {h : Hist} {l : Lds} {a : Act} {w : World}
    (hk : ∀ h l a w, K h l a w → K' a w) (H : stepT P p i K h l a w) : wpOpIn (FR ro) n P p.ops Q' i K' a w := by
  obtain ⟨o, ho, h1, _, H⟩ := H
  unfold wpOpIn
  simp only [ho]
  have hsem : ∀ ρ, o.semAt (FR ro).round ρ = execOp ρ o := fun ρ => Oper.semAt_eq _ _ _ h1
  rcases H with ⟨hw, H⟩ | ⟨hw, _, v, hv, _, _, H⟩ | ⟨hw, _, R, hR, H⟩
  · simp only [hw, Bool.false_eq_true, if_false]
    exact ⟨fun _ _ => trivial, hk _ _ _ _ H⟩
  · simp only [hw, if_true]
    refine ⟨fun _ _ => trivial, ?_⟩
    rw [hsem, show (execOp a.eval o).run P w = _ from hv]
    exact hk _ _ _ _ H
  · simp only [hw, if_true]
    refine ⟨fun _ _ => trivial, ?_⟩
    rw [hsem]
    have hall : ∀ v w', R v w' → K' (a.put o.dst v) w' := fun v w' hv => hk _ _ _ _ (H v w' hv).2
    clear H
    generalize (execOp a.eval o).run P w = r at hR
    cases r with
    | halt x w => exact hR.elim
    | ok x w =>
      cases x <;> simp only [runsTo] at hR
      case value v => exact hall _ _ hR
      case skip => exact hall _ _ hR
      case enter f args =>
        refine ⟨fun h => by simp at h, callsIn_FR (Calls.mono' hR ?_)⟩
        rintro e w' ⟨v, rfl, hv⟩
        exact hall _ _ hv
      case round l f tmps assign body =>
        refine ⟨fun h => by simp at h, RoundIn.mono (R := ret R) ?_ ?_⟩
        · exact ⟨trivial, fun c cs _ => hR.2 c cs (fun d h => by cases h)⟩
        · rintro e w' ⟨v, rfl, hv⟩
          exact hall _ _ hv

theorem wpAnyIn_of_wpAnyT {ro : Option Nat} {n : Nat} {Q' : Exit → Act → World → Prop} (hQ : ∀ a w, Q a w → Q' .normal a w) : ∀ (k : Nat) (listed : Array Bool) (h : Hist) (l : Lds) (a : Act) (w : World),
    wpAnyT P p Q k listed h l a w → wpAnyIn (FR ro) n P .any p.ops Q' k listed a w
  | 0, _, _, _, _, _, H => ⟨H.1, hQ _ _ H.2⟩
  | k + 1, listed, _, _, _, _, H => ⟨fun e => hQ _ _ (H.1 e), fun i hi => wpOpIn_of_stepT (fun h l a w => wpAnyIn_of_wpAnyT hQ k _ h l a w) (H.2 i hi)⟩

theorem wpOpsIn_of_wpT {ro : Option Nat} {n : Nat} {Q' : Exit → Act → World → Prop} (hQ : ∀ a w, Q a w → Q' .normal a w) : ∀ (r : List Nat) (h : Hist) (l : Lds) (a : Act) (w : World),
    wpT P p Q (.ofList r) h l a w → wpOpsIn (FR ro) n P p.ops Q' r a w
  | [], _, _, _, _, H => hQ _ _ H
  | i :: r, _, _, _, _, H => by
    rw [wpOpsIn_cons]
    exact wpOpIn_of_stepT (fun h l a w => wpOpsIn_of_wpT hQ r h l a w) H

/-- **A REGION THAT DRAWS ITS ORDER, BY ONE WALK.** -/
theorem wpIn_drawn {ro : Option Nat} {n : Nat} {id : Nat} {Q' : Exit → Act → World → Prop} {a : Act} {w : World} (hm : P.follows .mixedOrders = true) (r : Plan)
    (hc : chk p (ancs p.ops.toList) p.ops.size r (Array.replicate p.ops.size false) = true)
    (h : wpT P p (fun a w => Q' .normal a w) r [] [] a w.drew) : (Code.region id p.ops true).wpIn (FR ro) n P Q' a w := by
  refine wpIn_region_any hm ?_
  have := wpAnyIn_of_wpAnyT (ro := ro) (n := n) (Q' := Q') (fun _ _ h => h) _ _ _ _ _ _ (wpAnyT_of_wpT _ r _ [] [] a _ (closed_start _ _) hc h)
  exact this

theorem wpIn_plain {ro : Option Nat} {n : Nat} {id : Nat} {Q' : Exit → Act → World → Prop} {a : Act} {w : World}
    (h : wpT P p (fun a w => Q' .normal a w) (.ofList (List.range p.ops.size)) [] [] a w) : (Code.region id p.ops false).wpIn (FR ro) n P Q' a w :=
  wpIn_region (wpOpsIn_of_wpT (fun _ _ h => h) _ _ _ _ _ h)

end
end Go.Sl
