/- YtpnigaoibhogfaaDoorSlCore: a part of the proof: walks over the translated code, and plain facts on lists beside. -/
import Derived.RangeFuncNested
import Derived.RangeFuncBound
import Derived.RangeFuncCalls
import Derived.RangeFuncLeaves
import Derived.WalkKit
import Derived.OwnWalkIn
import Derived.TacticsInMore
import Derived.LoopNIn
import Derived.LoopIn
set_option linter.all false
namespace Go.Sl
open Go Go.RowKit

/-! ### Assertions on heaps -/

abbrev Hp := Nat → Option Obj
def HProp : Type := Hp → Prop

def dj (a b : Hp) : Prop := ∀ k, a k = none ∨ b k = none
def jn (a b : Hp) : Hp := fun k => match a k with | some o => some o | none => b k

theorem dj_comm {a b : Hp} (h : dj a b) : dj b a := fun k => (h k).symm
theorem jn_comm {a b : Hp} (h : dj a b) : jn a b = jn b a := by
  funext k
  unfold jn
  rcases h k with e | e <;> rw [e]
  · cases b k <;> rfl
  · cases a k <;> rfl
theorem jn_assoc (a b c : Hp) : jn (jn a b) c = jn a (jn b c) := by
  funext k
  unfold jn
  cases a k <;> rfl
theorem jn_none {a b : Hp} {k : Nat} : jn a b k = none ↔ a k = none ∧ b k = none := by
  unfold jn
  cases h : a k <;> simp

def hstar (A B : HProp) : HProp := fun h => ∃ a b : Hp, dj a b ∧ h = jn a b ∧ A a ∧ B b
def hemp : HProp := fun h => ∀ k, h k = none

instance : Mul HProp := ⟨hstar⟩

theorem star_def (A B : HProp) : A * B = fun h => ∃ a b : Hp, dj a b ∧ h = jn a b ∧ A a ∧ B b := rfl

theorem star_comm (A B : HProp) : A * B = B * A := by
  funext h
  apply propext
  constructor
  · rintro ⟨a, b, d, rfl, ha, hb⟩; exact ⟨b, a, dj_comm d, jn_comm d, hb, ha⟩
  · rintro ⟨a, b, d, rfl, ha, hb⟩; exact ⟨b, a, dj_comm d, jn_comm d, hb, ha⟩

theorem star_assoc (A B C : HProp) : A * B * C = A * (B * C) := by
  funext h
  apply propext
  constructor
  · rintro ⟨_, c, d, rfl, ⟨a, b, d', rfl, ha, hb⟩, hc⟩
    refine ⟨a, jn b c, ?_, jn_assoc _ _ _, ha, b, c, ?_, rfl, hb, hc⟩
    · intro k
      rcases d k with e | e
      · exact .inl (jn_none.1 e).1
      · rcases d' k with e' | e'
        · exact .inl e'
        · exact .inr (jn_none.2 ⟨e', e⟩)
    · intro k
      rcases d k with e | e
      · exact .inl (jn_none.1 e).2
      · exact .inr e
  · rintro ⟨a, _, d, rfl, ha, b, c, d', rfl, hb, hc⟩
    refine ⟨jn a b, c, ?_, (jn_assoc _ _ _).symm, ⟨a, b, ?_, rfl, ha, hb⟩, hc⟩
    · intro k
      rcases d k with e | e
      · rcases d' k with e' | e'
        · exact .inl (jn_none.2 ⟨e, e'⟩)
        · exact .inr e'
      · exact .inr (jn_none.1 e).2
    · intro k
      rcases d k with e | e
      · exact .inl e
      · exact .inr (jn_none.1 e).1

instance : Std.Associative (α := HProp) (· * ·) := ⟨star_assoc⟩
instance : Std.Commutative (α := HProp) (· * ·) := ⟨star_comm⟩

theorem star_left_comm (A B C : HProp) : A * (B * C) = B * (A * C) := by ac_rfl

/-- Block b is o. -/
def pt (b : Nat) (o : Obj) : HProp := fun h => h = fun k => if k = b then some o else none
def pur (p : Prop) : HProp := fun h => p ∧ ∀ k, h k = none
def hex {α : Type} (f : α → HProp) : HProp := fun h => ∃ x, f x h

theorem hemp_star (A : HProp) : hemp * A = A := by
  funext h
  apply propext
  constructor
  · rintro ⟨a, b, d, rfl, ha, hb⟩
    have : jn a b = b := by funext k; unfold jn; rw [ha k]
    rw [this]; exact hb
  · intro hA
    refine ⟨fun _ => none, h, fun k => .inl rfl, rfl, fun _ => rfl, hA⟩
theorem star_hemp (A : HProp) : A * hemp = A := by rw [star_comm, hemp_star]

theorem hex_star {α : Type} (f : α → HProp) (B : HProp) : hex f * B = hex fun x => f x * B := by
  funext h
  apply propext
  constructor
  · rintro ⟨a, b, d, rfl, ⟨x, hx⟩, hb⟩; exact ⟨x, a, b, d, rfl, hx, hb⟩
  · rintro ⟨x, a, b, d, rfl, hx, hb⟩; exact ⟨a, b, d, rfl, ⟨x, hx⟩, hb⟩

/-! ### Worlds -/

/-- In w there is what A says (and whatever else); nothing but the heap and the count of draws has turned since w0. -/
structure Sat (w0 : World) (A : HProp) (w : World) : Prop where
  os : w.os = w0.os
  tape : w.tape = w0.tape
  output : w.output = w0.output
  heap : ∃ h : Hp, A h ∧ ∀ k o, h k = some o → w.heap[k]? = some o

variable {w0 w : World} {A B R : HProp} {b b' : Nat} {o o' : Obj}

theorem Sat.mono (h : Sat w0 A w) (hAB : ∀ h, A h → B h) : Sat w0 B w :=
  ⟨h.os, h.tape, h.output, let ⟨x, ha, hx⟩ := h.heap; ⟨x, hAB x ha, hx⟩⟩
theorem Sat.to (h : Sat w0 A w) (e : A = B) : Sat w0 B w := e ▸ h

theorem Sat.ex {α : Type} {f : α → HProp} (h : Sat w0 (hex f * R) w) : ∃ x, Sat w0 (f x * R) w := by
  obtain ⟨o, t, u, x, ha, hx⟩ := h
  rw [hex_star] at ha
  obtain ⟨y, hy⟩ := ha
  exact ⟨y, o, t, u, x, hy, hx⟩
theorem Sat.ex1 {α : Type} {f : α → HProp} (h : Sat w0 (hex f) w) : ∃ x, Sat w0 (f x) w := by
  obtain ⟨o, t, u, x, ⟨y, hy⟩, hx⟩ := h
  exact ⟨y, o, t, u, x, hy, hx⟩
theorem Sat.mkex {α : Type} {f : α → HProp} (x : α) (h : Sat w0 (f x * R) w) : Sat w0 (hex f * R) w := by
  obtain ⟨o, t, u, y, ha, hx⟩ := h
  refine ⟨o, t, u, y, ?_, hx⟩
  rw [hex_star]
  exact ⟨x, ha⟩

theorem pur_star (p : Prop) (A : HProp) (h : Hp) : (pur p * A) h ↔ p ∧ A h := by
  constructor
  · rintro ⟨a, b, d, rfl, ⟨hp, ha⟩, hb⟩
    have : jn a b = b := by funext k; unfold jn; rw [ha k]
    rw [this]; exact ⟨hp, hb⟩
  · rintro ⟨hp, hA⟩
    exact ⟨fun _ => none, h, fun k => .inl rfl, rfl, ⟨hp, fun _ => rfl⟩, hA⟩
theorem Sat.pure {p : Prop} (h : Sat w0 (pur p * R) w) : p ∧ Sat w0 R w := by
  obtain ⟨o, t, u, y, ha, hx⟩ := h
  have := (pur_star p R y).1 ha
  exact ⟨this.1, o, t, u, y, this.2, hx⟩
theorem Sat.mkpure {p : Prop} (hp : p) (h : Sat w0 R w) : Sat w0 (pur p * R) w := by
  obtain ⟨o, t, u, y, ha, hx⟩ := h
  exact ⟨o, t, u, y, (pur_star p R y).2 ⟨hp, ha⟩, hx⟩

/-- What isn't wanted any more is let go. -/
theorem Sat.drop (h : Sat w0 (A * R) w) : Sat w0 R w := by
  obtain ⟨o, t, u, y, ⟨a, b, d, rfl, ha, hb⟩, hx⟩ := h
  refine ⟨o, t, u, b, hb, fun k ob hk => hx k ob ?_⟩
  unfold jn
  rcases d k with e | e
  · rw [e]; exact hk
  · rw [e] at hk; cases hk
theorem Sat.dropR (h : Sat w0 (R * A) w) : Sat w0 R w := Sat.drop (h.to (star_comm _ _))
theorem Sat.emp (h : Sat w0 A w) : Sat w0 hemp w := Sat.dropR (A := A) (h.to (hemp_star A).symm)

theorem Sat.at (h : Sat w0 (pt b o * R) w) : w.heap[b]? = some o := by
  obtain ⟨_, _, _, y, ⟨a, c, d, rfl, ha, hc⟩, hx⟩ := h
  refine hx b o ?_
  unfold jn
  rw [show a = _ from ha]
  simp
theorem Sat.at1 (h : Sat w0 (pt b o) w) : w.heap[b]? = some o := Sat.at (h.to (star_hemp _).symm)
theorem Sat.lt (h : Sat w0 (pt b o * R) w) : b < w.heap.size := (Array.getElem?_eq_some_iff.1 h.at).1

theorem Sat.ne (h : Sat w0 (pt b o * (pt b' o' * R)) w) : b ≠ b' := by
  obtain ⟨_, _, _, y, ⟨a, c, d, rfl, ha, ⟨a', c', d', rfl, ha', hc'⟩⟩, hx⟩ := h
  intro e
  subst e
  have h1 := d b
  rw [show a = _ from ha, show a' = _ from ha'] at h1
  simp [jn] at h1

theorem Sat.cell {c : Array Value} {T : TypeId} {fz : Nat × Nat} {i : Nat} {v : Value} (h : Sat w0 (pt b (.cells c T fz) * R) w) (hc : c[i]? = some v) :
    w.cell? ⟨b, i, none⟩ = some v := by
  simp [World.cell?, Sat.at h, hc]
theorem Sat.frozen {c : Array Value} {T : TypeId} {i : Nat} (h : Sat w0 (pt b (.cells c T (0, 0)) * R) w) :
    w.frozen? ⟨b, i, none⟩ = false := by
  simp only [World.frozen?, Sat.at h]
  simp

theorem Sat.drew (h : Sat w0 A w) : Sat w0 A w.drew := ⟨h.os, h.tape, h.output, h.heap⟩

/-- One block turns. -/
theorem Sat.turn {w' : World} (h : Sat w0 (pt b o * R) w) (ho : w'.os = w.os) (ht : w'.tape = w.tape) (hu : w'.output = w.output)
    (hb : w'.heap[b]? = some o') (hk : ∀ k, k ≠ b → k < w.heap.size → w'.heap[k]? = w.heap[k]?) : Sat w0 (pt b o' * R) w' := by
  obtain ⟨h1, h2, h3, y, ⟨a, c, d, rfl, ha, hc⟩, hx⟩ := h
  refine ⟨ho.trans h1, ht.trans h2, hu.trans h3, jn (fun k => if k = b then some o' else none) c, ⟨_, c, ?_, rfl, rfl, hc⟩, ?_⟩
  · intro k
    rcases d k with e | e
    · rw [show a = _ from ha] at e
      left
      by_cases ek : k = b
      · simp [ek] at e
      · simp [ek]
    · exact .inr e
  · intro k ob hk'
    unfold jn at hk'
    by_cases ek : k = b
    · subst ek
      simp at hk'
      subst hk'
      exact hb
    · simp [ek] at hk'
      have hxk := hx k ob (by
        unfold jn
        rw [show a = _ from ha]
        simp [ek, hk'])
      rw [hk k ek (Array.getElem?_eq_some_iff.1 hxk).1]
      exact hxk

theorem Sat.setCell {i : Nat} {c : Array Value} {T : TypeId} {fz : Nat × Nat} (v : Value) (h : Sat w0 (pt b (.cells c T fz) * R) w) :
    Sat w0 (pt b (.cells (c.setIfInBounds i v) T fz) * R) (w.setCell ⟨b, i, none⟩ v) := by
  refine h.turn rfl rfl rfl ?_ (fun k hk _ => Below.heap_setCell w ⟨b, i, none⟩ v k hk)
  have := h.at
  simp only [World.setCell]
  rw [Array.getElem?_modify]
  simp [this]

theorem Sat.putObj (h : Sat w0 (pt b o * R) w) : Sat w0 (pt b o' * R) (w.putObj b o') :=
  h.turn rfl rfl rfl (World.putObj_heap_same h.lt) (fun _ hk _ => World.putObj_heap_other hk)

/-- New blocks, all old ones as they were. -/
theorem Sat.grow {w' : World} (h : Sat w0 R w) (hg : w.grownBy w' none) (o : Obj) (b : Nat) (hb : w.heap.size ≤ b) (hn : w'.heap[b]? = some o) : Sat w0 (pt b o * R) w' := by
  obtain ⟨h1, h2, h3, y, hc, hx⟩ := h
  refine ⟨hg.os.trans h1, hg.tape.trans h2, hg.output.trans h3, jn (fun k => if k = b then some o else none) y, ⟨_, y, ?_, rfl, rfl, hc⟩, ?_⟩
  · intro k
    by_cases ek : k = b
    · right
      cases e : y k with
      | none => rfl
      | some ob => have := (Array.getElem?_eq_some_iff.1 (hx k ob e)).1; omega
    · left; simp [ek]
  · intro k ob hk'
    unfold jn at hk'
    by_cases ek : k = b
    · subst ek
      simp at hk'
      subst hk'
      exact hn
    · simp [ek] at hk'
      have hxk := hx k ob hk'
      rw [hg.block k (Array.getElem?_eq_some_iff.1 hxk).1 (by simp)]
      exact hxk

theorem Sat.alloc (h : Sat w0 R w) (o : Obj) : Sat w0 (pt w.heap.size o * R) (w.alloc o) :=
  h.grow (World.grownBy_alloc w o none) o _ (Nat.le_refl _) (World.alloc_heap_new w o)

/-- What is grown, but for a row that the assertion names. -/
theorem Sat.grown {w' : World} (h : Sat w0 R w) (hg : w.grownBy w' none) : Sat w0 R w' := by
  obtain ⟨h1, h2, h3, y, hc, hx⟩ := h
  exact ⟨hg.os.trans h1, hg.tape.trans h2, hg.output.trans h3, y, hc, fun k o hk => by
    rw [hg.block k (Array.getElem?_eq_some_iff.1 (hx k o hk)).1 (by simp)]; exact hx k o hk⟩

/-- All that w holds. -/
def whole (w : World) : HProp := fun h => h = fun k => w.heap[k]?
theorem Sat.start (w : World) : Sat w (whole w) w := ⟨rfl, rfl, rfl, _, rfl, fun _ _ h => h⟩
theorem Sat.below (h : Sat w0 (A * whole w0) w) : Below w0.heap.size w0 w := by
  have h' := h.drop
  obtain ⟨h1, h2, h3, y, hc, hx⟩ := h'
  have hall : ∀ k o, w0.heap[k]? = some o → w.heap[k]? = some o := fun k o hk => hx k o (by rw [show y = _ from hc]; exact hk)
  refine ⟨h1, h2, h3, ?_, fun k hk => ?_⟩
  · rcases Nat.eq_zero_or_pos w0.heap.size with e | e
    · omega
    · have h0 : w0.heap[w0.heap.size - 1]? = some (w0.heap[w0.heap.size - 1]'(by omega)) := by simp
      have := (Array.getElem?_eq_some_iff.1 (hall _ _ h0)).1
      omega
  · have h0 : w0.heap[k]? = some w0.heap[k] := by simp [hk]
    rw [h0]
    exact hall _ _ h0

end Go.Sl
