/- YtpnigaoibhogfaaDoorSlRack: a part of the proof: walks over the translated code, and plain facts on lists beside. -/
import Derived.Test.YtpnigaoibhogfaaDoorSlEnd
set_option linter.all false
namespace Go.Sl
open Go Go.RowKit

/-! ### Trees of entries in order, whatever the keys and the values are -/
structure Lo (κ : Type) where
  lt : κ → κ → Bool
  irr : ∀ a, lt a a = false
  tr : ∀ a b c, lt a b = true → lt b c = true → lt a c = true
  eq : ∀ a b, lt a b = false → lt b a = false → a = b
structure Enc (κ ν : Type) where
  k : κ → Value
  v : ν → Value
  ty : TypeId
  rty : TypeId
  cv : Value

theorem Sat.i2 {w0 w : World} {A B C D : HProp} (h : Sat w0 (A * ((B * C) * D)) w) : Sat w0 (B * (A * (C * D))) w := h.to (by ac_rfl)
theorem Sat.i3 {w0 w : World} {A B C D X : HProp} (h : Sat w0 (A * (X * ((B * C) * D))) w) : Sat w0 (B * (A * (X * (C * D)))) w := h.to (by ac_rfl)
inductive T (κ ν : Type) where
  | leaf
  | node (l : T κ ν) (k : κ) (v : ν) (r : T κ ν)
section
variable {κ ν : Type}
def T.h : T κ ν → Int
  | .leaf => 0
  | .node l _ _ r => 1 + max l.h r.h
def T.m : T κ ν → Int
  | .leaf => 0
  | .node l _ _ r => 1 + l.m + r.m
def T.toList : T κ ν → List (κ × ν)
  | .leaf => []
  | .node l k v r => l.toList ++ (k, v) :: r.toList
theorem T.m_len (t : T κ ν) : t.m = (t.toList.length : Int) := by
  induction t with
  | leaf => rfl
  | node l k v r ihl ihr => simp only [T.m, T.toList, List.length_append, List.length_cons, ihl, ihr]; omega
theorem T.bd (t : T κ ν) : 0 ≤ t.h ∧ t.h ≤ t.m := by
  induction t with
  | leaf => simp [T.h, T.m]
  | node l k v r ihl ihr => simp only [T.m, T.h]; omega
theorem T.h0 {t : T κ ν} (h : 0 < t.h) : ∃ l k v r, t = .node l k v r := by
  cases t with
  | leaf => simp [T.h] at h
  | node l k v r => exact ⟨l, k, v, r, rfl⟩

def tree (E : Enc κ ν) : Option Addr → T κ ν → HProp
  | p, .leaf => pur (p = none)
  | p, .node l k v r => hex fun b => hex fun pl => hex fun pr => pur (p = some ⟨b, 0, none⟩) *
      (pt b (.cells #[E.k k, E.v v, .pointer pl, .pointer pr, .int .i64 (1 + max l.h r.h), .int .i64 (1 + l.m + r.m)] E.ty (0, 0)) * (tree E pl l * tree E pr r))

variable {E : Enc κ ν} {w0 w : World} {p : Option Addr} {R : HProp} {l r : T κ ν} {k : κ} {v : ν}
theorem tree_leaf (h : Sat w0 (tree E p .leaf * R) w) : p = none ∧ Sat w0 R w := Sat.pure h
theorem tree_leaf_mk (h : Sat w0 R w) : Sat w0 (tree E none .leaf * R) w := Sat.mkpure rfl h
theorem tree_node (h : Sat w0 (tree E p (.node l k v r) * R) w) :
    ∃ b pl pr, p = some ⟨b, 0, none⟩ ∧ Sat w0 (blks [(b, .cells #[E.k k, E.v v, .pointer pl, .pointer pr, .int .i64 (1 + max l.h r.h), .int .i64 (1 + l.m + r.m)] E.ty (0, 0))] * (tree E pl l * (tree E pr r * R))) w := by
  obtain ⟨b, h⟩ := Sat.ex h
  obtain ⟨pl, h⟩ := Sat.ex h
  obtain ⟨pr, h⟩ := Sat.ex h
  obtain ⟨hp, h⟩ := Sat.pure (h.to (star_assoc _ _ _))
  exact ⟨b, pl, pr, hp, h.to (by simp only [blks]; ac_rfl)⟩
theorem tree_node_mk {b : Nat} {pl pr : Option Addr} {hh mm : Int} (e1 : hh = 1 + max l.h r.h) (e2 : mm = 1 + l.m + r.m)
    (h : Sat w0 (blks [(b, .cells #[E.k k, E.v v, .pointer pl, .pointer pr, .int .i64 hh, .int .i64 mm] E.ty (0, 0))] * (tree E pl l * (tree E pr r * R))) w) : Sat w0 (tree E (some ⟨b, 0, none⟩) (.node l k v r) * R) w := by
  subst e1; subst e2
  refine Sat.mkex b (Sat.mkex pl (Sat.mkex pr ?_))
  exact (Sat.mkpure rfl (h.to (by simp only [blks]; ac_rfl))).to (star_assoc _ _ _).symm
/-! ### What the walks leave, in lists -/
def ins (O : Lo κ) (k : κ) (v : ν) : List (κ × ν) → List (κ × ν)
  | [] => [(k, v)]
  | x :: r => match O.lt k x.1 with
    | true => (k, v) :: x :: r
    | false => match O.lt x.1 k with
      | true => x :: ins O k v r
      | false => (x.1, v) :: r
def get (O : Lo κ) (k : κ) : List (κ × ν) → Option ν
  | [] => none
  | x :: r => match O.lt k x.1 with
    | true => none
    | false => match O.lt x.1 k with
      | true => get O k r
      | false => some x.2
def del (O : Lo κ) (k : κ) : List (κ × ν) → List (κ × ν)
  | [] => []
  | x :: r => match O.lt k x.1 with
    | true => x :: r
    | false => match O.lt x.1 k with
      | true => x :: del O k r
      | false => r
def Srt (O : Lo κ) (l : List (κ × ν)) : Prop := l.Pairwise fun a b => O.lt a.1 b.1 = true

variable {O : Lo κ} {L M : List (κ × ν)} {k0 : κ} {v0 : ν}
theorem ins_lt (h : O.lt k k0 = true) : ins O k v (L ++ (k0, v0) :: M) = ins O k v L ++ (k0, v0) :: M := by
  induction L with
  | nil => simp [ins, h]
  | cons x L ih =>
    simp only [List.cons_append, ins]
    cases O.lt k x.1 with
    | true => rfl
    | false =>
      cases O.lt x.1 k with
      | true => simp [ih]
      | false => rfl
theorem get_lt (h : O.lt k k0 = true) : get O k (L ++ (k0, v0) :: M) = get O k L := by
  induction L with
  | nil => simp [get, h]
  | cons x L ih =>
    simp only [List.cons_append, get, ih]
theorem del_lt (h : O.lt k k0 = true) : del O k (L ++ (k0, v0) :: M) = del O k L ++ (k0, v0) :: M := by
  induction L with
  | nil => simp [del, h]
  | cons x L ih =>
    simp only [List.cons_append, del]
    cases O.lt k x.1 with
    | true => rfl
    | false =>
      cases O.lt x.1 k with
      | true => simp [ih]
      | false => rfl
theorem lt_asymm {a b : κ} (h : O.lt a b = true) : O.lt b a = false := by
  cases e : O.lt b a with
  | false => rfl
  | true => have := O.tr _ _ _ h e; rw [O.irr] at this; cases this
theorem ins_gt (hall : ∀ x ∈ L, O.lt x.1 k = true) : ins O k v (L ++ M) = L ++ ins O k v M := by
  induction L with
  | nil => rfl
  | cons x L ih =>
    have hx := hall x (List.mem_cons_self ..)
    simp only [List.cons_append, ins, lt_asymm hx, hx, ih fun y hy => hall y (List.mem_cons_of_mem _ hy)]
theorem get_gt (hall : ∀ x ∈ L, O.lt x.1 k = true) : get O k (L ++ M) = get O k M := by
  induction L with
  | nil => rfl
  | cons x L ih =>
    have hx := hall x (List.mem_cons_self ..)
    simp only [List.cons_append, get, lt_asymm hx, hx, ih fun y hy => hall y (List.mem_cons_of_mem _ hy)]
theorem del_gt (hall : ∀ x ∈ L, O.lt x.1 k = true) : del O k (L ++ M) = L ++ del O k M := by
  induction L with
  | nil => rfl
  | cons x L ih =>
    have hx := hall x (List.mem_cons_self ..)
    simp only [List.cons_append, del, lt_asymm hx, hx, ih fun y hy => hall y (List.mem_cons_of_mem _ hy)]
theorem srt_left (h : Srt O (L ++ (k0, v0) :: M)) : Srt O L ∧ Srt O M ∧ (∀ x ∈ L, O.lt x.1 k0 = true) ∧ (∀ x ∈ M, O.lt k0 x.1 = true) := by
  unfold Srt at h ⊢
  rw [List.pairwise_append] at h
  obtain ⟨h1, h2, h3⟩ := h
  rw [List.pairwise_cons] at h2
  exact ⟨h1, h2.2, fun x hx => h3 x hx (k0, v0) (List.mem_cons_self ..), h2.1⟩
theorem srt_mk (h1 : Srt O L) (h2 : Srt O M) (h3 : ∀ x ∈ L, O.lt x.1 k0 = true) (h4 : ∀ x ∈ M, O.lt k0 x.1 = true) : Srt O (L ++ (k0, v0) :: M) := by
  unfold Srt at *
  rw [List.pairwise_append, List.pairwise_cons]
  refine ⟨h1, ⟨h4, h2⟩, fun a ha b hb => ?_⟩
  rcases List.mem_cons.1 hb with e | e
  · subst e; exact h3 a ha
  · exact O.tr _ _ _ (h3 a ha) (h4 b e)
def cmpv (O : Lo κ) (a b : κ) : Int := if O.lt a b then -1 else if O.lt b a then 1 else 0
theorem lt_all (e : O.lt k0 k = true) (h : ∀ x ∈ L, O.lt x.1 k0 = true) : ∀ x ∈ L, O.lt x.1 k = true := fun x hx => O.tr _ _ _ (h x hx) e
theorem ins_gt_ (e : O.lt k0 k = true) (h : ∀ x ∈ L, O.lt x.1 k0 = true) : ins O k v (L ++ (k0, v0) :: M) = L ++ (k0, v0) :: ins O k v M := by
  rw [ins_gt (lt_all e h)]; simp [ins, lt_asymm e, e]
theorem get_gt_ (e : O.lt k0 k = true) (h : ∀ x ∈ L, O.lt x.1 k0 = true) : get O k (L ++ (k0, v0) :: M) = get O k M := by
  rw [get_gt (lt_all e h)]; simp [get, lt_asymm e, e]
theorem del_gt_ (e : O.lt k0 k = true) (h : ∀ x ∈ L, O.lt x.1 k0 = true) : del O k (L ++ (k0, v0) :: M) = L ++ (k0, v0) :: del O k M := by
  rw [del_gt (lt_all e h)]; simp [del, lt_asymm e, e]
theorem ins_eq (e1 : O.lt k k0 = false) (e2 : O.lt k0 k = false) (h : ∀ x ∈ L, O.lt x.1 k0 = true) : ins O k v (L ++ (k0, v0) :: M) = L ++ (k0, v) :: M := by
  have := O.eq _ _ e1 e2; subst this
  rw [ins_gt h]; simp [ins, O.irr]
theorem get_eq (e1 : O.lt k k0 = false) (e2 : O.lt k0 k = false) (h : ∀ x ∈ L, O.lt x.1 k0 = true) : get O k (L ++ (k0, v0) :: M) = some v0 := by
  have := O.eq _ _ e1 e2; subst this
  rw [get_gt h]; simp [get, O.irr]
theorem del_eq (e1 : O.lt k k0 = false) (e2 : O.lt k0 k = false) (h : ∀ x ∈ L, O.lt x.1 k0 = true) : del O k (L ++ (k0, v0) :: M) = L ++ M := by
  have := O.eq _ _ e1 e2; subst this
  rw [del_gt h]; simp [del, O.irr]
theorem ins_keys : ∀ {L : List (κ × ν)} {x}, x ∈ ins O k v L → x.1 = k ∨ ∃ y ∈ L, y.1 = x.1
  | [], x, h => by simp [ins] at h; left; rw [h]
  | y :: L, x, h => by
    unfold ins at h
    split at h
    · rcases List.mem_cons.1 h with e | e
      · left; rw [e]
      · exact .inr ⟨x, e, rfl⟩
    · split at h
      · rcases List.mem_cons.1 h with e | e
        · exact .inr ⟨y, List.mem_cons_self .., by rw [e]⟩
        · rcases ins_keys e with e | ⟨z, hz, e⟩
          · exact .inl e
          · exact .inr ⟨z, List.mem_cons_of_mem _ hz, e⟩
      · rcases List.mem_cons.1 h with e | e
        · exact .inr ⟨y, List.mem_cons_self .., by rw [e]⟩
        · exact .inr ⟨x, List.mem_cons_of_mem _ e, rfl⟩
theorem ins_srt : ∀ {L : List (κ × ν)}, Srt O L → Srt O (ins O k v L)
  | [], _ => by simp [ins, Srt]
  | y :: L, h => by
    unfold Srt at h
    rw [List.pairwise_cons] at h
    unfold ins
    split
    · rename_i e
      unfold Srt
      rw [List.pairwise_cons, List.pairwise_cons]
      refine ⟨fun a ha => ?_, h⟩
      rcases List.mem_cons.1 ha with e' | e'
      · subst e'; exact e
      · exact O.tr _ _ _ e (h.1 a e')
    · split
      · rename_i e
        have ih := ins_srt (show Srt O L from h.2)
        unfold Srt
        rw [List.pairwise_cons]
        refine ⟨fun a ha => ?_, ih⟩
        rcases ins_keys ha with e' | ⟨z, hz, e'⟩
        · rw [e']; exact e
        · rw [← e']; exact h.1 z hz
      · unfold Srt
        rw [List.pairwise_cons]
        exact ⟨fun a ha => h.1 a ha, h.2⟩
theorem del_mem : ∀ {L : List (κ × ν)} {x}, x ∈ del O k L → x ∈ L
  | [], x, h => by simp [del] at h
  | y :: L, x, h => by
    unfold del at h
    split at h
    · exact h
    · split at h
      · rcases List.mem_cons.1 h with e | e
        · rw [e]; exact List.mem_cons_self ..
        · exact List.mem_cons_of_mem _ (del_mem e)
      · exact List.mem_cons_of_mem _ h
theorem del_srt : ∀ {L : List (κ × ν)}, Srt O L → Srt O (del O k L)
  | [], _ => by simp [del, Srt]
  | y :: L, h => by
    unfold Srt at h
    rw [List.pairwise_cons] at h
    unfold del
    split
    · unfold Srt; rw [List.pairwise_cons]; exact h
    · split
      · have ih := del_srt (show Srt O L from h.2)
        unfold Srt
        rw [List.pairwise_cons]
        exact ⟨fun a ha => h.1 a (del_mem ha), ih⟩
      · exact h.2
theorem ins_len : (ins O k v L).length = L.length + (if (get O k L).isSome then 0 else 1) := by
  induction L with
  | nil => rfl
  | cons x L ih =>
    cases e1 : O.lt k x.1 <;> cases e2 : O.lt x.1 k <;> simp [ins, get, e1, e2, ih] <;> omega
theorem del_len : (del O k L).length + (if (get O k L).isSome then 1 else 0) = L.length := by
  induction L with
  | nil => rfl
  | cons x L ih =>
    cases e1 : O.lt k x.1 <;> cases e2 : O.lt x.1 k <;> simp [del, get, e1, e2] <;> omega
def T.sz : T κ ν → Nat
  | .leaf => 0
  | .node l _ _ r => 1 + l.sz + r.sz
/-- A rack at block rb: its entries. -/
def rackP (E : Enc κ ν) (O : Lo κ) (rb : Nat) (xs : List (κ × ν)) : HProp :=
  hex fun root => hex fun t => pur (t.toList = xs ∧ Srt O xs) * (pt rb (.cells #[E.cv, .pointer root] E.rty (0, 0)) * tree E root t)
theorem rackP_open {rb : Nat} {xs : List (κ × ν)} (h : Sat w0 (rackP E O rb xs * R) w) : ∃ root t, t.toList = xs ∧ Srt O xs ∧ Sat w0 (blks [(rb, .cells #[E.cv, .pointer root] E.rty (0, 0))] * (tree E root t * R)) w := by
  obtain ⟨root, h⟩ := Sat.ex h
  obtain ⟨t, h⟩ := Sat.ex h
  obtain ⟨hp, h⟩ := Sat.pure (h.to (star_assoc _ _ _))
  exact ⟨root, t, hp.1, hp.2, h.to (by simp only [blks]; ac_rfl)⟩
theorem rackP_mk {rb : Nat} {xs : List (κ × ν)} {root : Option Addr} {t : T κ ν} (h1 : t.toList = xs) (h2 : Srt O xs) (h : Sat w0 (blks [(rb, .cells #[E.cv, .pointer root] E.rty (0, 0))] * (tree E root t * R)) w) : Sat w0 (rackP E O rb xs * R) w := by
  refine Sat.mkex root (Sat.mkex t ?_)
  exact (Sat.mkpure ⟨h1, h2⟩ (h.to (by simp only [blks]; ac_rfl))).to (star_assoc _ _ _).symm
/-- What Get hands back. -/
def getV (E : Enc κ ν) (z : Value) : Option ν → Value
  | some v => .tuple #[E.v v, .bool true]
  | none => .tuple #[z, .bool false]
end
end Go.Sl
