/- YtpnigaoibhogfaaDoorSlPT: a part of the proof: walks over the translated code, and plain facts on lists beside. -/
import Derived.Test.YtpnigaoibhogfaaDoorSlX
import Derived.Test.YtpnigaoibhogfaaDoorSlRack
set_option linter.all false
namespace Go.Sl
open Go Go.RowKit
/-! ### Trees whose places are told: these can be read by many at once -/
inductive PT (κ ν : Type) where
  | leaf
  | node (b : Nat) (l : PT κ ν) (k : κ) (v : ν) (r : PT κ ν)
section
variable {κ ν : Type}
def PT.p : PT κ ν → Option Addr
  | .leaf => none
  | .node b _ _ _ _ => some ⟨b, 0, none⟩
def PT.t : PT κ ν → T κ ν
  | .leaf => .leaf
  | .node _ l k v r => .node l.t k v r.t
def PT.sz : PT κ ν → Nat
  | .leaf => 0
  | .node _ l _ _ r => 1 + l.sz + r.sz
def PT.toList (q : PT κ ν) : List (κ × ν) := q.t.toList
def ptree (E : Enc κ ν) : PT κ ν → HProp
  | .leaf => hemp
  | .node b l k v r => pt b (.cells #[E.k k, E.v v, .pointer l.p, .pointer r.p, .int .i64 (1 + max l.t.h r.t.h), .int .i64 (1 + l.t.m + r.t.m)] E.ty (0, 0)) * (ptree E l * ptree E r)
variable {E : Enc κ ν} {w0 w : World}
theorem tree_pt : ∀ {t : T κ ν} {p : Option Addr} {R : HProp}, Sat w0 (tree E p t * R) w → ∃ q : PT κ ν, q.t = t ∧ q.p = p ∧ Sat w0 (ptree E q * R) w
  | .leaf, p, R, h => by
    obtain ⟨rfl, h1⟩ := tree_leaf h
    exact ⟨.leaf, rfl, rfl, h1.to (hemp_star R).symm⟩
  | .node l k v r, p, R, h => by
    obtain ⟨b, pl, pr, rfl, h1⟩ := tree_node h
    obtain ⟨ql, e1, e2, h2⟩ := tree_pt (t := l) (h1.u2)
    obtain ⟨qr, e3, e4, h3⟩ := tree_pt (t := r) (h2.u3)
    subst e1; subst e2; subst e3; subst e4
    exact ⟨.node b ql k v qr, rfl, rfl, h3.to (by simp only [ptree, blks]; ac_rfl)⟩
theorem pt_tree : ∀ {q : PT κ ν} {R : HProp}, Sat w0 (ptree E q * R) w → Sat w0 (tree E q.p q.t * R) w
  | .leaf, R, h => tree_leaf_mk (h.to (hemp_star R))
  | .node b l k v r, R, h => by
    have h1 := pt_tree (q := l) (R := blks [(b, .cells #[E.k k, E.v v, .pointer l.p, .pointer r.p, .int .i64 (1 + max l.t.h r.t.h), .int .i64 (1 + l.t.m + r.t.m)] E.ty (0, 0))] * (ptree E r * R)) (h.to (by simp only [ptree, blks]; ac_rfl))
    have h2 := pt_tree (q := r) h1.u3
    exact tree_node_mk rfl rfl (h2.to (by ac_rfl))
def CellsIn (E : Enc κ ν) (w : World) : PT κ ν → Prop
  | .leaf => True
  | .node b l k v r => w.cell? ⟨b, 0, none⟩ = some (E.k k) ∧ w.cell? ⟨b, 1, none⟩ = some (E.v v) ∧ w.cell? ⟨b, 2, none⟩ = some (.pointer l.p) ∧ w.cell? ⟨b, 3, none⟩ = some (.pointer r.p) ∧ CellsIn E w l ∧ CellsIn E w r
/-- Wherever A holds, the tree's cells are these. -/
def RdT (E : Enc κ ν) (A : HProp) (q : PT κ ν) : Prop := ∀ w0 R w, Sat w0 (A * R) w → CellsIn E w q
theorem rdT : ∀ {q : PT κ ν}, RdT E (ptree E q) q
  | .leaf => fun _ _ _ _ => trivial
  | .node b l k v r => fun w0 R w h => by
    have h' : Sat w0 (pt b (.cells #[E.k k, E.v v, .pointer l.p, .pointer r.p, .int .i64 (1 + max l.t.h r.t.h), .int .i64 (1 + l.t.m + r.t.m)] E.ty (0, 0)) * (ptree E l * (ptree E r * R))) w := h.to (by simp only [ptree]; ac_rfl)
    exact ⟨h'.cell rfl, h'.cell rfl, h'.cell rfl, h'.cell rfl, rdT (q := l) _ _ _ h'.u2, rdT (q := r) _ _ _ h'.u3⟩
theorem RdT.l {A : HProp} {b : Nat} {l r : PT κ ν} {k : κ} {v : ν} (h : RdT E A (.node b l k v r)) : RdT E A l := fun w0 R w hS => (h w0 R w hS).2.2.2.2.1
theorem RdT.r {A : HProp} {b : Nat} {l r : PT κ ν} {k : κ} {v : ν} (h : RdT E A (.node b l k v r)) : RdT E A r := fun w0 R w hS => (h w0 R w hS).2.2.2.2.2
theorem RdT.lft {A B : HProp} {q : PT κ ν} (h : RdT E A q) : RdT E (A * B) q := fun w0 R w hS => h w0 (B * R) w (hS.to (by ac_rfl))
theorem RdT.rgt {A B : HProp} {q : PT κ ν} (h : RdT E B q) : RdT E (A * B) q := fun w0 R w hS => h w0 (A * R) w (hS.to (by ac_rfl))
/-- 'it' hands xs over; A stands whole at each call of what takes them. -/
def IterA (P : Program) (it : Value) (A It : HProp) {α : Type} (encs : α → Array Value) (xs : List α) : Prop :=
  ∀ (w0 : World) (y : Value) (J Jx : List α → HProp), (∃ fn a b, y = .func fn a b) →
    (∀ pre x post R w, xs = pre ++ x :: post → Sat w0 (A * (J pre * R)) w →
        FV P y (encs x) w (fun r w' => (r = .bool true ∧ Sat w0 (A * (J (pre ++ [x]) * R)) w') ∨ (r = .bool false ∧ Sat w0 (A * (Jx (pre ++ [x]) * R)) w'))) →
    ∀ R w, Sat w0 (It * (A * (J [] * R))) w →
      FV P it #[y] w (fun _ w' => Sat w0 (It * (A * (J xs * R))) w' ∨ ∃ pre, pre <+: xs ∧ Sat w0 (It * (A * (Jx pre * R))) w')
/-- .. which is an iterator where A is a part of what turns. -/
theorem IterA.iter {P : Program} {it : Value} {A It : HProp} {α : Type} {encs : α → Array Value} {xs : List α} (h : IterA P it A It encs xs) : Iter P it (It * A) encs xs := by
  intro w0 y J Jx hyf hy R w hS
  have := h w0 y J Jx hyf (fun pre x post R w hx hS => (hy pre x post (A * R) w hx (hS.to (by ac_rfl))).mono (fun r w' hr => by
    rcases hr with ⟨e, h⟩ | ⟨e, h⟩
    · exact .inl ⟨e, h.to (by ac_rfl)⟩
    · exact .inr ⟨e, h.to (by ac_rfl)⟩)) R w (hS.to (by ac_rfl))
  refine this.mono (fun r w' hr => ?_)
  rcases hr with h | ⟨pre, hp, h⟩
  · exact .inl (h.to (by ac_rfl))
  · exact .inr ⟨pre, hp, h.to (by ac_rfl)⟩
/-- .. and one that leaves A in the hands of the round's own part. -/
theorem IterA.part {P : Program} {it : Value} {A It : HProp} {α : Type} {encs : α → Array Value} {xs : List α} (h : IterA P it A It encs xs) (w0 : World) (y : Value) (J Jx : List α → HProp) (hyf : ∃ fn a b, y = .func fn a b)
    (hy : ∀ pre x post R w, xs = pre ++ x :: post → Sat w0 ((A * J pre) * R) w →
        FV P y (encs x) w (fun r w' => (r = .bool true ∧ Sat w0 ((A * J (pre ++ [x])) * R) w') ∨ (r = .bool false ∧ Sat w0 ((A * Jx (pre ++ [x])) * R) w')))
    (R : HProp) (w : World) (hS : Sat w0 (It * ((A * J []) * R)) w) : FV P it #[y] w (fun _ w' => Sat w0 (It * ((A * J xs) * R)) w' ∨ ∃ pre, pre <+: xs ∧ Sat w0 (It * ((A * Jx pre) * R)) w') := by
  have := h w0 y J Jx hyf (fun pre x post R w hx hS => (hy pre x post R w hx (hS.to (by ac_rfl))).mono (fun r w' hr => by
    rcases hr with ⟨e, h⟩ | ⟨e, h⟩
    · exact .inl ⟨e, h.to (by ac_rfl)⟩
    · exact .inr ⟨e, h.to (by ac_rfl)⟩)) R w (hS.to (by ac_rfl))
  refine this.mono (fun r w' hr => ?_)
  rcases hr with h | ⟨pre, hp, h⟩
  · exact .inl (h.to (by ac_rfl))
  · exact .inr ⟨pre, hp, h.to (by ac_rfl)⟩
end
end Go.Sl
namespace Go.Sl
open Go Go.RowKit
section
variable {κ ν : Type} {E : Enc κ ν} {w0 w : World}
/-- Wherever A holds, the rack at rb has this tree. -/
def RkR (E : Enc κ ν) (A : HProp) (rb : Nat) (q : PT κ ν) : Prop := ∀ w0 R w, Sat w0 (A * R) w → (w.cell? ⟨rb, 0, none⟩ = some E.cv ∧ w.cell? ⟨rb, 1, none⟩ = some (.pointer q.p)) ∧ CellsIn E w q
theorem RkR.t {A : HProp} {rb : Nat} {q : PT κ ν} (h : RkR E A rb q) : RdT E A q := fun w0 R w hS => (h w0 R w hS).2
theorem RkR.lft {A B : HProp} {rb : Nat} {q : PT κ ν} (h : RkR E A rb q) : RkR E (A * B) rb q := fun w0 R w hS => h w0 (B * R) w (hS.to (by ac_rfl))
theorem RkR.rgt {A B : HProp} {rb : Nat} {q : PT κ ν} (h : RkR E B rb q) : RkR E (A * B) rb q := fun w0 R w hS => h w0 (A * R) w (hS.to (by ac_rfl))
/-- A rack at rb, its places told. -/
def prack (E : Enc κ ν) (rb : Nat) (q : PT κ ν) : HProp := blks [(rb, .cells #[E.cv, .pointer q.p] E.rty (0, 0))] * ptree E q
theorem prack_rd {rb : Nat} {q : PT κ ν} : RkR E (prack E rb q) rb q := fun w0 R w hS => by
  have h : Sat w0 (pt rb (.cells #[E.cv, .pointer q.p] E.rty (0, 0)) * (ptree E q * R)) w := hS.to (by simp only [prack, blks]; ac_rfl)
  exact ⟨⟨h.cell rfl, h.cell rfl⟩, rdT _ _ _ h.u2⟩
variable {O : Lo κ} {R : HProp} {rb : Nat} {xs : List (κ × ν)}
theorem rack_p (h : Sat w0 (rackP E O rb xs * R) w) : ∃ q : PT κ ν, q.toList = xs ∧ Srt O xs ∧ Sat w0 (prack E rb q * R) w := by
  obtain ⟨root, t, h1, h2, hS⟩ := rackP_open h
  obtain ⟨q, e1, e2, hS2⟩ := tree_pt hS.u2
  subst e2; subst e1
  exact ⟨q, h1, h2, hS2.to (by simp only [prack]; ac_rfl)⟩
theorem p_rack {q : PT κ ν} (h1 : q.toList = xs) (h2 : Srt O xs) (h : Sat w0 (prack E rb q * R) w) : Sat w0 (rackP E O rb xs * R) w := by
  have h3 := pt_tree (h.to (B := ptree E q * (blks [(rb, .cells #[E.cv, .pointer q.p] E.rty (0, 0))] * R)) (by simp only [prack]; ac_rfl))
  exact rackP_mk h1 h2 (h3.to (by ac_rfl))
end
end Go.Sl
