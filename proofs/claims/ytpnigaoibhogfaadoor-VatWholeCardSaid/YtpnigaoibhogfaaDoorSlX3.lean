/- YtpnigaoibhogfaaDoorSlX3: a part of the proof: walks over the translated code, and plain facts on lists beside. -/
import Derived.Test.YtpnigaoibhogfaaDoorSlRangeA
set_option linter.all false
namespace Go.Sl
open Go Go.RowKit
theorem tell_at {Q1 Q2 : List Src} (h : Q1.map Src.tell = Q2.map Src.tell) {pre post : List Src} {x : Src} (hx : Q1 = pre ++ x :: post) : ∃ y, Q2[pre.length]? = some y ∧ y.name = x.name ∧ y.floor = x.floor ∧ y.seqs = x.seqs := by
  have h1 : (Q1.map Src.tell)[pre.length]? = some x.tell := by rw [hx]; simp
  rw [h, List.getElem?_map] at h1
  cases hy : Q2[pre.length]? with
  | none => rw [hy] at h1; cases h1
  | some y =>
    rw [hy] at h1
    simp only [Option.map_some, Option.some.injEq, Src.tell, Prod.mk.injEq] at h1
    exact ⟨y, rfl, h1.1, h1.2.1, h1.2.2⟩
theorem mem_at {α : Type} {l : List α} {n : Nat} {y : α} (h : l[n]? = some y) : y ∈ l := List.mem_of_getElem? h
theorem lt_at {α : Type} {l : List α} {n : Nat} {y : α} (h : l[n]? = some y) : n < l.length := (List.getElem?_eq_some_iff.1 h).1
end Go.Sl
namespace Go.Sl
open Go Go.RowKit
section
variable {w0 w : World} {R P0 : HProp}
theorem src_split {p q : List Src} {y : Src} (h : Sat w0 (srcP P0 (p ++ y :: q) * R) w) : Sat w0 (srcP P0 p * (rdP P0 y.v y.seqs.length (y.seqs.map fun n => .int .i64 n) * (srcP P0 q * R))) w := h.to (by rw [srcP_app]; simp only [srcP]; ac_rfl)
theorem src_split2 {p q : List Src} (h : Sat w0 (srcP P0 (p ++ q) * R) w) : Sat w0 (srcP P0 p * (srcP P0 q * R)) w := h.to (by rw [srcP_app]; ac_rfl)
theorem src_join {p q : List Src} {y : Src} (h : Sat w0 (srcP P0 p * (rdP P0 y.v y.seqs.length (y.seqs.map fun n => .int .i64 n) * (srcP P0 q * R))) w) : Sat w0 (srcP P0 (p ++ y :: q) * R) w := h.to (by rw [srcP_app]; simp only [srcP]; ac_rfl)
theorem rd_nil (h : Sat w0 R w) : Sat w0 (rdP P0 (.slice none 0 0) ([] : List Int).length (([] : List Int).map fun n => .int .i64 n) * R) w :=
  rd_of_sl (e := 0) (n := 0) (xs := []) (sl_nil h)
theorem srcE_one {A : HProp} {ad : Option Addr} {Q Q' : List Src} (hA : RdSrc A ad Q) (hs : ∀ x ∈ Q', x ∈ Q) : ∀ u ∈ Q'.flatMap srcE, u.oneCell' = true := by
  intro u hu
  obtain ⟨x, hx, hxu⟩ := List.mem_flatMap.1 hu
  obtain ⟨a, c, hv, _⟩ := hA.2 x (hs x hx)
  simp only [srcE, List.mem_cons, List.not_mem_nil, or_false] at hxu
  rcases hxu with e | e | e
  · subst e; rfl
  · subst e; rfl
  · rw [e, hv]; rfl
/-- An own row's rest. -/
theorem rd_tail {e : TypeId} {ad : Option Addr} {n c : Nat} {x0 : Int} {xs : List Int} (h : Sat w0 (sl e 1 (.slice ad n c) n ((x0 :: xs).map fun n => .int .i64 n) * R) w) (hn : n = xs.length + 1) : Sat w0 (rdP P0 (.slice (if c = 1 then ad else ad.map (·.add (1 * 1))) (n - 1) (c - 1)) xs.length (xs.map fun n => .int .i64 n) * R) w := by
  obtain ⟨ad', c', e', h1, h2, _⟩ := sl_form h
  cases e'
  subst hn
  have hp := rd_part (n := xs.length + 1) (lo := 1) (hi := xs.length + 1) (part := xs.map fun n => .int .i64 n) h1 (fun hn => (sl_nilS h hn).1) (sl_rds (e := e) (size := 1) (n := xs.length + 1) (cap := c) (xs := (x0 :: xs).map fun n => .int .i64 n)) (by omega) (Nat.le_refl _) (by rw [List.take_of_length_le (by simp)]; rfl)
  have := rd_mk (P0 := P0) (n := xs.length) (c := c - 1) (by omega) (by omega) (by simp) (fun hn => (hp.2 hn).1) (Rds.inp hp.1) h
  rwa [Nat.add_sub_cancel]
end
theorem noteL_there {p q : List Src} {y : Src} {name : ByteArray} {seq : Int} {O : Lo Int} (hp : ∀ x ∈ p, O_S.lt x.name name = true) (hn : y.name = name) :
    noteL name seq O ((p ++ y :: q).map Src.tell) = p.map Src.tell ++ (name, trimL (y.floor, insR O seq y.seqs)) :: q.map Src.tell := by
  subst hn
  have h1 : ∀ z ∈ p.map Src.tell, O_S.lt z.1 y.name = true := fun z hz => by obtain ⟨z0, hz0, rfl⟩ := List.mem_map.1 hz; exact hp z0 hz0
  have e : (p ++ y :: q).map Src.tell = p.map Src.tell ++ (y.name, (y.floor, y.seqs)) :: q.map Src.tell := by simp [Src.tell]
  unfold noteL
  rw [e, get_there h1, ins_there h1]; rfl
theorem noteL_gone {p q : List Src} {name : ByteArray} {seq : Int} {O : Lo Int} (hp : ∀ x ∈ p, O_S.lt x.name name = true) (hq : ∀ y r, q = y :: r → O_S.lt name y.name = true) :
    noteL name seq O ((p ++ q).map Src.tell) = p.map Src.tell ++ (name, trimL (0, insR O seq [])) :: q.map Src.tell := by
  have h1 : ∀ z ∈ p.map Src.tell, O_S.lt z.1 name = true := fun z hz => by obtain ⟨z0, hz0, rfl⟩ := List.mem_map.1 hz; exact hp z0 hz0
  have h2 : ∀ z r, q.map Src.tell = z :: r → O_S.lt name z.1 = true := fun z r hz => by
    cases q with
    | nil => cases hz
    | cons y r2 => simp only [List.map_cons, List.cons.injEq] at hz; rw [← hz.1]; exact hq y r2 rfl
  unfold noteL
  rw [List.map_append, get_gone h1 h2, ins_gone h1 h2]; rfl
end Go.Sl
namespace Go.Sl
open Go Go.RowKit
theorem RdSrc.sub {A A' : HProp} {ad : Option Addr} {Q : List Src} (h : RdSrc A ad Q) (hs : ∀ w0 R w, Sat w0 (A' * R) w → ∃ R', Sat w0 (A * R') w) : RdSrc A' ad Q :=
  ⟨fun w0 R w hS => let ⟨R', h'⟩ := hs w0 R w hS; h.1 w0 R' w h', fun x hx => let ⟨a, c, h1, h2, h3, h4, h5⟩ := h.2 x hx; ⟨a, c, h1, h2, h3, h4, fun w0 R w hS => let ⟨R', h'⟩ := hs w0 R w hS; h5 w0 R' w h'⟩⟩
end Go.Sl
