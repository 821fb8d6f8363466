/- YtpnigaoibhogfaaDoorSlLaw: a part of the proof: walks over the translated code, and plain facts on lists beside. -/
import Derived.Test.YtpnigaoibhogfaaDoorSlRes
set_option linter.all false
namespace Go.Sl
open Go Go.RowKit
/-! ### What a law stands on -/
section
variable {w w0 W : World} {R : HProp} {κ : Type} {O : Lo κ}
theorem whole_rds {ad : Option Addr} {vs : List Value} (h : RdW W ad vs) : Rds (whole W) ad vs := by
  intro w0 R w hS i u hu
  obtain ⟨b, o, e, hc⟩ := h i u hu
  refine ⟨b, o, e, ?_⟩
  obtain ⟨o', t, u', y, ⟨a, b', d, rfl, ha, hb⟩, hx⟩ := hS
  have hblk : ∀ (k : Nat) (ob : Obj), W.heap[k]? = some ob → w.heap[k]? = some ob := by
    intro k ob hk
    refine hx k ob ?_
    have : a k = some ob := by rw [show a = _ from ha]; exact hk
    simp [jn, this]
  cases hob : W.heap[b]? with
  | none =>
    exfalso
    revert hc
    simp [World.cell?, hob]
  | some ob =>
    have h2 := hblk b ob hob
    revert hc
    simp [World.cell?, hob, h2]
theorem fold_comm {l m : List κ} : ∀ {s : List κ}, l.foldl (fun s y => insR O y s) (m.foldl (fun s y => insR O y s) s) = m.foldl (fun s y => insR O y s) (l.foldl (fun s y => insR O y s) s) := by
  induction l with
  | nil => intro s; rfl
  | cons z r ih => intro s; rw [List.foldl_cons, List.foldl_cons, ← ih]; congr 1; exact fold_ins.symm
/-- What is told of the fold that fills a sack. -/
theorem fill_facts {l : List κ} : Wf (l.foldl (fun s y => addE O y s) []) ∧ Srt O (l.foldl (fun s y => addE O y s) []) ∧ tot (l.foldl (fun s y => addE O y s) []) = l.length ∧ expand (l.foldl (fun s y => addE O y s) []) = l.foldl (fun s y => insR O y s) [] := by
  have h := foldAdd (O := O) (es := []) (l := l) (fun _ h => by cases h) List.Pairwise.nil
  refine ⟨h.1, h.2.1, ?_, h.2.2.2⟩
  rw [h.2.2.1]; simp [tot]
theorem insl_len {l : List κ} : (l.foldl (fun s y => insR O y s) []).length = l.length := by rw [foldIns_len]; simp
/-- A slice of whole numbers that the law is handed. -/
def IsRowI (k : IntKind) (w : World) (a : Option Addr) (len cap : Nat) (zs : List Int) : Prop :=
  (a = none ∧ len = 0 ∧ cap = 0 ∧ zs = []) ∨
  ∃ x, a = some x ∧ len ≤ cap ∧ cap ≤ maxLen ∧ zs.length = cap ∧ (∀ i, i < zs.length → w.cell? (x.add i) = some (.int k (zs.getD i 0)))
theorem IsRowI.facts {k : IntKind} {a : Option Addr} {len cap : Nat} {zs : List Int} (h : IsRowI k w a len cap zs) :
    RdW w a ((zs.take len).map fun n => .int k n) ∧ (zs.take len).length = len ∧ len ≤ maxLen ∧ (a = none → cap = 0 ∧ len = 0) := by
  rcases h with ⟨rfl, rfl, rfl, rfl⟩ | ⟨x, rfl, h1, h2, h3, h4⟩
  · exact ⟨fun i u hu => by simp at hu, rfl, by simp [maxLen], fun _ => ⟨rfl, rfl⟩⟩
  · refine ⟨fun i u hu => ?_, by rw [List.length_take]; omega, by omega, fun e => by cases e⟩
    rw [List.getElem?_map] at hu
    have hi : i < len := by
      rcases Nat.lt_or_ge i len with h | h
      · exact h
      · rw [List.getElem?_eq_none (by rw [List.length_take]; omega)] at hu; cases hu
    have hz : (zs.take len)[i]? = some (zs.getD i 0) := by
      rw [List.getElem?_take, if_pos hi, List.getD_eq_getElem?_getD, List.getElem?_eq_getElem (by omega)]; rfl
    rw [hz] at hu; cases hu
    have h0 := h4 0 (by omega)
    have hs : x.spot = none := by
      have : x.add 0 = x := rfl
      rw [this] at h0
      unfold World.cell? at h0
      cases hsp : x.spot with
      | none => rfl
      | some y => rw [hsp] at h0; split at h0 <;> simp at h0
    obtain ⟨b, o, sp⟩ := x
    simp only at hs; subst hs
    refine ⟨b, o, rfl, ?_⟩
    have := h4 i (by omega)
    rwa [add_at] at this
theorem flatMap_at {α β : Type} {enc : α → List β} {k : Nat} (hk : ∀ x, (enc x).length = k) : ∀ {xs : List α} {m : Nat} {x : α}, xs[m]? = some x → ∀ j, j < k → (xs.flatMap enc)[m * k + j]? = (enc x)[j]?
  | [], m, x, h, _, _ => by simp at h
  | y :: ys, 0, x, h, j, hj => by
    simp at h; subst h
    rw [List.flatMap_cons, Nat.zero_mul, Nat.zero_add, List.getElem?_append_left (by rw [hk]; exact hj)]
  | y :: ys, m + 1, x, h, j, hj => by
    have ih := flatMap_at hk (xs := ys) (m := m) (x := x) (by simpa using h) j hj
    rw [List.flatMap_cons, List.getElem?_append_right (by rw [hk, Nat.succ_mul]; omega), hk, ← ih]
    congr 1
    rw [Nat.succ_mul]; omega
theorem elK {α : Type} {enc : α → List Value} {k m : Nat} {xs : List α} {x : α} {ad : Option Addr} (hk : ∀ x, (enc x).length = k) (hpos : 0 < k) (h : RdW w ad (xs.flatMap enc)) (hx : xs[m]? = some x) :
    ∃ b o, ad = some ⟨b, o, none⟩ ∧ RdW w (some ⟨b, o + m * k, none⟩) (enc x) := by
  have at_ := flatMap_at hk hx
  obtain ⟨u, hu⟩ : ∃ u, (enc x)[0]? = some u := ⟨_, List.getElem?_eq_getElem (by rw [hk]; exact hpos)⟩
  obtain ⟨b, o, e, _⟩ := h (m * k + 0) u (by rw [at_ 0 hpos]; exact hu)
  refine ⟨b, o, e, fun i v hv => ?_⟩
  have hi : i < k := by
    rcases Nat.lt_or_ge i k with h | h
    · exact h
    · rw [List.getElem?_eq_none (by rw [hk]; exact h)] at hv; cases hv
  obtain ⟨b', o', e', hc⟩ := h (m * k + i) v (by rw [at_ i hi]; exact hv)
  rw [e] at e'; cases e'
  exact ⟨b, o + m * k, rfl, by rw [Nat.add_assoc]; exact hc⟩
theorem sl_nilS {e : TypeId} {ad : Option Addr} {n c : Nat} {vs : List Value} (h : Sat w0 (sl e 1 (.slice ad n c) n vs * R) w) : ad = none → c = 0 ∧ n = 0 := by
  intro hn
  subst hn
  rcases (sl_cases h).2 with ⟨e, e2, _⟩ | ⟨_, _, _, e, _⟩
  · cases e; exact ⟨rfl, rfl⟩
  · cases e
end
end Go.Sl
