/- YtpnigaoibhogfaaDoorSlX2: a part of the proof: walks over the translated code, and plain facts on lists beside. -/
import Derived.Test.YtpnigaoibhogfaaDoorSlTag
import Derived.Test.YtpnigaoibhogfaaDoorSlSrc
set_option linter.all false
namespace Go.Sl
open Go Go.RowKit
section
variable {w0 w : World} {R A : HProp} {e : TypeId} {k n n' : Nat} {v : Value} {xs xs' : List Value}
theorem Sat.slc (h : Sat w0 (sl e k v n xs * R) w) (h1 : n = n') (h2 : xs = xs') : Sat w0 (sl e k v n' xs' * R) w := by subst h1; subst h2; exact h
/-- Cells that stand side by side. -/
def CellsAt (L : List (Nat × Obj)) (b : Nat) : Nat → List Value → Prop
  | _, [] => True
  | o, u :: us => CellAt L b o u ∧ CellsAt L b (o + 1) us
theorem CellsAt.rd {L : List (Nat × Obj)} {b : Nat} : ∀ {cs : List Value} {o : Nat}, CellsAt L b o cs → Sat w0 (blks L * R) w → RdW w (some ⟨b, o, none⟩) cs
  | [], _, _, _ => fun i u hu => by simp at hu
  | c :: cs, o, h, hS => fun i u hu => by
    cases i with
    | zero => simp at hu; subst hu; exact ⟨b, o, rfl, h.1.cell hS⟩
    | succ i =>
      obtain ⟨b', o', e, hc⟩ := CellsAt.rd h.2 hS i u (by simpa using hu)
      cases e
      exact ⟨b, o, rfl, by rw [show o + (i + 1) = o + 1 + i by omega]; exact hc⟩
theorem flen {α β : Type} {enc : α → List β} {k : Nat} (hk : ∀ x, (enc x).length = k) : ∀ {xs : List α}, (xs.flatMap enc).length = xs.length * k
  | [] => by simp
  | x :: xs => by rw [List.flatMap_cons, List.length_append, hk, flen hk, List.length_cons, Nat.succ_mul]; omega
/-- What a part of a row reads. -/
theorem Rds.part {α : Type} {enc : α → List Value} {k c lo hi : Nat} {ad : Option Addr} {pre mid post : List α} (hk : ∀ x, (enc x).length = k) (hA : Rds A ad ((pre ++ (mid ++ post)).flatMap enc)) (h1 : lo = pre.length) (h2 : hi = pre.length + mid.length) (h3 : hi ≤ c) :
    Rds A (if c = lo then ad else ad.map (·.add (lo * k))) (mid.flatMap enc) := by
  intro w0 R w hS
  have := RdW.slice (lo := lo) (hi := hi) (size := k) (c := c) (hA _ _ _ hS) (Nat.mul_le_mul_right _ h3)
  have e : (((pre ++ (mid ++ post)).flatMap enc).take (hi * k)).drop (lo * k) = mid.flatMap enc := by
    rw [List.flatMap_append, List.flatMap_append, ← List.append_assoc, List.take_left' (by rw [List.length_append, flen hk, flen hk, h2, Nat.add_mul]), List.drop_left' (by rw [flen hk, h1])]
  rwa [e] at this
theorem part_nil {c lo hi k : Nat} {ad : Option Addr} (h : ad = none → c = 0) (h2 : hi ≤ c) : (if c = lo then ad else ad.map (·.add (lo * k))) = none → c - lo = 0 ∧ hi - lo = 0 := by
  intro e
  have had : ad = none := by
    split at e
    · exact e
    · cases ad with
      | none => rfl
      | some a => cases e
  have := h had
  omega
theorem sl_nilK {ad : Option Addr} {c : Nat} (h : Sat w0 (sl e k (.slice ad n c) n xs * R) w) : ad = none → c = 0 := by
  intro hn
  subst hn
  rcases (sl_cases h).2 with ⟨e, e2, _⟩ | ⟨_, _, _, e, _⟩
  · cases e; rfl
  · cases e
theorem get_there {κ ν : Type} {O : Lo κ} {k : κ} {v : ν} : ∀ {p q : List (κ × ν)}, (∀ x ∈ p, O.lt x.1 k = true) → get O k (p ++ (k, v) :: q) = some v
  | [], q, _ => by simp [get, O.irr]
  | x :: p, q, h => by
    have hx := h x (by simp)
    simp only [List.cons_append, get, lt_asymm hx, hx]
    exact get_there (fun y hy => h y (by simp [hy]))
theorem get_gone {κ ν : Type} {O : Lo κ} {k : κ} : ∀ {p q : List (κ × ν)}, (∀ x ∈ p, O.lt x.1 k = true) → (∀ y r, q = y :: r → O.lt k y.1 = true) → get O k (p ++ q) = none
  | [], [], _, _ => rfl
  | [], y :: r, _, h => by simp [get, h y r rfl]
  | x :: p, q, h, h2 => by
    have hx := h x (by simp)
    simp only [List.cons_append, get, lt_asymm hx, hx]
    exact get_gone (fun y hy => h y (by simp [hy])) h2
theorem ins_there {κ ν : Type} {O : Lo κ} {k : κ} {v u : ν} : ∀ {p q : List (κ × ν)}, (∀ x ∈ p, O.lt x.1 k = true) → ins O k u (p ++ (k, v) :: q) = p ++ (k, u) :: q
  | [], q, _ => by simp [ins, O.irr]
  | x :: p, q, h => by
    have hx := h x (by simp)
    simp only [List.cons_append, ins, lt_asymm hx, hx]
    rw [ins_there (fun y hy => h y (by simp [hy]))]
theorem ins_gone {κ ν : Type} {O : Lo κ} {k : κ} {u : ν} : ∀ {p q : List (κ × ν)}, (∀ x ∈ p, O.lt x.1 k = true) → (∀ y r, q = y :: r → O.lt k y.1 = true) → ins O k u (p ++ q) = p ++ (k, u) :: q
  | [], [], _, _ => rfl
  | [], y :: r, _, h => by simp [ins, h y r rfl]
  | x :: p, q, h, h2 => by
    have hx := h x (by simp)
    simp only [List.cons_append, ins, lt_asymm hx, hx]
    rw [ins_gone (fun y hy => h y (by simp [hy])) h2]
theorem lt_S {a b : ByteArray} (h : cmpS a b < 0) : O_S.lt a b = true := by
  have := cb_val a.data.toList b.data.toList
  simp only [O_S, decide_eq_true_eq]; unfold cmpS at *; omega
theorem gt_S {a b : ByteArray} (h : ¬ cmpS a b < 0) (h2 : ¬ a = b) : O_S.lt b a = true := by
  have h1 := cb_val a.data.toList b.data.toList
  have h3 := cb_neg a.data.toList b.data.toList
  have h4 : ¬ cmpS a b = 0 := fun e => h2 ((cmpS_zero a b).1 e)
  simp only [O_S, decide_eq_true_eq]; unfold cmpS at *; omega
/-! ### Sources that are read -/
def RdSrc (A : HProp) (ad : Option Addr) (Q : List Src) : Prop := Rds A ad (Q.flatMap srcE) ∧ ∀ x ∈ Q, ∃ ad' c', x.v = .slice ad' x.seqs.length c' ∧ x.seqs.length ≤ c' ∧ c' ≤ maxLen ∧ (ad' = none → c' = 0) ∧ Rds A ad' (x.seqs.map fun n => .int .i64 n)
theorem rdP_pure {P0 : HProp} {v : Value} {n : Nat} {xs : List Value} (h : Sat w0 (P0 * (rdP P0 v n xs * R)) w) : ∃ ad c, v = .slice ad n c ∧ n ≤ c ∧ c ≤ maxLen ∧ xs.length = n ∧ (ad = none → c = 0) ∧ RdW w ad xs := by
  obtain ⟨A, ad, c, h1, h2, h3, h4, h5, h6, hS⟩ := rd_open h.u2
  exact ⟨ad, c, h1, h2, h3, h4, h5, h6 w0 R w (hS.to (by ac_rfl))⟩
theorem rdP_rds {P0 : HProp} {ad : Option Addr} {c n : Nat} {xs : List Value} : Rds (P0 * rdP P0 (.slice ad n c) n xs) ad xs := fun w0 R w hS => by
  obtain ⟨ad', c', e, _, _, _, _, h⟩ := rdP_pure (hS.to (star_assoc _ _ _))
  cases e; exact h
theorem srcP_mem {P0 : HProp} {x : Src} : ∀ {Q : List Src}, x ∈ Q → ∃ B, srcP P0 Q = rdP P0 x.v x.seqs.length (x.seqs.map fun n => .int .i64 n) * B
  | [], h => by cases h
  | y :: Q, h => by
    rcases List.mem_cons.1 h with e | e
    · subst e; exact ⟨_, rfl⟩
    · obtain ⟨B, hB⟩ := srcP_mem (P0 := P0) e
      exact ⟨rdP P0 y.v y.seqs.length (y.seqs.map fun n => .int .i64 n) * B, by simp only [srcP, hB]; ac_rfl⟩
theorem srcs_rd {P0 : HProp} {ad : Option Addr} {c : Nat} {Q : List Src} (h : Sat w0 ((P0 * (sl e 3 (.slice ad Q.length c) Q.length (Q.flatMap srcE) * srcP P0 Q)) * R) w) : RdSrc (P0 * (sl e 3 (.slice ad Q.length c) Q.length (Q.flatMap srcE) * srcP P0 Q)) ad Q := by
  refine ⟨Rds.r (Rds.l sl_rds), fun x hx => ?_⟩
  obtain ⟨B, hB⟩ := srcP_mem (P0 := P0) hx
  have h' : Sat w0 (P0 * (rdP P0 x.v x.seqs.length (x.seqs.map fun n => .int .i64 n) * (B * (sl e 3 (.slice ad Q.length c) Q.length (Q.flatMap srcE) * R)))) w := h.to (by rw [hB]; ac_rfl)
  obtain ⟨ad', c', e1, h2, h3, _, h5, _⟩ := rdP_pure h'
  refine ⟨ad', c', e1, h2, h3, h5, fun w0 R w hS => ?_⟩
  have hS' : Sat w0 ((P0 * rdP P0 x.v x.seqs.length (x.seqs.map fun n => .int .i64 n)) * (B * (sl e 3 (.slice ad Q.length c) Q.length (Q.flatMap srcE) * R))) w := hS.to (by rw [hB]; ac_rfl)
  rw [e1] at hS'
  exact rdP_rds _ _ _ hS'
end
/-- What the slow twin tells. -/
def canL (name : ByteArray) (seq : Int) (O : Lo Int) (l : List (ByteArray × (Int × List Int))) : Int :=
  match get O_S name l with
  | none => if 8 ≤ (l.length : Int) then 16 else 0
  | some d => if seq ≤ d.1 ∨ 0 < cntR O seq d.2 then 13 else 0
def trimL (d : Int × List Int) : Int × List Int :=
  if 32 < (d.2.length : Int) then match d.2 with
    | [] => d
    | x :: r => (x, r)
  else d
def noteL (name : ByteArray) (seq : Int) (O : Lo Int) (l : List (ByteArray × (Int × List Int))) : List (ByteArray × (Int × List Int)) :=
  ins O_S name (trimL (((get O_S name l).getD (0, [])).1, insR O seq ((get O_S name l).getD (0, [])).2)) l
end Go.Sl
