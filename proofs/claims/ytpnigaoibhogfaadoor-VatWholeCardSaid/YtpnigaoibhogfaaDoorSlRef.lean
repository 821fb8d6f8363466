/- YtpnigaoibhogfaaDoorSlRef: a part of the proof: walks over the translated code, and plain facts on lists beside. -/
import Derived.Test.YtpnigaoibhogfaaDoorSlSack
import Derived.Test.YtpnigaoibhogfaaDoorSlAgg
set_option linter.all false
namespace Go.Sl
open Go Go.RowKit

/-! ### The slow things beside: plain lists -/
section
variable {κ : Type} {O : Lo κ} {x : κ} {pre post : List κ}
theorem insR_split (h1 : ∀ y ∈ pre, O.lt x y = false) (h2 : ∀ z q, post = z :: q → O.lt x z = true) : insR O x (pre ++ post) = pre ++ x :: post := by
  induction pre with
  | nil =>
    cases post with
    | nil => rfl
    | cons z q => simp only [List.nil_append, insR, h2 z q rfl]
  | cons y r ih =>
    simp only [List.cons_append, insR, h1 y (by simp), ih (fun z hz => h1 z (by simp [hz]))]
theorem cntR_app {a b : List κ} : cntR O x (a ++ b) = cntR O x a + cntR O x b := by
  induction a with
  | nil => simp [cntR]
  | cons y r ih => simp only [List.cons_append, cntR, ih]; omega
theorem cntR_one_eq : cntR O x [x] = 1 := by simp [cntR, O.irr]
theorem cntR_one_ne {y : κ} (h : ¬ y = x) : cntR O x [y] = 0 := by
  simp only [cntR]
  cases e1 : O.lt x y <;> cases e2 : O.lt y x <;> simp
  exact h (O.eq _ _ e2 e1)
theorem cntR_le (l : List κ) : 0 ≤ cntR O x l ∧ cntR O x l ≤ l.length := by
  induction l with
  | nil => simp [cntR]
  | cons y r ih =>
    simp only [cntR, List.length_cons]
    cases O.lt x y <;> cases O.lt y x <;> simp <;> omega
def SrtR (O : Lo κ) (l : List κ) : Prop := l.Pairwise fun a b => O.lt b a = false
theorem eraR_split (h1 : ∀ y ∈ pre, ¬ y = x) (hs : SrtR O (pre ++ x :: post)) : eraR O x (pre ++ x :: post) = pre ++ post := by
  induction pre with
  | nil => simp [eraR, O.irr]
  | cons y r ih =>
    rw [List.cons_append] at hs
    have hs' := List.pairwise_cons.1 hs
    have e1 : O.lt x y = false := hs'.1 x (by simp)
    have e2 : O.lt y x = true := by
      cases e2 : O.lt y x with
      | true => rfl
      | false => exact absurd (O.eq _ _ e2 e1) (h1 y (by simp))
    simp only [List.cons_append, eraR, e1, e2, ih (fun z hz => h1 z (by simp [hz])) hs'.2]
theorem eraR_none {l : List κ} (h1 : ∀ y ∈ l, ¬ y = x) : eraR O x l = l := by
  induction l with
  | nil => rfl
  | cons y r ih =>
    simp only [eraR]
    cases e1 : O.lt x y with
    | true => rfl
    | false =>
      cases e2 : O.lt y x with
      | true => simp only [ih (fun z hz => h1 z (by simp [hz]))]
      | false => exact absurd (O.eq _ _ e2 e1) (h1 y (by simp))
theorem insR_mem {y : κ} {l : List κ} (h : y ∈ insR O x l) : y = x ∨ y ∈ l := by
  induction l with
  | nil => simpa [insR] using h
  | cons z r ih =>
    simp only [insR] at h
    cases e : O.lt x z with
    | true => rw [e] at h; simpa using h
    | false =>
      rw [e] at h
      rcases List.mem_cons.1 h with e | e
      · exact .inr (by simp [e])
      · rcases ih e with e | e
        · exact .inl e
        · exact .inr (by simp [e])
theorem lt_of_not {a b c : κ} (h1 : O.lt b a = false) (h2 : O.lt c b = false) : O.lt c a = false := by
  cases e : O.lt c a with
  | false => rfl
  | true =>
    cases e2 : O.lt a b with
    | true => rw [O.tr _ _ _ e e2] at h2; cases h2
    | false => rw [O.eq _ _ e2 h1] at e; rw [e] at h2; cases h2
theorem insR_srt {l : List κ} (h : SrtR O l) : SrtR O (insR O x l) := by
  induction l with
  | nil => simp [insR, SrtR]
  | cons z r ih =>
    have h' := List.pairwise_cons.1 h
    simp only [insR]
    cases e : O.lt x z with
    | true =>
      have e' : O.lt z x = false := by
        cases e' : O.lt z x with
        | false => rfl
        | true => have := O.tr _ _ _ e e'; rw [O.irr] at this; cases this
      refine List.pairwise_cons.2 ⟨fun y hy => ?_, h⟩
      rcases List.mem_cons.1 hy with ey | ey
      · rw [ey]; exact e'
      · exact lt_of_not e' (h'.1 y ey)
    | false =>
      refine List.pairwise_cons.2 ⟨fun y hy => ?_, ih h'.2⟩
      rcases insR_mem hy with ey | ey
      · rw [ey]; exact e
      · exact h'.1 y ey
theorem eraR_sub (l : List κ) : (eraR O x l).Sublist l := by
  induction l with
  | nil => exact List.Sublist.slnil
  | cons y r ih =>
    simp only [eraR]
    split
    · exact List.Sublist.refl _
    · split
      · exact ih.cons_cons _
      · exact List.sublist_cons_self _ _
theorem eraR_srt {l : List κ} (h : SrtR O l) : SrtR O (eraR O x l) := List.Pairwise.sublist (eraR_sub l) h
theorem insR_len {l : List κ} : (insR O x l).length = l.length + 1 := by
  induction l with
  | nil => rfl
  | cons z r ih => simp only [insR]; cases O.lt x z <;> simp [ih]
theorem eraR_len {l : List κ} : (eraR O x l).length ≤ l.length := (eraR_sub l).length_le
theorem foldIns_len {l : List κ} : ∀ {a : List κ}, (l.foldl (fun s y => insR O y s) a).length = a.length + l.length := by
  induction l with
  | nil => simp
  | cons z r ih => intro a; rw [List.foldl_cons, ih, insR_len, List.length_cons]; omega
theorem foldIns_srt {l : List κ} : ∀ {a : List κ}, SrtR O a → SrtR O (l.foldl (fun s y => insR O y s) a) := by
  induction l with
  | nil => exact fun h => h
  | cons z r ih => exact fun h => ih (insR_srt h)
theorem insR_back {l : List κ} (h : ∀ y ∈ l, O.lt x y = false) : insR O x l = l ++ [x] := by
  simpa using insR_split (O := O) (x := x) (pre := l) (post := []) h (fun _ _ e => by cases e)
theorem foldIns_self {l : List κ} : ∀ {a : List κ}, SrtR O (a ++ l) → l.foldl (fun s y => insR O y s) a = a ++ l := by
  induction l with
  | nil => simp
  | cons z r ih =>
    intro a h
    rw [List.foldl_cons, insR_back, ih]
    · simp
    · simpa using h
    · intro y hy
      exact (List.pairwise_append.1 h).2.2 y hy z (by simp)
theorem foldAdd {l : List κ} : ∀ {es : List (κ × Int)}, Wf es → Srt O es → Wf (l.foldl (fun s y => addE O y s) es) ∧ Srt O (l.foldl (fun s y => addE O y s) es) ∧
    tot (l.foldl (fun s y => addE O y s) es) = tot es + l.length ∧ expand (l.foldl (fun s y => addE O y s) es) = l.foldl (fun s y => insR O y s) (expand es) := by
  induction l with
  | nil => intro es h1 h2; simp [h1, h2]
  | cons z r ih =>
    intro es h1 h2
    obtain ⟨i1, i2, i3, i4⟩ := ih (es := addE O z es) (addE_wf h1) (addE_srt h2)
    simp only [List.foldl_cons, List.length_cons]
    refine ⟨i1, i2, ?_, ?_⟩
    · rw [i3, addE_tot]; omega
    · rw [i4, addE_exp h1 h2]
theorem srtR_expand {es : List (κ × Int)} (hw : Wf es) (hs : Srt O es) : SrtR O (expand es) := by
  induction es with
  | nil => exact List.Pairwise.nil
  | cons e r ih =>
    have hr := srt_tail hs
    refine List.pairwise_append.2 ⟨?_, ih hw.tail.2 hr.1, ?_⟩
    · rw [List.pairwise_replicate]; exact .inr (O.irr _)
    · intro a ha b hb
      rw [List.mem_replicate] at ha
      obtain ⟨y, hy, rfl⟩ := expand_mem hb
      have h1 := hr.2 y hy
      rw [ha.2]
      cases e' : O.lt y.1 e.1 with
      | false => rfl
      | true => have := O.tr _ _ _ h1 e'; rw [O.irr] at this; cases this
theorem insR_comm_app {a b : List κ} : ∀ {s : List κ}, (a ++ b).foldl (fun s y => insR O y s) s = b.foldl (fun s y => insR O y s) (a.foldl (fun s y => insR O y s) s) := by
  intro s; rw [List.foldl_append]
theorem insR_insR {y : κ} {l : List κ} : insR O x (insR O y l) = insR O y (insR O x l) := by
  induction l with
  | nil =>
    simp only [insR]
    cases e1 : O.lt x y <;> cases e2 : O.lt y x <;> simp only
    · rw [O.eq _ _ e1 e2]
    · have := O.tr _ _ _ e1 e2; rw [O.irr] at this; cases this
  | cons z r ih =>
    simp only [insR]
    cases e1 : O.lt y z <;> cases e2 : O.lt x z <;> simp only [insR, e1, e2]
    · rw [ih]
    · cases e3 : O.lt y x with
      | true => rw [O.tr _ _ _ e3 e2] at e1; cases e1
      | false => simp only
    · cases e3 : O.lt x y with
      | true => rw [O.tr _ _ _ e3 e1] at e2; cases e2
      | false => simp only
    · cases e3 : O.lt x y <;> cases e4 : O.lt y x <;> simp only
      · rw [O.eq _ _ e3 e4]
      · have := O.tr _ _ _ e3 e4; rw [O.irr] at this; cases this
theorem fold_ins {l : List κ} : ∀ {s : List κ}, l.foldl (fun s y => insR O y s) (insR O x s) = insR O x (l.foldl (fun s y => insR O y s) s) := by
  induction l with
  | nil => intro s; rfl
  | cons z r ih => intro s; rw [List.foldl_cons, List.foldl_cons, ← ih, insR_insR]
theorem fold_merge {l m : List κ} : ∀ {s : List κ}, (l.foldl (fun s y => insR O y s) s).foldl (fun s y => insR O y s) m = l.foldl (fun s y => insR O y s) (s.foldl (fun s y => insR O y s) m) := by
  induction l with
  | nil => intro s; rfl
  | cons z r ih =>
    intro s
    rw [List.foldl_cons, List.foldl_cons, ih]
    congr 1
    -- folding an insertion in
    have key : ∀ (s : List κ) (m : List κ), (insR O z s).foldl (fun s y => insR O y s) m = insR O z (s.foldl (fun s y => insR O y s) m) := by
      intro s
      induction s with
      | nil => intro m; rfl
      | cons a q ihs =>
        intro m
        simp only [insR]
        cases O.lt z a with
        | true => simp only [List.foldl_cons]; rw [insR_insR, fold_ins]
        | false => simp only [List.foldl_cons]; rw [ihs]
    exact key s m
end

/-! ### Elements of slices -/
section
variable {P : Program} {w w0 : World} {f : Fr} {p : Par} {K : Fr → World → Prop} {r : Plan} {h : Hist} {l : Lds} {i : Nat} {v : Value} {ty : TypeId} {pos : String} {after : Array Edge} {dst : Option Nat} {g : Option (Nat × Bool)} {e : TypeId} {size : Nat}
theorem el1 {ad : Option Addr} {xs : List Value} {m : Nat} {u : Value} (h : RdW w ad xs) (hx : xs[m]? = some u) : ∃ b o, ad = some ⟨b, o, none⟩ ∧ w.cell? ⟨b, o + m * 1, none⟩ = some u := by
  obtain ⟨b, o, e, hc⟩ := h m u hx
  exact ⟨b, o, e, by rwa [Nat.mul_one]⟩
theorem O_indexSlE {x ix : Operand} {t : TypeId} {ad : Option Addr} {b o n c m : Nat} {k : IntKind} {j : Int} (ho : p.ops[i]? = some ⟨dst, .indexAddr t x ix, ty, pos, after, g⟩) (hk : p.kind i = 0) (hw : wantF f p.ops ⟨dst, .indexAddr t x ix, ty, pos, after, g⟩ = some true) (hn : dstOk f dst = true)
    (hu : ∀ w, (underlying t).run P w = .ok (.slice e) w) (hsz : ∀ w, (Go.sizeOf e).run P w = .ok size w) (hx : f.ev x = some (.slice ad n c)) (had : ad = some ⟨b, o, none⟩) (hix : f.ev ix = some (.int k j)) (hj : j = (m : Int)) (hm : m < n)
    (H : wpR P p K r h l (putd f dst (.pointer (some ⟨b, o + m * size, none⟩))) w) : wpR P p K (.one i r) h l f w := by
  subst had; subst hj
  exact O_indexSl ho hk hw hn hu hsz hx hix ⟨by omega, by omega⟩ H
/-- A loop over a list's front and rest. -/
theorem F_loop2 {ro : Option Nat} {Q : Exit → Fr → World → Prop} {c : Code} {α β : Type} (L : α → β → List (Nat × Value)) (A : α → β → World → Prop) (μ : α → β → Nat) (x0 : α) (y0 : β) (hL : Sup f (L x0 y0)) (h0 : A x0 y0 w)
    (round : ∀ x y w, A x y w → wpF P ro c (thenF (fun g w' => g.n = f.n ∧ g.ds = f.ds ∧ ∃ q : α × β, Sup g (L q.1 q.2) ∧ A q.1 q.2 w' ∧ μ q.1 q.2 < μ x y) Q) ⟨f.n, f.ds, L x y⟩ w) : wpF P ro (.loop c) Q f w :=
  F_loop (α := α × β) (fun q => L q.1 q.2) (fun q => A q.1 q.2) (fun q => μ q.1 q.2) (x0, y0) hL h0 (fun q w h => round q.1 q.2 w h)
theorem bnd_int {k : IntKind} {d m : Nat} : bnd (some (.int k (m : Int))) d m := ⟨by omega, by omega⟩
theorem bnd_intE {k : IntKind} {d m : Nat} {j : Int} (h : j = (m : Int)) : bnd (some (.int k j)) d m := ⟨by omega, by omega⟩
theorem bnd_none {d : Nat} : bnd none d d := rfl
theorem sl_cong {v : Value} {n n' : Nat} {xs xs' : List Value} (h1 : n = n') (h2 : xs = xs') : sl e size v n xs = sl e size v n' xs' := by rw [h1, h2]
theorem sl_part {R : HProp} {ad : Option Addr} {n c lo hi : Nat} {vs part : List Value} (h : Sat w0 (sl e 1 (.slice ad n c) n vs * R) w) (h1 : lo ≤ hi) (h2 : hi ≤ n) (hp : (vs.take hi).drop lo = part) :
    RdW w (if c = lo then ad else ad.map (·.add (lo * 1))) part ∧ ((if c = lo then ad else ad.map (·.add (lo * 1))) = none → c - lo = 0 ∧ hi - lo = 0) := by
  obtain ⟨_, cap, e, hle, _, _⟩ := sl_form h
  cases e
  constructor
  · have := RdW.slice (lo := lo) (hi := hi) (size := 1) (c := c) (sl_rd h) (by omega)
    rw [Nat.mul_one, Nat.mul_one] at this
    rwa [← hp, Nat.mul_one]
  · intro hn
    have had : ad = none := by
      split at hn
      · exact hn
      · cases ad with
        | none => rfl
        | some a => cases hn
    rcases (sl_cases h).2 with ⟨e, e2, _⟩ | hh
    · cases e; omega
    · subst had
      exfalso
      obtain ⟨_, _, _, e, _⟩ := hh
      cases e
end
end Go.Sl
