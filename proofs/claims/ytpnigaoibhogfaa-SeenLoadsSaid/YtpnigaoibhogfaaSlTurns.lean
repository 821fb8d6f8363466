/- YtpnigaoibhogfaaSlTurns: a part of the proof: walks over the translated code, and plain facts on lists beside. -/
import Derived.Test.YtpnigaoibhogfaaSlOpen
set_option linter.all false
namespace Go.Sl
open Go Go.RowKit
/-! ### Few numbers of few sources, in whatever order -/
section
variable {κ ν : Type} {O : Lo κ} {k : κ}
theorem get_lt_head {x : κ × ν} {r : List (κ × ν)} (h : O.lt k x.1 = true) : get O k (x :: r) = none := by simp [get, h]
theorem get_tail_none {x : κ × ν} {r : List (κ × ν)} (hs : Srt O (x :: r)) : get O x.1 r = none := by
  refine get_none_of fun y hy e => ?_
  unfold Srt at hs
  have := (List.pairwise_cons.1 hs).1 y hy
  rw [e, O.irr] at this; cases this
theorem get_tail_lt {x : κ × ν} {r : List (κ × ν)} (hs : Srt O (x :: r)) (h : O.lt k x.1 = true) : get O k r = none := by
  refine get_none_of fun y hy e => ?_
  unfold Srt at hs
  have := (List.pairwise_cons.1 hs).1 y hy
  have h2 := O.tr _ _ _ h this
  rw [e, O.irr] at h2; cases h2
theorem srt_ext : ∀ {L M : List (κ × ν)}, Srt O L → Srt O M → (∀ k, get O k L = get O k M) → L = M
  | [], [], _, _, _ => rfl
  | [], y :: m, _, _, h => by have := h y.1; simp [get, O.irr] at this
  | x :: l, [], _, _, h => by have := h x.1; simp [get, O.irr] at this
  | x :: l, y :: m, h1, h2, h => by
    have e1 : O.lt x.1 y.1 = false := by
      cases e : O.lt x.1 y.1 with
      | false => rfl
      | true => have := h x.1; rw [get_lt_head e] at this; simp [get, O.irr] at this
    have e2 : O.lt y.1 x.1 = false := by
      cases e : O.lt y.1 x.1 with
      | false => rfl
      | true => have := h y.1; rw [get_lt_head e] at this; simp [get, O.irr] at this
    have ek := O.eq _ _ e1 e2
    have ev : x.2 = y.2 := by
      have := h x.1
      simp only [get, O.irr, ek] at this
      simpa using this
    have exy : x = y := Prod.ext ek ev
    subst exy
    have s1 : Srt O l := (List.pairwise_cons.1 h1).2
    have s2 : Srt O m := (List.pairwise_cons.1 h2).2
    rw [srt_ext s1 s2 (fun k => ?_)]
    have hk := h k
    simp only [get] at hk
    cases e3 : O.lt k x.1 with
    | true => rw [get_tail_lt h1 e3, get_tail_lt h2 e3]
    | false =>
      cases e4 : O.lt x.1 k with
      | true => rw [e3, e4] at hk; exact hk
      | false =>
        have := O.eq _ _ e3 e4
        subst this
        rw [get_tail_none h1, get_tail_none h2]
theorem get_ins_ne {k0 : κ} {v : ν} (hne : ¬ k = k0) : ∀ {L : List (κ × ν)}, Srt O L → get O k (ins O k0 v L) = get O k L
  | [], _ => by
    simp only [ins, get]
    cases e1 : O.lt k k0 with
    | true => rfl
    | false =>
      cases e2 : O.lt k0 k with
      | true => rfl
      | false => exact absurd (O.eq _ _ e1 e2) hne
  | x :: r, hs => by
    have sr : Srt O r := (List.pairwise_cons.1 hs).2
    simp only [ins]
    cases e1 : O.lt k0 x.1 with
    | true =>
      simp only [get]
      cases e2 : O.lt k k0 with
      | true => rw [O.tr _ _ _ e2 e1]
      | false =>
        cases e3 : O.lt k0 k with
        | true => rfl
        | false => exact absurd (O.eq _ _ e2 e3) hne
    | false =>
      cases e2 : O.lt x.1 k0 with
      | true => simp only [get, get_ins_ne hne sr]
      | false =>
        have := O.eq _ _ e1 e2
        subst this
        simp only [get]
        cases e3 : O.lt k x.1 with
        | true => rfl
        | false =>
          cases e4 : O.lt x.1 k with
          | true => rfl
          | false => exact absurd (O.eq _ _ e3 e4) hne
end
section
variable {O : Lo Int}
abbrev Acts := List (ByteArray × Int)
def dOf (n : ByteArray) (L : SeenL) : Int × List (Int × Bool) := (get O_S n L).getD (0, [])
def noteN (O : Lo Int) (L : SeenL) (a : ByteArray × Int) : SeenL := ins O_S a.1 ((dOf a.1 L).1, ins O a.2 true (dOf a.1 L).2) L
def runS (O : Lo Int) (l : Acts) : SeenL := l.foldl (fun L a => noteS O_S O a.1 a.2 L) []
theorem snoc_of {α : Type} {n : Nat} {l : List α} (h : l.length = n + 1) : ∃ m a, l = m ++ [a] ∧ m.length = n := by
  cases e : l.reverse with
  | nil => rw [List.reverse_eq_nil_iff] at e; subst e; simp at h
  | cons a r =>
    have e2 : l = r.reverse ++ [a] := by rw [← List.reverse_reverse l, e, List.reverse_cons]
    exact ⟨r.reverse, a, e2, by rw [e2] at h; simpa using h⟩
/-- What stands after these, no one trimmed. -/
structure Told (O : Lo Int) (l : Acts) (L : SeenL) : Prop where
  srt : Srt O_S L
  isrt : ∀ n, Srt O (dOf n L).2
  there : ∀ n, (get O_S n L).isSome = true ↔ ∃ a ∈ l, a.1 = n
  floor : ∀ n, (dOf n L).1 = 0
  keys : ∀ n k, ((n, k) ∈ l → get O k (dOf n L).2 = some true) ∧ (¬ (n, k) ∈ l → get O k (dOf n L).2 = none)
  len : ∀ n, (dOf n L).2.length ≤ l.length
theorem Told.nil : Told O [] [] := ⟨List.Pairwise.nil, fun _ => List.Pairwise.nil, fun n => by simp [get], fun _ => rfl, fun n k => ⟨(fun h => by cases h), fun _ => rfl⟩, fun n => by simp [dOf, get]⟩
theorem dOf_ins {n m : ByteArray} {d : Int × List (Int × Bool)} {L : SeenL} (hs : Srt O_S L) : dOf n (ins O_S m d L) = if n = m then d else dOf n L := by
  by_cases h : n = m
  · subst h; rw [if_pos rfl]; unfold dOf; rw [get_ins]; rfl
  · rw [if_neg h]; unfold dOf; rw [get_ins_ne h hs]
theorem Told.snoc {l : Acts} {L : SeenL} {a : ByteArray × Int} (h : Told O l L) : Told O (l ++ [a]) (noteN O L a) := by
  have hd : ∀ n, dOf n (noteN O L a) = if n = a.1 then ((dOf a.1 L).1, ins O a.2 true (dOf a.1 L).2) else dOf n L := fun n => dOf_ins h.srt
  refine ⟨ins_srt h.srt, fun n => ?_, fun n => ?_, fun n => ?_, fun n k => ?_, fun n => ?_⟩
  · rw [hd]; split
    · exact ins_srt (h.isrt _)
    · exact h.isrt n
  · unfold noteN
    by_cases e : n = a.1
    · subst e; rw [get_ins]; simp
    · rw [get_ins_ne e h.srt, h.there]
      constructor
      · rintro ⟨b, hb, e2⟩; exact ⟨b, by simp [hb], e2⟩
      · rintro ⟨b, hb, e2⟩
        rcases List.mem_append.1 hb with hb | hb
        · exact ⟨b, hb, e2⟩
        · rw [List.mem_singleton.1 hb] at e2; exact absurd e2.symm e
  · rw [hd]; split
    · exact h.floor _
    · exact h.floor n
  · rw [hd]
    split
    · rename_i e
      subst e
      by_cases ek : k = a.2
      · subst ek
        simp only [get_ins]
        exact ⟨fun _ => by simp, fun hn => absurd (by simp) hn⟩
      · rw [get_ins_ne ek (h.isrt _)]
        have : ((a.1, k) ∈ l ++ [a]) ↔ (a.1, k) ∈ l := by
          simp only [List.mem_append, List.mem_singleton, or_iff_left_iff_imp]
          intro e; exact absurd (congrArg Prod.snd e) ek
        rw [this]; exact h.keys _ _
    · rename_i e
      have : ((n, k) ∈ l ++ [a]) ↔ (n, k) ∈ l := by
        simp only [List.mem_append, List.mem_singleton, or_iff_left_iff_imp]
        intro e2; exact absurd (congrArg Prod.fst e2) e
      rw [this]; exact h.keys _ _
  · rw [hd]
    have := h.len n
    split
    · rename_i e
      subst e
      have := ins_len_le (O := O) (k := a.2) (v := true) (L := (dOf a.1 L).2)
      simp only [List.length_append, List.length_singleton]; omega
    · simp only [List.length_append, List.length_singleton]; omega
theorem noteN_S {l : Acts} {L : SeenL} {a : ByteArray × Int} (h : Told O l L) (hl : l.length < 32) : noteS O_S O a.1 a.2 L = noteN O L a := by
  unfold noteS noteN noteD
  congr 1
  have h1 := h.len a.1
  have h2 := ins_len_le (O := O) (k := a.2) (v := true) (L := (dOf a.1 L).2)
  unfold trimD
  rw [if_neg (by simp only; unfold dOf at h1 h2; omega)]
  rfl
theorem runS_snoc {l : Acts} {a : ByteArray × Int} : runS O (l ++ [a]) = noteS O_S O a.1 a.2 (runS O l) := by simp [runS, List.foldl_append]
theorem told_run : ∀ (n : Nat) (l : Acts), l.length = n → n ≤ 32 → Told O l (runS O l)
  | 0, l, h, _ => by rw [List.eq_nil_of_length_eq_zero h]; exact Told.nil
  | n + 1, l, h, hn => by
    obtain ⟨m, a, rfl, hm⟩ := snoc_of h
    have ih := told_run n m hm (by omega)
    rw [runS_snoc, noteN_S ih (by omega)]
    exact ih.snoc
theorem told_ext {l m : Acts} {L M : SeenL} (h1 : Told O l L) (h2 : Told O m M) (hm : ∀ a, a ∈ l ↔ a ∈ m) : L = M := by
  refine srt_ext h1.srt h2.srt fun n => ?_
  have hd : dOf n L = dOf n M := by
    refine Prod.ext (by rw [h1.floor, h2.floor]) (srt_ext (h1.isrt n) (h2.isrt n) fun k => ?_)
    by_cases hk : (n, k) ∈ l
    · rw [(h1.keys n k).1 hk, (h2.keys n k).1 ((hm _).1 hk)]
    · rw [(h1.keys n k).2 hk, (h2.keys n k).2 (fun h => hk ((hm _).2 h))]
  have ht : (get O_S n L).isSome = true ↔ (get O_S n M).isSome = true := by
    rw [h1.there, h2.there]
    constructor
    · rintro ⟨a, ha, e⟩; exact ⟨a, (hm a).1 ha, e⟩
    · rintro ⟨a, ha, e⟩; exact ⟨a, (hm a).2 ha, e⟩
  unfold dOf at hd
  cases e1 : get O_S n L <;> cases e2 : get O_S n M <;> simp_all
/-- All of these were taken, one by one. -/
def Acc (O : Lo Int) (l : Acts) : Prop := ∀ p a q, l = p ++ a :: q → canS O_S O a.1 a.2 (runS O p) = 0
theorem acc_nil : Acc O [] := fun p a q h => by cases p <;> cases h
theorem acc_snoc {l : Acts} {a : ByteArray × Int} (h : Acc O l) (ha : canS O_S O a.1 a.2 (runS O l) = 0) : Acc O (l ++ [a]) := by
  intro p b q hp
  rcases List.append_eq_append_iff.1 hp with ⟨r, h1, h2⟩ | ⟨r, h1, h2⟩
  · cases r with
    | nil => simp at h1 h2; obtain ⟨rfl, rfl⟩ := h2; rw [h1]; exact ha
    | cons c r => simp at h2
  · cases r with
    | nil => simp at h1 h2; obtain ⟨rfl, rfl⟩ := h2; rw [← h1]; exact ha
    | cons c r => simp at h2; obtain ⟨rfl, h3⟩ := h2; exact h p b r h1
theorem acc_fresh {l p q : Acts} {a : ByteArray × Int} (h : Acc O l) (hl : l.length ≤ 32) (he : l = p ++ a :: q) : ¬ a ∈ p := by
  intro hm
  have hc := h p a q he
  have ht := told_run (O := O) p.length p rfl (by rw [he, List.length_append] at hl; omega)
  have hk := (ht.keys a.1 a.2).1 hm
  have := can0_get hc
  unfold dOf at hk
  rw [hk] at this
  exact this rfl
theorem acc_wf : ∀ (n : Nat) {l : Acts}, l.length = n → Acc O l → WfS O (runS O l)
  | 0, l, h, _ => by rw [List.eq_nil_of_length_eq_zero h]; exact wf_nil
  | n + 1, l, h, ha => by
    obtain ⟨m, b, rfl, hm⟩ := snoc_of h
    rw [runS_snoc]
    refine note_wf (acc_wf n hm ?_) (ha _ _ [] rfl)
    intro p a q hp
    exact ha p a (q ++ [b]) (by rw [hp]; simp)
theorem run_len_mono {l : Acts} {a : ByteArray × Int} : (runS O l).length ≤ (runS O (l ++ [a])).length := by
  rw [runS_snoc]; unfold noteS; rw [ins_len]; omega
theorem run_len_app : ∀ (q p : Acts), (runS O p).length ≤ (runS O (p ++ q)).length
  | [], p => by simp
  | a :: q, p => by
    have h1 := run_len_mono (O := O) (l := p) (a := a)
    have h2 := run_len_app q (p ++ [a])
    rw [List.append_assoc, List.singleton_append] at h2
    omega
/-- In whatever other order they are taken, too. -/
theorem acc_perm {l m p q : Acts} {a : ByteArray × Int} (h : Acc O l) (hl : l.length ≤ 32) (h1 : ∀ b ∈ l, 1 ≤ b.2) (hml : m.length = l.length) (hm : ∀ b, b ∈ m ↔ b ∈ l) (hnd : ¬ a ∈ p) (he : m = p ++ a :: q) : canS O_S O a.1 a.2 (runS O p) = 0 := by
  have hpl : p.length + (q.length + 1) = l.length := by rw [← hml, he, List.length_append, List.length_cons]
  have ht := told_run (O := O) p.length p rfl (by omega)
  have ham : a ∈ l := (hm a).1 (by rw [he]; simp)
  have hk := (ht.keys a.1 a.2).2 hnd
  have hf := ht.floor a.1
  have e1 : runS O m = runS O l := told_ext (told_run (O := O) m.length m rfl (by omega)) (told_run (O := O) l.length l rfl hl) hm
  unfold canS
  cases hg : get O_S a.1 (runS O p) with
  | none =>
    simp only
    have h8 := (acc_wf l.length rfl h).1
    rw [← e1, he, show p ++ a :: q = (p ++ [a]) ++ q by simp] at h8
    have h9 := run_len_app (O := O) q (p ++ [a])
    rw [runS_snoc] at h9
    have h10 : (noteS O_S O a.1 a.2 (runS O p)).length = (runS O p).length + 1 := by unfold noteS; rw [ins_len, hg]; rfl
    rw [if_neg (by
      have : (runS O p).length + 1 ≤ 8 := by rw [← h10]; exact Nat.le_trans h9 h8
      omega)]
  | some d =>
    simp only
    unfold dOf at hk hf
    rw [hg] at hk hf
    simp only [Option.getD_some] at hk hf
    have := h1 a ham
    rw [if_neg (by rw [hk, hf]; simp; omega)]
end
/-! ### The other order: turned round, and then on -/
def turnI (n t i : Nat) : Nat := n - 1 - (i + t) % n
theorem mod_two {n t i : Nat} (hi : i < n) : (i + t) % n = if i + t % n < n then i + t % n else i + t % n - n := by
  have ht := Nat.mod_lt t (show 0 < n by omega)
  rw [← Nat.add_mod_mod]
  split
  · rename_i h; exact Nat.mod_eq_of_lt h
  · rename_i h
    rw [Nat.mod_eq_sub_mod (by omega)]
    exact Nat.mod_eq_of_lt (by omega)
theorem turnI_lt {n t i : Nat} (hi : i < n) : turnI n t i < n := by unfold turnI; omega
theorem turnI_inj {n t i j : Nat} (hi : i < n) (hj : j < n) (h : turnI n t i = turnI n t j) : i = j := by
  have ht := Nat.mod_lt t (show 0 < n by omega)
  have h1 := Nat.mod_lt (i + t) (show 0 < n by omega)
  have h2 := Nat.mod_lt (j + t) (show 0 < n by omega)
  unfold turnI at h
  have h3 : (i + t) % n = (j + t) % n := by omega
  rw [mod_two hi, mod_two hj] at h3
  generalize t % n = s at *
  split at h3 <;> split at h3 <;> omega
theorem turnI_surj {n t m : Nat} (hm : m < n) : ∃ i, i < n ∧ turnI n t i = m := by
  have ht := Nat.mod_lt t (show 0 < n by omega)
  by_cases h : t % n ≤ n - 1 - m
  · refine ⟨n - 1 - m - t % n, by omega, ?_⟩
    unfold turnI
    rw [mod_two (by omega)]
    generalize t % n = s at *
    split <;> omega
  · refine ⟨n + (n - 1 - m) - t % n, by omega, ?_⟩
    unfold turnI
    rw [mod_two (by omega)]
    generalize t % n = s at *
    split <;> omega
def turned {α : Type} (t : Nat) (l : List α) (d : α) : List α := (List.range l.length).map fun i => (l[turnI l.length t i]?).getD d
section
variable {α : Type} {t : Nat} {l p q : List α} {d a : α}
theorem turned_len : (turned t l d).length = l.length := by simp [turned]
theorem turned_at {i : Nat} (h : (turned t l d)[i]? = some a) : i < l.length ∧ l[turnI l.length t i]? = some a := by
  have hi : i < l.length := by have := lt_at h; rwa [turned_len] at this
  refine ⟨hi, ?_⟩
  unfold turned at h
  rw [List.getElem?_map, List.getElem?_range hi] at h
  have hlt := turnI_lt (t := t) hi
  simp only [Option.map_some, List.getElem?_eq_getElem hlt, Option.getD_some, Option.some.injEq] at h
  rw [List.getElem?_eq_getElem hlt, h]
theorem turned_mem : a ∈ turned t l d ↔ a ∈ l := by
  constructor
  · intro h
    obtain ⟨i, hi⟩ := List.mem_iff_getElem?.1 h
    exact mem_at (turned_at hi).2
  · intro h
    obtain ⟨m, hm⟩ := List.mem_iff_getElem?.1 h
    obtain ⟨i, hi, e⟩ := turnI_surj (t := t) (lt_at hm)
    refine List.mem_iff_getElem?.2 ⟨i, ?_⟩
    unfold turned
    rw [List.getElem?_map, List.getElem?_range hi]
    simp only [Option.map_some, e, hm, Option.getD_some]
theorem nodup_ne {l : List α} (h : ∀ p a q, l = p ++ a :: q → ¬ a ∈ p) {i j : Nat} {a : α} (hi : l[i]? = some a) (hj : l[j]? = some a) : i = j := by
  have key : ∀ {i j : Nat}, l[i]? = some a → l[j]? = some a → ¬ i < j := by
    intro i j hi hj hij
    have hjl := lt_at hj
    refine h (l.take j) a (l.drop (j + 1)) ?_ ?_
    · have := List.take_append_drop j l
      rw [← this]
      congr 1
      · rw [this]
      · rw [this]
        rw [List.drop_eq_getElem_cons hjl]
        rw [List.getElem?_eq_getElem hjl] at hj
        cases hj
        rfl
    · exact List.mem_iff_getElem?.2 ⟨i, by rw [List.getElem?_take, if_pos hij]; exact hi⟩
  have h1 := key hi hj
  have h2 := key hj hi
  omega
theorem turned_fresh (h : ∀ p a q, l = p ++ a :: q → ¬ a ∈ p) (he : turned t l d = p ++ a :: q) : ¬ a ∈ p := by
  intro hm
  obtain ⟨i, hi⟩ := List.mem_iff_getElem?.1 hm
  have hil := lt_at hi
  have h1 : (turned t l d)[i]? = some a := by rw [he, List.getElem?_append_left hil]; exact hi
  have h2 : (turned t l d)[p.length]? = some a := by rw [he]; simp
  have a1 := turned_at h1
  have a2 := turned_at h2
  have := turnI_inj a1.1 a2.1 (nodup_ne h a1.2 a2.2)
  omega
end
end Go.Sl
namespace Go.Sl
open Go Go.RowKit
section
variable {w0 w : World} {R : HProp} {E1 : Enc ByteArray Nat} {E : Enc Int Bool} {O : Lo Int} {st ct e : TypeId} {sb N : Nat} {v : Value}
def turnP (E1 : Enc ByteArray Nat) (E : Enc Int Bool) (O : Lo Int) (st ct e : TypeId) (sb N : Nat) (v : Value) : HProp :=
  hex fun own : Acts => pur (Acc O own ∧ (∀ a ∈ own, 1 ≤ a.2) ∧ (∀ a ∈ own, a.1.size ≤ 9223372036854775807) ∧ own.length ≤ N) * (seenP E1 O_S E O st ct sb (runS O own) * sl e 2 v own.length (own.flatMap actE))
theorem turn_open (h : Sat w0 (turnP E1 E O st ct e sb N v * R) w) : ∃ (own : Acts) (ad : Option Addr) (c : Nat), Acc O own ∧ (∀ a ∈ own, 1 ≤ a.2) ∧ (∀ a ∈ own, a.1.size ≤ 9223372036854775807) ∧ own.length ≤ N ∧ v = .slice ad own.length c ∧ Sat w0 (seenP E1 O_S E O st ct sb (runS O own) * (sl e 2 v own.length (own.flatMap actE) * R)) w := by
  obtain ⟨own, h1⟩ := h.ex
  obtain ⟨hp, h3⟩ := Sat.pure (h1.to (star_assoc _ _ _))
  have h4 : Sat w0 (sl e 2 v own.length (own.flatMap actE) * (seenP E1 O_S E O st ct sb (runS O own) * R)) w := h3.to (by ac_rfl)
  obtain ⟨ad, c, hv, _⟩ := sl_form h4
  exact ⟨own, ad, c, hp.1, hp.2.1, hp.2.2.1, hp.2.2.2, hv, h4.to (by ac_rfl)⟩
theorem turn_mk {own : Acts} (h1 : Acc O own) (h2 : ∀ a ∈ own, 1 ≤ a.2) (h3 : ∀ a ∈ own, a.1.size ≤ 9223372036854775807) (h4 : own.length ≤ N) (h : Sat w0 (seenP E1 O_S E O st ct sb (runS O own) * (sl e 2 v own.length (own.flatMap actE) * R)) w) : Sat w0 (turnP E1 E O st ct e sb N v * R) w :=
  Sat.mkex own ((Sat.mkpure (show Acc O own ∧ (∀ a ∈ own, 1 ≤ a.2) ∧ (∀ a ∈ own, a.1.size ≤ 9223372036854775807) ∧ own.length ≤ N from ⟨h1, h2, h3, h4⟩) (h.to (by ac_rfl))).to (star_assoc _ _ _).symm)
theorem acc_turned {l : Acts} {t : Nat} {d : ByteArray × Int} (h : Acc O l) (hl : l.length ≤ 32) (h1 : ∀ b ∈ l, 1 ≤ b.2) : Acc O (turned t l d) := fun p a q he =>
  acc_perm h hl h1 turned_len (fun _ => turned_mem) (turned_fresh (fun p a q he => acc_fresh h hl he) he) he
theorem acc_pre {p q : Acts} (h : Acc O (p ++ q)) : Acc O p := fun p' a q' he => h p' a (q' ++ q) (by rw [he]; simp)
theorem run_turned {l : Acts} {t : Nat} {d : ByteArray × Int} (hl : l.length ≤ 32) : runS O (turned t l d) = runS O l :=
  told_ext (told_run (O := O) _ _ rfl (by rw [turned_len]; exact hl)) (told_run (O := O) _ _ rfl hl) (fun _ => turned_mem)
end
end Go.Sl
