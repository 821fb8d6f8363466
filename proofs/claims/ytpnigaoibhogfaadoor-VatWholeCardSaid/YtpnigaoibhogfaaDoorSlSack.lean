/- YtpnigaoibhogfaaDoorSlSack: a part of the proof: walks over the translated code, and plain facts on lists beside. -/
import Derived.Test.YtpnigaoibhogfaaDoorSlRack
import Derived.Test.YtpnigaoibhogfaaDoorSlRange
set_option linter.all false
namespace Go.Sl
open Go Go.RowKit

/-! ### Things that may come more than once, in plain lists -/
section
variable {κ : Type} {O : Lo κ} {k : κ} {n : Int} {L M : List (κ × Int)}
def tot : List (κ × Int) → Int
  | [] => 0
  | x :: r => x.2 + tot r
def cnt (O : Lo κ) (k : κ) (L : List (κ × Int)) : Int := (get O k L).getD 0
def Wf (L : List (κ × Int)) : Prop := ∀ x ∈ L, 1 ≤ x.2
def expand : List (κ × Int) → List κ
  | [] => []
  | x :: r => List.replicate x.2.toNat x.1 ++ expand r
/-- One more, behind those that are not greater. -/
def insR (O : Lo κ) (x : κ) : List κ → List κ
  | [] => [x]
  | y :: r => match O.lt x y with
    | true => x :: y :: r
    | false => y :: insR O x r
/-- One less. -/
def eraR (O : Lo κ) (x : κ) : List κ → List κ
  | [] => []
  | y :: r => match O.lt x y with
    | true => y :: r
    | false => match O.lt y x with
      | true => y :: eraR O x r
      | false => r
def cntR (O : Lo κ) (x : κ) : List κ → Int
  | [] => 0
  | y :: r => (match O.lt x y, O.lt y x with | false, false => 1 | _, _ => 0) + cntR O x r

theorem Wf.tail {x : κ × Int} (h : Wf (x :: L)) : 1 ≤ x.2 ∧ Wf L := ⟨h x (List.mem_cons_self ..), fun y hy => h y (List.mem_cons_of_mem _ hy)⟩
theorem tot_bd (h : Wf L) : (L.length : Int) ≤ tot L := by
  induction L with
  | nil => simp [tot]
  | cons x L ih => have := ih h.tail.2; have := h.tail.1; simp only [List.length_cons, tot]; omega
theorem cnt_bd (h : Wf L) : 0 ≤ cnt O k L ∧ cnt O k L ≤ tot L := by
  induction L with
  | nil => simp [cnt, get, tot]
  | cons x L ih =>
    have h1 := h.tail.1
    have h2 := ih h.tail.2
    have h3 := tot_bd h.tail.2
    unfold cnt at *
    simp only [tot, get]
    cases e1 : O.lt k x.1 with
    | true => simp; omega
    | false =>
      cases e2 : O.lt x.1 k with
      | true => simp only; omega
      | false => simp; omega
theorem tot_ins : tot (ins O k n L) = tot L - cnt O k L + n := by
  induction L with
  | nil => simp [ins, tot, cnt, get]
  | cons x L ih =>
    unfold cnt at *
    simp only [ins, tot, get]
    cases e1 : O.lt k x.1 with
    | true => simp [tot]; omega
    | false =>
      cases e2 : O.lt x.1 k with
      | true => simp only [tot, ih]; omega
      | false => simp [tot]; omega
theorem tot_del : tot (del O k L) = tot L - cnt O k L := by
  induction L with
  | nil => simp [del, tot, cnt, get]
  | cons x L ih =>
    unfold cnt at *
    simp only [del, tot, get]
    cases e1 : O.lt k x.1 with
    | true => simp [tot]
    | false =>
      cases e2 : O.lt x.1 k with
      | true => simp only [tot, ih]; omega
      | false => simp; omega
theorem wf_ins (h : Wf L) (hn : 1 ≤ n) : Wf (ins O k n L) := by
  induction L with
  | nil => intro x hx; simp [ins] at hx; subst hx; exact hn
  | cons x L ih =>
    have h1 := h.tail
    have h2 := ih h1.2
    intro y hy
    unfold ins at hy
    split at hy
    · rcases List.mem_cons.1 hy with e | e
      · subst e; exact hn
      · exact h y e
    · split at hy
      · rcases List.mem_cons.1 hy with e | e
        · subst e; exact h1.1
        · exact h2 y e
      · rcases List.mem_cons.1 hy with e | e
        · subst e; exact hn
        · exact h1.2 y e
theorem wf_del (h : Wf L) : Wf (del O k L) := fun x hx => h x (del_mem hx)

theorem len_expand (h : Wf L) : ((expand L).length : Int) = tot L := by
  induction L with
  | nil => rfl
  | cons x L ih => have := ih h.tail.2; have := h.tail.1; simp only [expand, tot, List.length_append, List.length_replicate]; omega

theorem insR_rep {y : κ} {m : Nat} {r : List κ} (e : O.lt k y = false) : insR O k (List.replicate m y ++ r) = List.replicate m y ++ insR O k r := by
  induction m with
  | zero => simp
  | succ m ih => simp [List.replicate_succ, insR, e, ih]
theorem insR_all {r : List κ} (h : ∀ y ∈ r, O.lt k y = true) : insR O k r = k :: r := by
  cases r with
  | nil => rfl
  | cons y r => simp [insR, h y (List.mem_cons_self ..)]
theorem eraR_rep {y : κ} {m : Nat} {r : List κ} (e : O.lt k y = false) (e2 : O.lt y k = true) : eraR O k (List.replicate m y ++ r) = List.replicate m y ++ eraR O k r := by
  induction m with
  | zero => simp
  | succ m ih => simp [List.replicate_succ, eraR, e, e2, ih]
theorem cntR_rep {y : κ} {m : Nat} {r : List κ} : cntR O k (List.replicate m y ++ r) = (match O.lt k y, O.lt y k with | false, false => (m : Int) | _, _ => 0) + cntR O k r := by
  induction m with
  | zero => cases O.lt k y <;> cases O.lt y k <;> simp
  | succ m ih =>
    simp only [List.replicate_succ, List.cons_append, cntR, ih]
    cases O.lt k y <;> cases O.lt y k <;> simp <;> omega
theorem expand_mem {y : κ} (h : y ∈ expand L) : ∃ x ∈ L, x.1 = y := by
  induction L with
  | nil => cases h
  | cons x L ih =>
    rcases List.mem_append.1 h with h | h
    · exact ⟨x, List.mem_cons_self .., (List.eq_of_mem_replicate h).symm⟩
    · obtain ⟨z, hz, e⟩ := ih h
      exact ⟨z, List.mem_cons_of_mem _ hz, e⟩
theorem srt_tail {x : κ × Int} (h : Srt O (x :: L)) : Srt O L ∧ ∀ y ∈ L, O.lt x.1 y.1 = true := by
  unfold Srt at h ⊢
  rw [List.pairwise_cons] at h
  exact ⟨h.2, h.1⟩
theorem cnt_gt (h : ∀ y ∈ L, O.lt k y.1 = true) : cnt O k L = 0 := by
  cases L with
  | nil => rfl
  | cons y L => simp [cnt, get, h y (List.mem_cons_self ..)]
theorem expand_snoc {x : κ × Int} : expand (L ++ [x]) = expand L ++ List.replicate x.2.toNat x.1 := by
  induction L with
  | nil => simp [expand]
  | cons y L ih => simp [expand, ih]
theorem expand_app : expand (L ++ M) = expand L ++ expand M := by
  induction L with
  | nil => rfl
  | cons y L ih => simp [expand, ih]
theorem expand_at {pre post : List (κ × Int)} {j : Nat} (h : (j : Int) < n) : ∃ q, expand (pre ++ (k, n) :: post) = (expand pre ++ List.replicate j k) ++ k :: q := by
  refine ⟨List.replicate (n.toNat - j - 1) k ++ expand post, ?_⟩
  rw [expand_app]
  simp only [expand, List.append_assoc]
  congr 1
  have e : List.replicate n.toNat k = List.replicate j k ++ (k :: List.replicate (n.toNat - j - 1) k) := by
    rw [← List.replicate_succ, List.replicate_append_replicate]; congr 1; omega
  rw [e, List.append_assoc]; rfl
theorem tot_mem (h : Wf L) {x : κ × Int} (hx : x ∈ L) : x.2 ≤ tot L := by
  induction L with
  | nil => cases hx
  | cons y L ih =>
    have h1 := h.tail.1
    have h2 := tot_bd h.tail.2
    rcases List.mem_cons.1 hx with e | e
    · subst e; simp only [tot]; omega
    · have := ih h.tail.2 e; simp only [tot]; omega
theorem cntR_gt {r : List κ} (h : ∀ y ∈ r, O.lt k y = true) : cntR O k r = 0 := by
  induction r with
  | nil => rfl
  | cons y r ih => simp only [cntR, h y (List.mem_cons_self ..)]; rw [ih fun z hz => h z (List.mem_cons_of_mem _ hz)]; rfl

theorem cnt_expand (hw : Wf L) (hs : Srt O L) : cntR O k (expand L) = cnt O k L := by
  induction L with
  | nil => rfl
  | cons x L ih =>
    obtain ⟨h1, h2⟩ := srt_tail hs
    have h3 := ih hw.tail.2 h1
    have h4 := hw.tail.1
    unfold cnt at *
    simp only [expand, cntR_rep, get, h3]
    cases e1 : O.lt k x.1 with
    | true =>
      have : cnt O k L = 0 := cnt_gt fun y hy => O.tr _ _ _ e1 (h2 y hy)
      unfold cnt at this
      simp [this]
    | false =>
      cases e2 : O.lt x.1 k with
      | true => simp
      | false =>
        have e := O.eq _ _ e1 e2
        have : cnt O k L = 0 := cnt_gt fun y hy => by rw [e]; exact h2 y hy
        unfold cnt at this
        simp [this]; omega
theorem expand_ins (hw : Wf L) (hs : Srt O L) : expand (ins O k (cnt O k L + 1) L) = insR O k (expand L) := by
  induction L with
  | nil => simp [ins, cnt, get, expand, insR]
  | cons x L ih =>
    obtain ⟨h1, h2⟩ := srt_tail hs
    have h3 := ih hw.tail.2 h1
    have h4 := hw.tail.1
    unfold cnt at *
    simp only [ins, get]
    obtain ⟨m, hm⟩ : ∃ m, x.2.toNat = m + 1 := ⟨x.2.toNat - 1, by omega⟩
    cases e1 : O.lt k x.1 with
    | true => simp [expand, hm, List.replicate_succ, insR, e1]
    | false =>
      cases e2 : O.lt x.1 k with
      | true => simp only [expand]; rw [h3, insR_rep e1]
      | false =>
        have e := O.eq _ _ e1 e2
        simp only [expand, Option.getD_some]
        rw [insR_rep e1, insR_all (fun y hy => by obtain ⟨z, hz, e'⟩ := expand_mem hy; rw [← e', e]; exact h2 z hz)]
        rw [show (x.2 + 1).toNat = x.2.toNat + 1 by omega, List.replicate_succ', e]
        simp
theorem eraR_gt {r : List κ} (h : ∀ y ∈ r, O.lt k y = true) : eraR O k r = r := by
  cases r with
  | nil => rfl
  | cons y r => simp [eraR, h y (List.mem_cons_self ..)]
theorem expand_del (hw : Wf L) (hs : Srt O L) : (if cnt O k L = 1 then expand (del O k L) else if cnt O k L = 0 then expand L else expand (ins O k (cnt O k L - 1) L)) = eraR O k (expand L) := by
  induction L with
  | nil => simp [cnt, get, expand, eraR]
  | cons x L ih =>
    obtain ⟨h1, h2⟩ := srt_tail hs
    have h3 := ih hw.tail.2 h1
    have h4 := hw.tail.1
    unfold cnt at *
    obtain ⟨m, hm⟩ : ∃ m, x.2.toNat = m + 1 := ⟨x.2.toNat - 1, by omega⟩
    cases e1 : O.lt k x.1 with
    | true => simp [get, e1, expand, hm, List.replicate_succ, eraR]
    | false =>
      cases e2 : O.lt x.1 k with
      | true =>
        simp only [get, e1, e2, expand, ins, del]
        rw [eraR_rep e1 e2, ← h3]
        split
        · simp [expand]
        · split
          · rfl
          · simp [expand]
      | false =>
        have e := O.eq _ _ e1 e2
        simp only [get, e1, e2, ins, del, Option.getD_some, expand]
        have he : eraR O k (List.replicate x.2.toNat x.1 ++ expand L) = List.replicate m x.1 ++ expand L := by
          rw [hm, List.replicate_succ]
          simp [eraR, e1, e2]
        rw [he]
        split
        · rename_i h5
          have : m = 0 := by omega
          subst this
          simp
        · rw [if_neg (by omega), show (x.2 - 1).toNat = m by omega]
end
end Go.Sl
namespace Go.Sl
section
variable {κ : Type} {E : Enc κ Int} {O : Lo κ} {st : TypeId} {w0 w : World} {R : HProp} {sb : Nat} {es : List (κ × Int)} {room : Int}
/-- A sack at block sb. -/
def sackP (E : Enc κ Int) (O : Lo κ) (st : TypeId) (sb : Nat) (es : List (κ × Int)) (room : Int) : HProp :=
  hex fun rb => pur (Wf es ∧ Srt O es ∧ tot es ≤ room ∧ room ≤ 1000) * (pt sb (.cells #[.pointer (some ⟨rb, 0, none⟩), .int .i64 room, .int .i64 (tot es)] st (0, 0)) * rackP E O rb es)
theorem sackP_open (h : Sat w0 (sackP E O st sb es room * R) w) : ∃ rb, Wf es ∧ Srt O es ∧ tot es ≤ room ∧ room ≤ 1000 ∧
    Sat w0 (blks [(sb, .cells #[.pointer (some ⟨rb, 0, none⟩), .int .i64 room, .int .i64 (tot es)] st (0, 0))] * (rackP E O rb es * R)) w := by
  obtain ⟨rb, h⟩ := Sat.ex h
  obtain ⟨hp, h⟩ := Sat.pure (h.to (star_assoc _ _ _))
  exact ⟨rb, hp.1, hp.2.1, hp.2.2.1, hp.2.2.2, h.to (by simp only [blks]; ac_rfl)⟩
theorem sackP_mk {rb : Nat} {m : Int} (h1 : Wf es) (h2 : Srt O es) (h3 : tot es ≤ room) (h4 : room ≤ 1000) (e : m = tot es)
    (h : Sat w0 (blks [(sb, .cells #[.pointer (some ⟨rb, 0, none⟩), .int .i64 room, .int .i64 m] st (0, 0))] * (rackP E O rb es * R)) w) : Sat w0 (sackP E O st sb es room * R) w := by
  subst e
  refine Sat.mkex rb ?_
  exact (Sat.mkpure ⟨h1, h2, h3, h4⟩ (h.to (by simp only [blks]; ac_rfl))).to (star_assoc _ _ _).symm
theorem tot0 (h : Wf es) : 0 ≤ tot es := by have := tot_bd h; omega
theorem len_le (h : Wf es) (h2 : tot es ≤ room) (h3 : room ≤ 1000) : (es.length : Int) ≤ 4611686018427370000 := by have := tot_bd h; omega
/-- What an Add leaves. -/
def addE (O : Lo κ) (k : κ) (es : List (κ × Int)) : List (κ × Int) := ins O k (cnt O k es + 1) es
def dropE (O : Lo κ) (k : κ) (es : List (κ × Int)) : List (κ × Int) := if cnt O k es = 1 then del O k es else if cnt O k es = 0 then es else ins O k (cnt O k es - 1) es
theorem addE_wf {k : κ} (h : Wf es) : Wf (addE O k es) := wf_ins h (by have := (cnt_bd (O := O) (k := k) h).1; omega)
theorem addE_srt {k : κ} (h : Srt O es) : Srt O (addE O k es) := ins_srt h
theorem addE_tot {k : κ} : tot (addE O k es) = tot es + 1 := by unfold addE; rw [tot_ins]; omega
theorem addE_exp {k : κ} (h : Wf es) (h2 : Srt O es) : expand (addE O k es) = insR O k (expand es) := expand_ins h h2
theorem dropE_wf {k : κ} (h : Wf es) : Wf (dropE O k es) := by
  have := (cnt_bd (O := O) (k := k) h).1
  unfold dropE
  split
  · exact wf_del h
  · split
    · exact h
    · exact wf_ins h (by omega)
theorem dropE_srt {k : κ} (h : Srt O es) : Srt O (dropE O k es) := by
  unfold dropE
  split
  · exact del_srt h
  · split
    · exact h
    · exact ins_srt h
theorem dropE_exp {k : κ} (h : Wf es) (h2 : Srt O es) : expand (dropE O k es) = eraR O k (expand es) := by
  rw [← expand_del h h2]; unfold dropE; split
  · rfl
  · split <;> rfl
theorem getV_cnt {k : κ} {E : Enc κ Int} : ∃ b, getV E (.int .i64 0) (get O k es) = .tuple #[E.v (cnt O k es), .bool b] ∨ (getV E (.int .i64 0) (get O k es) = .tuple #[.int .i64 0, .bool false] ∧ cnt O k es = 0) := by
  unfold cnt
  cases h : get O k es with
  | none => exact ⟨false, .inr ⟨rfl, rfl⟩⟩
  | some n => exact ⟨true, .inl rfl⟩
end
end Go.Sl
