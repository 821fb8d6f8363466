/- YtpnigaoibhogfaaSlRight: a part of the proof: walks over the translated code, and plain facts on lists beside. -/
import Derived.Test.YtpnigaoibhogfaaSlSeen2
import Derived.Test.YtpnigaoibhogfaaSlTurns
import Derived.Lib.IndexLaws
set_option linter.all false
namespace Go.Sl
open Go Go.RowKit
/-! ### Which states are right -/
def risP (l : List Int) (least most : Int) : Prop := (∀ n ∈ l, least ≤ n ∧ n ≤ most) ∧ l.Pairwise (· < ·)
theorem ris_nil {a b : Int} : risP [] a b := ⟨(fun n h => by cases h), List.Pairwise.nil⟩
theorem ris_snoc {l : List Int} {x a b : Int} (h : risP l a b) (h1 : a ≤ x ∧ x ≤ b) (h2 : ∀ p z, l = p ++ [z] → z < x) : risP (l ++ [x]) a b := by
  refine ⟨fun n hn => ?_, ?_⟩
  · rcases List.mem_append.1 hn with e | e
    · exact h.1 n e
    · rw [List.mem_singleton.1 e]; exact h1
  · rw [List.pairwise_append]
    refine ⟨h.2, by simp, fun c hc d hd => ?_⟩
    rw [List.mem_singleton.1 hd]
    rcases Nat.eq_zero_or_pos l.length with e | e
    · rw [List.eq_nil_of_length_eq_zero e] at hc; cases hc
    · obtain ⟨p, z, rfl, _⟩ := snoc_of (n := l.length - 1) (l := l) (by omega)
      have hz := h2 p z rfl
      rcases List.mem_append.1 hc with e | e
      · have := (List.pairwise_append.1 h.2).2.2 c e z (by simp); omega
      · rw [List.mem_singleton.1 e]; exact hz
theorem ris_bad {p q : List Int} {x a b : Int} (h : ¬ (a ≤ x ∧ x ≤ b) ∨ ∃ p' z, p = p' ++ [z] ∧ ¬ z < x) : ¬ risP (p ++ x :: q) a b := by
  rintro ⟨h1, h2⟩
  rcases h with e | ⟨p', z, rfl, e⟩
  · exact e (h1 x (by simp))
  · exact e ((List.pairwise_append.1 h2).2.2 z (by simp) x (by simp))
def okS (x : ByteArray × (Int × List Int)) : Prop := wordP x.1.data.toList ∧ 0 ≤ x.2.1 ∧ x.2.1 ≤ 1099511627776 ∧ 1 ≤ x.2.2.length ∧ x.2.2.length ≤ 32 ∧ risP x.2.2 (x.2.1 + 1) 1099511627776
def upN (l : List (ByteArray × (Int × List Int))) : Prop := l.Pairwise fun a b => O_S.lt a.1 b.1 = true
def okL (l : List (ByteArray × (Int × List Int))) : Prop := l.length ≤ 8 ∧ (∀ x ∈ l, okS x) ∧ upN l
theorem up_snoc {l : List (ByteArray × (Int × List Int))} {x : ByteArray × (Int × List Int)} (h : upN l) (h2 : ∀ p z, l = p ++ [z] → O_S.lt z.1 x.1 = true) : upN (l ++ [x]) := by
  unfold upN
  rw [List.pairwise_append]
  refine ⟨h, by simp, fun c hc d hd => ?_⟩
  rw [List.mem_singleton.1 hd]
  rcases Nat.eq_zero_or_pos l.length with e | e
  · rw [List.eq_nil_of_length_eq_zero e] at hc; cases hc
  · obtain ⟨p, z, rfl, _⟩ := snoc_of (n := l.length - 1) (l := l) (by omega)
    have hz := h2 p z rfl
    rcases List.mem_append.1 hc with e | e
    · exact O_S.tr _ _ _ ((List.pairwise_append.1 h).2.2 c e z (by simp)) hz
    · rw [List.mem_singleton.1 e]; exact hz
theorem up_bad {p q : List (ByteArray × (Int × List Int))} {z x : ByteArray × (Int × List Int)} (h : ¬ O_S.lt z.1 x.1 = true) : ¬ upN ((p ++ [z]) ++ x :: q) := fun h2 =>
  h ((List.pairwise_append.1 h2).2.2 z (by simp) x (by simp))
theorem up_last {p : List (ByteArray × (Int × List Int))} {z x : ByteArray × (Int × List Int)} (h : upN (p ++ [z])) (h2 : O_S.lt z.1 x.1 = true) : ∀ y ∈ p ++ [z], O_S.lt y.1 x.1 = true := fun y hy => by
  rcases List.mem_append.1 hy with e | e
  · exact O_S.tr _ _ _ ((List.pairwise_append.1 h).2.2 y e z (by simp)) h2
  · rw [List.mem_singleton.1 e]; exact h2
/-- What Load makes. -/
def bldL (l : List (ByteArray × (Int × List Int))) : SeenL := l.map fun x => (x.1, (x.2.1, x.2.2.map fun n => (n, true)))
theorem bld_tell {l : List (ByteArray × (Int × List Int))} : (bldL l).map tellL = l := by
  unfold bldL; rw [List.map_map]
  conv => rhs; rw [← List.map_id l]
  refine List.map_congr_left fun x _ => ?_
  simp [tellL, Function.comp_def]
theorem keys_srt {l : List Int} (h : l.Pairwise (· < ·)) {O : Lo Int} (hO : ∀ a b, O.lt a b = decide (a < b)) : Srt O (l.map fun n => (n, true)) := by
  unfold Srt; rw [List.pairwise_map]
  exact h.imp (fun hab => by rw [hO]; simpa using hab)
theorem bld_wf {l : List (ByteArray × (Int × List Int))} (h : okL l) {O : Lo Int} (hO : ∀ a b, O.lt a b = decide (a < b)) : WfS O (bldL l) := by
  refine ⟨by unfold bldL; rw [List.length_map]; exact h.1, fun x hx => ?_⟩
  obtain ⟨y, hy, rfl⟩ := List.mem_map.1 hx
  have := h.2.1 y hy
  refine ⟨by simp only [List.length_map]; exact this.2.2.2.2.1, keys_srt this.2.2.2.2.2.2 hO⟩
theorem keys_snoc {l : List Int} {x : Int} {O : Lo Int} (hO : ∀ a b, O.lt a b = decide (a < b)) (h : ∀ a ∈ l, a < x) : ins O x true (l.map fun n => (n, true)) = (l ++ [x]).map fun n => (n, true) := by
  have := ins_gone (O := O) (k := x) (u := true) (p := l.map fun n => (n, true)) (q := []) (fun z hz => by obtain ⟨a, ha, rfl⟩ := List.mem_map.1 hz; rw [hO]; simpa using h a ha) (fun y r e => by cases e)
  rw [List.append_nil] at this
  rw [this]; simp
theorem bld_snoc {l : List (ByteArray × (Int × List Int))} {x : ByteArray × (Int × List Int)} {d : Int × List (Int × Bool)} (h : ∀ y ∈ l, O_S.lt y.1 x.1 = true) : ins O_S x.1 d (bldL l) = bldL l ++ [(x.1, d)] ∧ get O_S x.1 (bldL l) = none := by
  have h1 : ∀ z ∈ bldL l, O_S.lt z.1 x.1 = true := fun z hz => by obtain ⟨y, hy, rfl⟩ := List.mem_map.1 hz; exact h y hy
  have e1 := ins_gone (O := O_S) (k := x.1) (u := d) (p := bldL l) (q := []) h1 (fun y r e => by cases e)
  have e2 := get_gone (O := O_S) (k := x.1) (p := bldL l) (q := []) h1 (fun y r e => by cases e)
  rw [List.append_nil] at e1 e2
  exact ⟨e1, e2⟩
theorem nameP_of {x : UInt8} {s : List UInt8} (h1 : s.length + 1 ≤ 24) (h2 : smallP x.toNat) (h3 : ∀ y ∈ x :: s, restP y.toNat) : nameP (x :: s) := ⟨by simp, by simpa using h1, fun y hy => by simp at hy; subst hy; exact h2, h3⟩
end Go.Sl
namespace Go.Sl
open Go Go.RowKit
theorem last_of {α : Type} {l p p' : List α} {y z : α} (h1 : l = p' ++ [z]) (h2 : l = p ++ [y]) : y = z := (List.cons.inj (List.append_inj' (h2.symm.trans h1) rfl).2).1
theorem lt_S' {a b : ByteArray} (h : ¬ 0 ≤ cmpS a b) : O_S.lt a b = true := lt_S (by omega)
theorem not_lt_S {a b : ByteArray} (h : 0 ≤ cmpS a b) : ¬ O_S.lt a b = true := by
  simp only [O_S, decide_eq_true_eq]; omega
end Go.Sl
namespace Go.Sl
open Go Go.RowKit
section
variable {w0 w : World} {R : HProp} {E1 : Enc ByteArray Nat} {E : Enc Int Bool} {OI : Lo Int} {st ct : TypeId} {sb rb cb : Nat}
/-- One more source, closed again. -/
theorem seen_more {M : List (ByteArray × (Nat × (Int × List (Int × Bool))))} {l : List (ByteArray × (Int × List Int))} {x : ByteArray × (Int × List Int)} {d : Int × List (Int × Bool)} (hup : ∀ y ∈ l, O_S.lt y.1 x.1 = true)
    (hM : mapv Prod.snd M = ins O_S x.1 d (bldL l)) (hg : get O_S x.1 M = some (cb, d))
    (h : Sat w0 (blks [(sb, .cells #[.pointer (some ⟨rb, 0, none⟩)] st (0, 0))] * (rackP E1 O_S rb (mapv Prod.fst M) * (cameP E OI ct cb (x.2.1, x.2.2.map fun n => (n, true)) * (bigS (cameP E OI ct) (del O_S x.1 M) * R)))) w) :
    Sat w0 (seenP E1 O_S E OI st ct sb (bldL (l ++ [x])) * R) w := by
  refine seen_mk (rb := rb) (M := ins O_S x.1 (cb, (x.2.1, x.2.2.map fun n => (n, true))) M) ?_ ?_
  · rw [ins_mapv, hM, ins_ins, (bld_snoc hup).1]; simp [bldL]
  · rw [ins_mapv, ins_self (by rw [get_mapv, hg]; rfl), bigS_ins]
    exact h.to (by ac_rfl)
end
end Go.Sl
namespace Go.Sl
open Go Go.RowKit
section
variable {w0 w : World} {R A : HProp}
theorem RdSrc.copy {ad ad' : Option Addr} {c n : Nat} {e : TypeId} {Q : List Src} (h : RdSrc A ad Q) : RdSrc (A * sl e 3 (.slice ad' n c) n (Q.flatMap srcE)) ad' Q :=
  ⟨Rds.r sl_rds, fun x hx => let ⟨a, c, h1, h2, h3, h4, h5⟩ := h.2 x hx; ⟨a, c, h1, h2, h3, h4, h5.l⟩⟩
theorem srcP_pool {ad : Option Addr} : ∀ {Q : List Src}, (∀ x ∈ Q, ∃ ad' c', x.v = .slice ad' x.seqs.length c' ∧ x.seqs.length ≤ c' ∧ c' ≤ maxLen ∧ (ad' = none → c' = 0) ∧ Rds A ad' (x.seqs.map fun n => .int .i64 n)) → Sat w0 R w → Sat w0 (srcP A Q * R) w
  | [], _, h => h.to (hemp_star _).symm
  | x :: Q, hq, h => by
    obtain ⟨a, c, h1, h2, h3, h4, h5⟩ := hq x (by simp)
    have ih := srcP_pool (ad := ad) (Q := Q) (fun y hy => hq y (by simp [hy])) h
    have := rd_of_pool (P0 := A) h2 h3 (by simp) h4 h5 ih
    rw [← h1] at this
    exact this.to (by simp only [srcP]; ac_rfl)
theorem bld_get {l : List (ByteArray × (Int × List Int))} {name : ByteArray} : ((get O_S name (bldL l)).getD (0, [])).2.map Prod.fst = ((get O_S name l).getD (0, [])).2 := by
  have : bldL l = mapv (fun d : Int × List Int => (d.1, d.2.map fun n => (n, true))) l := rfl
  rw [this, get_mapv]
  cases get O_S name l with
  | none => rfl
  | some d => simp [Function.comp_def]
end
end Go.Sl
