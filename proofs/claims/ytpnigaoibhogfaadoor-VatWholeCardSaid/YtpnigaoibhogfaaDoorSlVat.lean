/- YtpnigaoibhogfaaDoorSlVat: a part of the proof: walks over the translated code, and plain facts on lists beside. -/
import Derived.Test.YtpnigaoibhogfaaDoorSlX4
import Derived.Test.YtpnigaoibhogfaaDoorSlRes
set_option linter.all false
namespace Go.Sl
open Go Go.RowKit

/-! ### Quotients, negatives; a struct laid at a place within a block -/
section
variable {P : Program} {w w0 : World} {f : Fr} {p : Par} {K : Fr → World → Prop} {r : Plan} {h : Hist} {l : Lds} {i : Nat} {v : Value} {ty : TypeId} {pos : String} {after : Array Edge} {dst : Option Nat} {g : Option (Nat × Bool)}
theorem O_quoN {x y : Operand} {t yt : TypeId} {a b : Int} (ho : p.ops[i]? = some ⟨dst, .binOp .quo t x y yt, ty, pos, after, g⟩) (hk : p.kind i = 0) (hw : wantF f p.ops ⟨dst, .binOp .quo t x y yt, ty, pos, after, g⟩ = some true) (hn : dstOk f dst = true)
    (hx : f.ev x = some (.int .i64 a)) (hy : f.ev y = some (.int .i64 b)) (hb : b ≠ 0) (hr : -9223372036854775808 ≤ a.tdiv b ∧ a.tdiv b ≤ 9223372036854775807) (H : wpR P p K r h l (putd f dst (.int .i64 (a.tdiv b))) w) : wpR P p K (.one i r) h l f w :=
  R_soft ho rfl hk hw hn (fun ρ w' hρ => run_binInt (hρ x _ hx) (hρ y _ hy) (by simp [binOp, Op.intDiv, hb, i64_wrap hr])) H
theorem O_negN {x : Operand} {t : TypeId} {a : Int} (ho : p.ops[i]? = some ⟨dst, .unOp .neg t x, ty, pos, after, g⟩) (hk : p.kind i = 0) (hw : wantF f p.ops ⟨dst, .unOp .neg t x, ty, pos, after, g⟩ = some true) (hn : dstOk f dst = true)
    (hx : f.ev x = some (.int .i64 a)) (hr : -9223372036854775807 ≤ a ∧ a ≤ 9223372036854775807) (H : wpR P p K r h l (putd f dst (.int .i64 (-a))) w) : wpR P p K (.one i r) h l f w :=
  R_soft ho rfl hk hw hn (fun ρ w' hρ => by
    have e := i64_wrap (n := -a) (by omega)
    simp only [rd, execOp]; rw [hρ x _ hx]
    simp [Op.unary, Op.intArith, e, Sem.run_pure, Sem.run_bind, Result.andThen]) H
theorem O_storeAggAt {x y : Operand} {t : TypeId} {b n o : Nat} {c : Array Value} {T : TypeId} {cs : List Value} {L : List (Nat × Obj)} {R : HProp} (hS : Sat w0 (blks ((b, .cells c T (0, 0)) :: L) * R) w) (ho : p.ops[i]? = some ⟨dst, .store t x y, ty, pos, after, g⟩) (hk : p.kind i = 2) (hw : wantF f p.ops ⟨dst, .store t x y, ty, pos, after, g⟩ = some true) (hn : dstOk f dst = true)
    (hx : f.ev x = some (.pointer (some ⟨b, o, none⟩))) (hy : f.ev y = some (.agg cs.toArray)) (hsz : ∀ w, (sizeOf t).run P w = .ok n w) (hlen : cs.length = n) (hc : o + n ≤ c.size) (h1 : ∀ u ∈ cs, one u = true)
    (hl : ∀ w', Sat w0 (blks ((b, .cells (setsL c.toList o cs).toArray T (0, 0)) :: L) * R) w' → ldsOk p i l w')
    (H : ∀ w', Sat w0 (blks ((b, .cells (setsL c.toList o cs).toArray T (0, 0)) :: L) * R) w' → wpR P p K r (pushH p i w h) l (putd f dst undef) w') : wpR P p K (.one i r) h l f w := by
  obtain ⟨w', hr, hS'⟩ := run_storeCells (P := P) (o := o) cs 0 w c T (blks L * R) (hS.to (star_assoc _ _ _)) (by omega) h1
  have hS2 : Sat w0 (blks ((b, .cells (setsL c.toList o cs).toArray T (0, 0)) :: L) * R) w' := hS'.to (star_assoc _ _ _).symm
  refine R_actU (Rr := fun v' w'' => v' = undef ∧ w'' = w') ho rfl hk hw hn (fun ρ hρ => ?_) (fun v' w'' ⟨_, e⟩ => e ▸ hl _ hS2) (fun v' w'' ⟨e1, e2⟩ => by subst e1; subst e2; exact H _ hS2)
  simp only [execOp, hρ x _ hx, hρ y _ hy, Instr.storeAt, Instr.sureAddr, storeVar, Value.cells]
  simp [Sem.run_bind, Sem.run_pure, Result.andThen, hsz, hlen, hr, runsTo]
end
/-! ### Sums that are kept whole -/
theorem tq12 (a : Int) : a = a.tdiv 1000000000000 * 1000000000000 + a.tmod 1000000000000 ∧ (0 ≤ a → 0 ≤ a.tmod 1000000000000 ∧ a.tmod 1000000000000 < 1000000000000) ∧ (a ≤ 0 → -1000000000000 < a.tmod 1000000000000 ∧ a.tmod 1000000000000 ≤ 0) := by
  have h := Int.tmod_add_mul_tdiv a 1000000000000
  refine ⟨by omega, fun h0 => ⟨Int.tmod_nonneg _ h0, Int.tmod_lt_of_pos a (by omega)⟩, fun h0 => ?_⟩
  have e1 : (-a).tmod 1000000000000 = - a.tmod 1000000000000 := Int.neg_tmod ..
  have h1 := Int.tmod_nonneg 1000000000000 (show 0 ≤ -a by omega)
  have h2 := Int.tmod_lt_of_pos (-a) (show (0 : Int) < 1000000000000 by omega)
  omega
theorem tq2 (a : Int) : a = a.tdiv 2 * 2 + a.tmod 2 ∧ (0 ≤ a → 0 ≤ a.tmod 2 ∧ a.tmod 2 < 2) ∧ (a ≤ 0 → -2 < a.tmod 2 ∧ a.tmod 2 ≤ 0) := by
  have h := Int.tmod_add_mul_tdiv a 2
  refine ⟨by omega, fun h0 => ⟨Int.tmod_nonneg _ h0, Int.tmod_lt_of_pos a (by omega)⟩, fun h0 => ?_⟩
  have e1 : (-a).tmod 2 = - a.tmod 2 := Int.neg_tmod ..
  have h1 := Int.tmod_nonneg 2 (show 0 ≤ -a by omega)
  have h2 := Int.tmod_lt_of_pos (-a) (show (0 : Int) < 2 by omega)
  omega
theorem mulB {a b A B : Int} (h1 : -A ≤ a ∧ a ≤ A) (h2 : 0 ≤ b ∧ b ≤ B) : -(A * B) ≤ a * b ∧ a * b ≤ A * B := by
  have hA : 0 ≤ A := by omega
  have h3 : a * b ≤ A * b := Int.mul_le_mul_of_nonneg_right h1.2 h2.1
  have h4 : (-A) * b ≤ a * b := Int.mul_le_mul_of_nonneg_right h1.1 h2.1
  have h5 : A * b ≤ A * B := Int.mul_le_mul_of_nonneg_left h2.2 hA
  have e : (-A) * b = -(A * b) := Int.neg_mul ..
  omega
def imax : Int := 9223372036854775807
def imin : Int := -9223372036854775808
/-- The int that it is, or the one at whose side it is. -/
def clampI (n : Int) : Int := if n > 9223372036854775807 then 9223372036854775807 else if n < -9223372036854775808 then -9223372036854775808 else n
def outI (n : Int) : Bool := decide (n > 9223372036854775807) || decide (n < -9223372036854775808)

/-! ### What is measured in one cell -/
structure VatS where
  kind : Int
  many : Int
  sum : Int
  lv : Int
  lt : Int
  lq : Int
  src : ByteArray
  es : List (Int × Int)
  ms : List (ByteArray × Int)
/-- The cells of one. -/
def VatS.own (v : VatS) (sb mb : Nat) : Array Value := #[.int .i64 v.kind, .int .i64 v.many, .int .i64 (v.sum / 1000000000000), .int .i64 (v.sum % 1000000000000), .int .i64 v.lv, .int .i64 v.lt, .int .i64 v.lq, .string v.src, .pointer (some ⟨sb, 0, none⟩), .pointer (some ⟨mb, 0, none⟩)]
section
variable {E1 : Enc Int Int} {O1 : Lo Int} {E2 : Enc ByteArray Int} {O2 : Lo ByteArray} {T t1 t2 : TypeId} {b : Nat} {v : VatS} {w0 w : World} {R : HProp}
def vatP (E1 : Enc Int Int) (O1 : Lo Int) (E2 : Enc ByteArray Int) (O2 : Lo ByteArray) (T t1 t2 : TypeId) (b : Nat) (v : VatS) : HProp :=
  hex fun sb => hex fun mb => pt b (.cells (v.own sb mb) T (0, 0)) * (sackP E1 O1 t1 sb v.es 16 * sackP E2 O2 t2 mb v.ms 12)
theorem vat_open (h : Sat w0 (vatP E1 O1 E2 O2 T t1 t2 b v * R) w) : ∃ sb mb, Sat w0 (blks [(b, .cells (v.own sb mb) T (0, 0))] * (sackP E1 O1 t1 sb v.es 16 * (sackP E2 O2 t2 mb v.ms 12 * R))) w := by
  obtain ⟨sb, h⟩ := Sat.ex h
  obtain ⟨mb, h⟩ := Sat.ex h
  exact ⟨sb, mb, h.to (by simp only [blks]; ac_rfl)⟩
theorem vat_mk {sb mb : Nat} {c : Array Value} (e : c = v.own sb mb) (h : Sat w0 (blks [(b, .cells c T (0, 0))] * (sackP E1 O1 t1 sb v.es 16 * (sackP E2 O2 t2 mb v.ms 12 * R))) w) : Sat w0 (vatP E1 O1 E2 O2 T t1 t2 b v * R) w := by
  subst e
  refine Sat.mkex sb ?_
  refine Sat.mkex mb (f := fun mb => pt b (.cells (v.own sb mb) T (0, 0)) * (sackP E1 O1 t1 sb v.es 16 * sackP E2 O2 t2 mb v.ms 12)) ?_
  exact h.to (by simp only [blks]; ac_rfl)
end
/-- An event's values. -/
structure Ev where
  metric : Value
  labels : Value
  kind : Int
  value : Int
  member : ByteArray
  rate : Int
  time : Int
  source : ByteArray
  seq : Int
abbrev Ev.val (e : Ev) : List Value := [e.metric, e.labels, .int .i64 e.kind, .int .i64 e.value, .string e.member, .int .i64 e.rate, .int .i64 e.time, .string e.source, .int .i64 e.seq]
end Go.Sl
namespace Go.Sl
open Go Go.RowKit
theorem even12 (l : Int) : (l.tmod 1000000000000 < 0 → l.tdiv 1000000000000 - 1 = l / 1000000000000) ∧ (¬ l.tmod 1000000000000 < 0 → l.tdiv 1000000000000 = l / 1000000000000) := by
  have h := tq12 l
  rcases Int.le_total 0 l with h0 | h0
  · have := h.2.1 h0; constructor <;> intro <;> omega
  · have := h.2.2 h0; constructor <;> intro <;> omega
theorem wadd12 (T n t : Int) : T / 1000000000000 + n.tdiv 1000000000000 * t + (T % 1000000000000 + n.tmod 1000000000000 * t) / 1000000000000 = (T + n * t) / 1000000000000 ∧ (T % 1000000000000 + n.tmod 1000000000000 * t) % 1000000000000 = (T + n * t) % 1000000000000 := by
  have h := (tq12 n).1
  have e : n * t = (n.tdiv 1000000000000 * t) * 1000000000000 + n.tmod 1000000000000 * t := by
    conv => lhs; rw [h, Int.add_mul, Int.mul_right_comm]
  omega
theorem clampI_hi {n : Int} (h : n > 9223372036854775807) : clampI n = 9223372036854775807 ∧ outI n = true := by
  constructor
  · unfold clampI; rw [if_pos h]
  · unfold outI; simp [h]
theorem clampI_lo {n : Int} (h : n < -9223372036854775808) : clampI n = -9223372036854775808 ∧ outI n = true := by
  constructor
  · unfold clampI; rw [if_neg (by omega), if_pos h]
  · unfold outI; simp [h]
theorem clampI_in {n : Int} (h : -9223372036854775808 ≤ n ∧ n ≤ 9223372036854775807) : clampI n = n ∧ outI n = false := by
  constructor
  · unfold clampI; rw [if_neg (by omega), if_neg (by omega)]
  · unfold outI; simp; omega
theorem sat_step {x v : Int} (h : (0 ≤ v ∧ 0 ≤ x) ∨ (v ≤ 0 ∧ x ≤ 0)) (hv : -9223372036854775807 ≤ v ∧ v ≤ 9223372036854775807) : clampI (clampI x + v) = clampI (x + v) ∧ (outI x || outI (clampI x + v)) = outI (x + v) := by
  by_cases h1 : x > 9223372036854775807
  · rw [(clampI_hi h1).1, (clampI_hi h1).2]
    have e := clampI_hi (n := x + v) (by omega)
    rw [e.1, e.2]
    by_cases h2 : 9223372036854775807 + v > 9223372036854775807
    · rw [(clampI_hi h2).1]; simp
    · rw [(clampI_in (n := 9223372036854775807 + v) (by omega)).1]; refine ⟨by omega, rfl⟩
  · by_cases h2 : x < -9223372036854775808
    · rw [(clampI_lo h2).1, (clampI_lo h2).2]
      have e := clampI_lo (n := x + v) (by omega)
      rw [e.1, e.2]
      by_cases h3 : -9223372036854775808 + v < -9223372036854775808
      · rw [(clampI_lo h3).1]; simp
      · rw [(clampI_in (n := -9223372036854775808 + v) (by omega)).1]; refine ⟨by omega, rfl⟩
    · rw [(clampI_in (n := x) (by omega)).1, (clampI_in (n := x) (by omega)).2]; simp
end Go.Sl
namespace Go.Sl
open Go Go.RowKit
section
variable {P : Program} {w w0 : World} {f : Fr} {p : Par} {K : Fr → World → Prop} {r : Plan} {h : Hist} {l : Lds} {i : Nat} {v : Value} {ty : TypeId} {pos : String} {after : Array Edge} {dst : Option Nat} {g : Option (Nat × Bool)}
theorem run_eqB {t : TypeId} {a b : Bool} {w : World} (hu : ∀ w, (underlying t).run P w = .ok .bool w) : (Op.equal t (.bool a) (.bool b)).run P w = .ok (a == b) w := by
  have key : ∀ d, (Op.equalIn (d + 1) t (.bool a) (.bool b)).run P w = .ok (a == b) w := fun d => by
    rw [Op.equalIn]
    simp only [Sem.run_bind, hu, Result.andThen]
    rfl
  exact key (Op.maxDepth - 1)
theorem O_eqB {x y : Operand} {t yt : TypeId} {a b : Bool} (ho : p.ops[i]? = some ⟨dst, .binOp .eql t x y yt, ty, pos, after, g⟩) (hk : p.kind i = 0) (hw : wantF f p.ops ⟨dst, .binOp .eql t x y yt, ty, pos, after, g⟩ = some true) (hn : dstOk f dst = true)
    (hx : f.ev x = some (.bool a)) (hy : f.ev y = some (.bool b)) (hu : ∀ w, (underlying t).run P w = .ok .bool w) (H : wpR P p K r h l (putd f dst (.bool (a == b))) w) : wpR P p K (.one i r) h l f w :=
  R_soft ho rfl hk hw hn (fun ρ w' hρ => by
    simp only [rd, execOp, hρ x _ hx, hρ y _ hy]
    have hg : (eqGuard .eql t x y (.bool a) (.bool b)).run P w' = .ok () w' := rfl
    simp [Sem.run_bind, hg, Result.andThen, binOp, run_eqB hu]) H
theorem O_neB {x y : Operand} {t yt : TypeId} {a b : Bool} (ho : p.ops[i]? = some ⟨dst, .binOp .neq t x y yt, ty, pos, after, g⟩) (hk : p.kind i = 0) (hw : wantF f p.ops ⟨dst, .binOp .neq t x y yt, ty, pos, after, g⟩ = some true) (hn : dstOk f dst = true)
    (hx : f.ev x = some (.bool a)) (hy : f.ev y = some (.bool b)) (hu : ∀ w, (underlying t).run P w = .ok .bool w) (H : wpR P p K r h l (putd f dst (.bool !(a == b))) w) : wpR P p K (.one i r) h l f w :=
  R_soft ho rfl hk hw hn (fun ρ w' hρ => by
    simp only [rd, execOp, hρ x _ hx, hρ y _ hy]
    have hg : (eqGuard .neq t x y (.bool a) (.bool b)).run P w' = .ok () w' := rfl
    simp [Sem.run_bind, hg, Result.andThen, binOp, run_eqB hu]) H
end
end Go.Sl
