/- YtpnigaoibhogfaaDoorSlOps: a part of the proof: walks over the translated code, and plain facts on lists beside. -/
import Derived.Test.YtpnigaoibhogfaaDoorSlFr
set_option linter.all false
namespace Go.Sl
open Go Go.RowKit

/-! ### Blocks that are known -/
def blks : List (Nat × Obj) → HProp
  | [] => hemp
  | x :: r => pt x.1 x.2 * blks r

instance : Std.LawfulIdentity (α := HProp) (· * ·) hemp where
  left_id := hemp_star
  right_id := star_hemp

inductive CellAt : List (Nat × Obj) → Nat → Nat → Value → Prop
  | here {b : Nat} {c : Array Value} {T : TypeId} {z : Nat × Nat} {o : Nat} {v : Value} {L : List (Nat × Obj)} (h : c[o]? = some v) : CellAt ((b, .cells c T z) :: L) b o v
  | there {x : Nat × Obj} {L : List (Nat × Obj)} {b o : Nat} {v : Value} (h : CellAt L b o v) : CellAt (x :: L) b o v
inductive SetAt : List (Nat × Obj) → Nat → Nat → Value → List (Nat × Obj) → Prop
  | here {b : Nat} {c c' : Array Value} {T : TypeId} {o : Nat} {v : Value} {L : List (Nat × Obj)} (h : Nat.blt o c.size = true) (e : c.setIfInBounds o v = c') : SetAt ((b, .cells c T (0, 0)) :: L) b o v ((b, .cells c' T (0, 0)) :: L)
  | there {x : Nat × Obj} {L L' : List (Nat × Obj)} {b o : Nat} {v : Value} (h : SetAt L b o v L') : SetAt (x :: L) b o v (x :: L')

theorem CellAt.cell {w0 w : World} {R : HProp} {L : List (Nat × Obj)} {b o : Nat} {v : Value} (h : CellAt L b o v) : Sat w0 (blks L * R) w → w.cell? ⟨b, o, none⟩ = some v := by
  induction h generalizing R with
  | here h => exact fun hS => Sat.cell (hS.to (star_assoc _ _ _)) h
  | @there x L b o v h ih => exact fun hS => ih (R := pt x.1 x.2 * R) (hS.to (by simp only [blks]; ac_rfl))

theorem SetAt.set {w0 w : World} {R : HProp} {L L' : List (Nat × Obj)} {b o : Nat} {v : Value} (h : SetAt L b o v L') : Sat w0 (blks L * R) w →
    (∃ u, w.cell? ⟨b, o, none⟩ = some u) ∧ w.frozen? ⟨b, o, none⟩ = false ∧ Sat w0 (blks L' * R) (w.setCell ⟨b, o, none⟩ v) := by
  induction h generalizing R with
  | @here b c c' T o v L h e =>
    intro hS
    have hS' := hS.to (star_assoc _ _ _)
    have hlt : o < c.size := by simpa using h
    refine ⟨⟨c[o], Sat.cell hS' (by simp [hlt])⟩, Sat.frozen hS', ?_⟩
    rw [← e]
    exact (Sat.setCell v hS').to (star_assoc _ _ _).symm
  | @there x L L' b o v h ih =>
    intro hS
    obtain ⟨h1, h2, h3⟩ := ih (R := pt x.1 x.2 * R) (hS.to (by simp only [blks]; ac_rfl))
    exact ⟨h1, h2, h3.to (by simp only [blks]; ac_rfl)⟩

/-! ### What is asked of loads beside what may turn them -/
def histOk (p : Par) (i : Nat) : Hist → (World → Prop) → Prop
  | [], _ => True
  | (j, w) :: r, rp => (match inc p.cf j i with | true => rp w | false => True) ∧ histOk p i r rp
def ldsOk (p : Par) (i : Nat) : Lds → World → Prop
  | [], _ => True
  | (j, rp) :: r, w => (match inc p.cf j i with | true => rp w | false => True) ∧ ldsOk p i r w
def pushH (p : Par) (i : Nat) (w : World) (h : Hist) : Hist := match p.calm i with | true => h | false => (i, w) :: h
def pushL (p : Par) (i : Nat) (rp : World → Prop) (l : Lds) : Lds := match p.calm i with | true => l | false => (i, rp) :: l

theorem histOk.spec {p : Par} {i : Nat} {rp : World → Prop} : ∀ {h : Hist}, histOk p i h rp → ∀ x ∈ h, inc p.cf x.1 i = true → rp x.2
  | [], _, _, hx, _ => by cases hx
  | (j, w) :: r, hh, x, hx, hin => by
    rcases List.mem_cons.1 hx with e | e
    · subst e
      have := hh.1
      simp only [hin] at this
      exact this
    · exact histOk.spec hh.2 x e hin
theorem ldsOk.spec {p : Par} {i : Nat} {w : World} : ∀ {l : Lds}, ldsOk p i l w → ∀ x ∈ l, inc p.cf x.1 i = true → x.2 w
  | [], _, _, hx, _ => by cases hx
  | (j, rp) :: r, hh, x, hx, hin => by
    rcases List.mem_cons.1 hx with e | e
    · subst e
      have := hh.1
      simp only [hin] at this
      exact this
    · exact ldsOk.spec hh.2 x e hin

section
variable {P : Program} {Q : Exit → Fr → World → Prop} {f : Fr} {w w0 : World}
variable {p : Par} {K : Fr → World → Prop} {r : Plan} {h : Hist} {l : Lds} {i : Nat} {v : Value} {ty : TypeId} {pos : String} {after : Array Edge} {dst : Option Nat} {g : Option (Nat × Bool)}

theorem R_readU {o : Oper} (rp : World → Prop) (ho : p.ops[i]? = some o) (hop : plainOp o.op = true) (hk : p.kind i = 1) (hw : wantF f p.ops o = some true) (hn : dstOk f o.dst = true)
    (hs : ∀ ρ w', (∀ x u, f.ev x = some u → ρ x = u) → rp w' → rd P (execOp ρ o) w' v) (h0 : rp w) (hh : histOk p i h rp)
    (H : wpR P p K r h (pushL p i rp l) (putd f o.dst v) w) : wpR P p K (.one i r) h l f w := by
  unfold pushL at H
  cases hc : p.calm i with
  | true => rw [hc] at H; exact R_read ho hop hk hc hw hn (fun ρ hρ => hs ρ w hρ h0) H
  | false => rw [hc] at H; exact R_readc rp ho hop hk hw hn hs h0 hh.spec H

theorem R_actU {o : Oper} {Rr : Value → World → Prop} (ho : p.ops[i]? = some o) (hop : plainOp o.op = true) (hk : p.kind i = 2) (hw : wantF f p.ops o = some true) (hn : dstOk f o.dst = true)
    (hs : ∀ ρ, (∀ x u, f.ev x = some u → ρ x = u) → runsTo P Rr ((execOp ρ o).run P w)) (hl : ∀ v w', Rr v w' → ldsOk p i l w')
    (H : ∀ v w', Rr v w' → wpR P p K r (pushH p i w h) l (putd f o.dst v) w') : wpR P p K (.one i r) h l f w := by
  unfold pushH at H
  cases hc : p.calm i with
  | true => rw [hc] at H; exact R_act ho hop hk hc hw hn hs H
  | false => rw [hc] at H; exact R_actc ho hop hk hw hn hs (fun v w' hv => (hl v w' hv).spec) H

/-! ### Operations that only reckon -/

theorem map_toArray {α β : Type} {xs : Array α} {ρ : α → β} {vs : List β} (h : xs.toList.map ρ = vs) : xs.map ρ = vs.toArray := by
  rw [← h, ← Array.toList_map]

theorem O_move {x : Operand} (ho : p.ops[i]? = some ⟨dst, .move x, ty, pos, after, g⟩) (hk : p.kind i = 0) (hw : wantF f p.ops ⟨dst, .move x, ty, pos, after, g⟩ = some true) (hn : dstOk f dst = true) (hx : f.ev x = some v)
    (H : wpR P p K r h l (putd f dst v) w) : wpR P p K (.one i r) h l f w :=
  R_soft ho rfl hk hw hn (fun ρ w' hρ => by simp only [rd, execOp]; rw [hρ x v hx]; rfl) H
theorem O_assign {x : Operand} (ho : p.ops[i]? = some ⟨dst, .assign x, ty, pos, after, g⟩) (hk : p.kind i = 0) (hw : wantF f p.ops ⟨dst, .assign x, ty, pos, after, g⟩ = some true) (hn : dstOk f dst = true) (hx : f.ev x = some v)
    (H : wpR P p K r h l (putd f dst v) w) : wpR P p K (.one i r) h l f w :=
  R_soft ho rfl hk hw hn (fun ρ w' hρ => by simp only [rd, execOp]; rw [hρ x v hx]; rfl) H
theorem O_pickT {c x y : Operand} (ho : p.ops[i]? = some ⟨dst, .pick c x y, ty, pos, after, g⟩) (hk : p.kind i = 0) (hw : wantF f p.ops ⟨dst, .pick c x y, ty, pos, after, g⟩ = some true) (hn : dstOk f dst = true) (hc : f.ev c = some (.bool true)) (hx : f.ev x = some v)
    (H : wpR P p K r h l (putd f dst v) w) : wpR P p K (.one i r) h l f w :=
  R_soft ho rfl hk hw hn (fun ρ w' hρ => by simp only [rd, execOp]; rw [hρ c _ hc, hρ x v hx]; rfl) H
theorem O_pickF {c x y : Operand} (ho : p.ops[i]? = some ⟨dst, .pick c x y, ty, pos, after, g⟩) (hk : p.kind i = 0) (hw : wantF f p.ops ⟨dst, .pick c x y, ty, pos, after, g⟩ = some true) (hn : dstOk f dst = true) (hc : f.ev c = some (.bool false)) (hx : f.ev y = some v)
    (H : wpR P p K r h l (putd f dst v) w) : wpR P p K (.one i r) h l f w :=
  R_soft ho rfl hk hw hn (fun ρ w' hρ => by simp only [rd, execOp]; rw [hρ c _ hc, hρ y v hx]; rfl) H
theorem O_nilCheck {x : Operand} {ad : Addr} (ho : p.ops[i]? = some ⟨dst, .nilCheck x, ty, pos, after, g⟩) (hk : p.kind i = 0) (hw : wantF f p.ops ⟨dst, .nilCheck x, ty, pos, after, g⟩ = some true) (hn : dstOk f dst = true)
    (hx : f.ev x = some (.pointer (some ad))) (H : wpR P p K r h l (putd f dst (.pointer (some ad))) w) : wpR P p K (.one i r) h l f w :=
  R_soft ho rfl hk hw hn (fun ρ w' hρ => by simp only [rd, execOp]; rw [hρ x _ hx]; rfl) H
theorem O_fieldAddr {x : Operand} {s : TypeId} {k b o : Nat} {fs : Array Field} {fd : Field} {n : Nat} (ho : p.ops[i]? = some ⟨dst, .fieldAddr s x k, ty, pos, after, g⟩) (hk : p.kind i = 0) (hw : wantF f p.ops ⟨dst, .fieldAddr s x k, ty, pos, after, g⟩ = some true) (hn : dstOk f dst = true)
    (hx : f.ev x = some (.pointer (some ⟨b, o, none⟩))) (hu : ∀ w, (underlying s).run P w = .ok (.struct fs) w) (hf : fs[k]? = some fd) (hsz : ∀ w, (sizeOf fd.type).run P w = .ok (n + 1) w)
    (H : wpR P p K r h l (putd f dst (.pointer (some ⟨b, o + fd.offset, none⟩))) w) : wpR P p K (.one i r) h l f w :=
  R_soft ho rfl hk hw hn (fun ρ w' hρ => by
    have hadd : (⟨b, o, none⟩ : Addr).add fd.offset = ⟨b, o + fd.offset, none⟩ := by unfold Addr.add; split <;> simp_all
    simp only [rd, execOp, Instr.fieldAt]
    rw [hρ x _ hx]
    simp [Sem.run_bind, hu, hf, Instr.sureAddr, Sem.run_pure, Result.andThen, fieldPlace, hsz, hadd]) H
theorem O_extract {x : Operand} {k : Nat} {vs : Array Value} (ho : p.ops[i]? = some ⟨dst, .extract x k, ty, pos, after, g⟩) (hk : p.kind i = 0) (hw : wantF f p.ops ⟨dst, .extract x k, ty, pos, after, g⟩ = some true) (hn : dstOk f dst = true)
    (hx : f.ev x = some (.tuple vs)) (hv : vs[k]? = some v) (H : wpR P p K r h l (putd f dst v) w) : wpR P p K (.one i r) h l f w :=
  R_soft ho rfl hk hw hn (fun ρ w' hρ => by simp only [rd, execOp]; rw [hρ x _ hx]; simp [Instr.extract, hv, Sem.run_bind, Sem.run_pure, Result.andThen]) H
theorem O_not {x : Operand} {t : TypeId} {b : Bool} (ho : p.ops[i]? = some ⟨dst, .unOp .not t x, ty, pos, after, g⟩) (hk : p.kind i = 0) (hw : wantF f p.ops ⟨dst, .unOp .not t x, ty, pos, after, g⟩ = some true) (hn : dstOk f dst = true)
    (hx : f.ev x = some (.bool b)) (H : wpR P p K r h l (putd f dst (.bool !b)) w) : wpR P p K (.one i r) h l f w :=
  R_soft ho rfl hk hw hn (fun ρ w' hρ => by simp only [rd, execOp]; rw [hρ x _ hx]; rfl) H
theorem O_makeFunc {fn : Fn} {first cap : Array Operand} {vs us : List Value} (ho : p.ops[i]? = some ⟨dst, .makeFunc fn first cap, ty, pos, after, g⟩) (hk : p.kind i = 0) (hw : wantF f p.ops ⟨dst, .makeFunc fn first cap, ty, pos, after, g⟩ = some true) (hn : dstOk f dst = true)
    (hf : f.evs first.toList = some vs) (hc : f.evs cap.toList = some us) (H : wpR P p K r h l (putd f dst (.func fn vs.toArray us.toArray)) w) : wpR P p K (.one i r) h l f w :=
  R_soft ho rfl hk hw hn (fun ρ w' hρ => by
    have ev : ∀ {xs : List Operand} {vs : List Value}, f.evs xs = some vs → xs.map ρ = vs := by
      intro xs
      induction xs with
      | nil => intro vs h; simp [Fr.evs] at h; subst h; rfl
      | cons x xs ih =>
        intro vs h
        unfold Fr.evs at h
        split at h
        · rename_i u hu
          split at h
          · rename_i us' hus
            cases h
            simp [hρ x u hu, ih hus]
          · cases h
        · cases h
    simp only [rd, execOp, Instr.makeFunc]
    rw [map_toArray (ev hf), map_toArray (ev hc)]; rfl) H

/-- Two whole numbers. -/
theorem run_binInt {op : BinOp} {t : TypeId} {x y : Operand} {k : IntKind} {a b : Int} {v : Value} {ρ : Operand → Value} {w : World} (hx : ρ x = .int k a) (hy : ρ y = .int k b)
    (hv : (binOp op t (.int k a) (.int k b)).run P w = .ok v w) {yt : TypeId} : rd P (execOp ρ ⟨dst, .binOp op t x y yt, ty, pos, after, g⟩) w v := by
  simp only [rd, execOp, hx, hy]
  have : (eqGuard op t x y (.int k a) (.int k b)).run P w = .ok () w := by
    cases op <;> rfl
  simp [Sem.run_bind, this, Result.andThen, hv]

theorem O_add {x y : Operand} {t yt : TypeId} {k : IntKind} {a b : Int} (ho : p.ops[i]? = some ⟨dst, .binOp .add t x y yt, ty, pos, after, g⟩) (hk : p.kind i = 0) (hw : wantF f p.ops ⟨dst, .binOp .add t x y yt, ty, pos, after, g⟩ = some true) (hn : dstOk f dst = true)
    (hx : f.ev x = some (.int k a)) (hy : f.ev y = some (.int k b)) (H : wpR P p K r h l (putd f dst (.int k (k.wrap (a + b)))) w) : wpR P p K (.one i r) h l f w :=
  R_soft ho rfl hk hw hn (fun ρ w' hρ => run_binInt (hρ x _ hx) (hρ y _ hy) (by simp [binOp, Op.intArith])) H
theorem O_sub {x y : Operand} {t yt : TypeId} {k : IntKind} {a b : Int} (ho : p.ops[i]? = some ⟨dst, .binOp .sub t x y yt, ty, pos, after, g⟩) (hk : p.kind i = 0) (hw : wantF f p.ops ⟨dst, .binOp .sub t x y yt, ty, pos, after, g⟩ = some true) (hn : dstOk f dst = true)
    (hx : f.ev x = some (.int k a)) (hy : f.ev y = some (.int k b)) (H : wpR P p K r h l (putd f dst (.int k (k.wrap (a - b)))) w) : wpR P p K (.one i r) h l f w :=
  R_soft ho rfl hk hw hn (fun ρ w' hρ => run_binInt (hρ x _ hx) (hρ y _ hy) (by simp [binOp, Op.intArith])) H
theorem O_mul {x y : Operand} {t yt : TypeId} {k : IntKind} {a b : Int} (ho : p.ops[i]? = some ⟨dst, .binOp .mul t x y yt, ty, pos, after, g⟩) (hk : p.kind i = 0) (hw : wantF f p.ops ⟨dst, .binOp .mul t x y yt, ty, pos, after, g⟩ = some true) (hn : dstOk f dst = true)
    (hx : f.ev x = some (.int k a)) (hy : f.ev y = some (.int k b)) (H : wpR P p K r h l (putd f dst (.int k (k.wrap (a * b)))) w) : wpR P p K (.one i r) h l f w :=
  R_soft ho rfl hk hw hn (fun ρ w' hρ => run_binInt (hρ x _ hx) (hρ y _ hy) (by simp [binOp, Op.intArith])) H
theorem i64_wrap {n : Int} (h : -9223372036854775808 ≤ n ∧ n ≤ 9223372036854775807) : IntKind.i64.wrap n = n := IntWalk.i64_in n h
theorem O_addN {x y : Operand} {t yt : TypeId} {a b : Int} (ho : p.ops[i]? = some ⟨dst, .binOp .add t x y yt, ty, pos, after, g⟩) (hk : p.kind i = 0) (hw : wantF f p.ops ⟨dst, .binOp .add t x y yt, ty, pos, after, g⟩ = some true) (hn : dstOk f dst = true)
    (hx : f.ev x = some (.int .i64 a)) (hy : f.ev y = some (.int .i64 b)) (hr : -9223372036854775808 ≤ a + b ∧ a + b ≤ 9223372036854775807) (H : wpR P p K r h l (putd f dst (.int .i64 (a + b))) w) : wpR P p K (.one i r) h l f w :=
  O_add ho hk hw hn hx hy (by rw [i64_wrap hr]; exact H)
theorem O_subN {x y : Operand} {t yt : TypeId} {a b : Int} (ho : p.ops[i]? = some ⟨dst, .binOp .sub t x y yt, ty, pos, after, g⟩) (hk : p.kind i = 0) (hw : wantF f p.ops ⟨dst, .binOp .sub t x y yt, ty, pos, after, g⟩ = some true) (hn : dstOk f dst = true)
    (hx : f.ev x = some (.int .i64 a)) (hy : f.ev y = some (.int .i64 b)) (hr : -9223372036854775808 ≤ a - b ∧ a - b ≤ 9223372036854775807) (H : wpR P p K r h l (putd f dst (.int .i64 (a - b))) w) : wpR P p K (.one i r) h l f w :=
  O_sub ho hk hw hn hx hy (by rw [i64_wrap hr]; exact H)
theorem O_mulN {x y : Operand} {t yt : TypeId} {a b : Int} (ho : p.ops[i]? = some ⟨dst, .binOp .mul t x y yt, ty, pos, after, g⟩) (hk : p.kind i = 0) (hw : wantF f p.ops ⟨dst, .binOp .mul t x y yt, ty, pos, after, g⟩ = some true) (hn : dstOk f dst = true)
    (hx : f.ev x = some (.int .i64 a)) (hy : f.ev y = some (.int .i64 b)) (hr : -9223372036854775808 ≤ a * b ∧ a * b ≤ 9223372036854775807) (H : wpR P p K r h l (putd f dst (.int .i64 (a * b))) w) : wpR P p K (.one i r) h l f w :=
  O_mul ho hk hw hn hx hy (by rw [i64_wrap hr]; exact H)
/-- What a comparison of whole numbers says. -/
def cmpInt : BinOp → Int → Int → Option Bool
  | .eql, a, b => some (decide (a = b))
  | .neq, a, b => some (!decide (a = b))
  | .lss, a, b => some (decide (a < b))
  | .leq, a, b => some (decide (a ≤ b))
  | .gtr, a, b => some (decide (b < a))
  | .geq, a, b => some (decide (b ≤ a))
  | _, _, _ => none
theorem run_cmpInt {op : BinOp} {t : TypeId} {k : IntKind} {a b : Int} {c : Bool} {w : World} (hc : cmpInt op a b = some c) : (binOp op t (.int k a) (.int k b)).run P w = .ok (.bool c) w := by
  have e1 : (a == b) = decide (a = b) := by rw [Bool.eq_iff_iff]; simp
  cases op <;> simp only [cmpInt, Option.some.injEq, reduceCtorEq] at hc <;> subst hc <;> simp [binOp, Op.intCmp, e1, bne]
theorem O_cmp {op : BinOp} {x y : Operand} {t yt : TypeId} {k : IntKind} {a b : Int} {c : Bool} (ho : p.ops[i]? = some ⟨dst, .binOp op t x y yt, ty, pos, after, g⟩) (hk : p.kind i = 0) (hw : wantF f p.ops ⟨dst, .binOp op t x y yt, ty, pos, after, g⟩ = some true) (hn : dstOk f dst = true)
    (hx : f.ev x = some (.int k a)) (hy : f.ev y = some (.int k b)) (hc : cmpInt op a b = some c) (H : wpR P p K r h l (putd f dst (.bool c)) w) : wpR P p K (.one i r) h l f w :=
  R_soft ho rfl hk hw hn (fun ρ w' hρ => run_binInt (hρ x _ hx) (hρ y _ hy) (run_cmpInt hc)) H
theorem run_eqNil {t e : TypeId} {a : Option Addr} {w : World} (hu : ∀ w, (underlying t).run P w = .ok (.pointer e) w) : (Op.equal t (.pointer a) (.pointer none)).run P w = .ok a.isNone w := by
  have key : ∀ d, (Op.equalIn (d + 1) t (.pointer a) (.pointer none)).run P w = .ok a.isNone w := fun d => by
    rw [Op.equalIn]
    simp only [Sem.run_bind, hu, Result.andThen]
    cases a <;> rfl
  exact key (Op.maxDepth - 1)
theorem O_eqNil {x y : Operand} {t yt e : TypeId} {a : Option Addr} (ho : p.ops[i]? = some ⟨dst, .binOp .eql t x y yt, ty, pos, after, g⟩) (hk : p.kind i = 0) (hw : wantF f p.ops ⟨dst, .binOp .eql t x y yt, ty, pos, after, g⟩ = some true) (hn : dstOk f dst = true)
    (hx : f.ev x = some (.pointer a)) (hy : f.ev y = some (.pointer none)) (hu : ∀ w, (underlying t).run P w = .ok (.pointer e) w) (H : wpR P p K r h l (putd f dst (.bool a.isNone)) w) : wpR P p K (.one i r) h l f w :=
  R_soft ho rfl hk hw hn (fun ρ w' hρ => by
    simp only [rd, execOp, hρ x _ hx, hρ y _ hy]
    have hg : (eqGuard .eql t x y (.pointer a) (.pointer none)).run P w' = .ok () w' := rfl
    simp [Sem.run_bind, hg, Result.andThen, binOp, run_eqNil hu]) H
theorem O_neNil {x y : Operand} {t yt e : TypeId} {a : Option Addr} (ho : p.ops[i]? = some ⟨dst, .binOp .neq t x y yt, ty, pos, after, g⟩) (hk : p.kind i = 0) (hw : wantF f p.ops ⟨dst, .binOp .neq t x y yt, ty, pos, after, g⟩ = some true) (hn : dstOk f dst = true)
    (hx : f.ev x = some (.pointer a)) (hy : f.ev y = some (.pointer none)) (hu : ∀ w, (underlying t).run P w = .ok (.pointer e) w) (H : wpR P p K r h l (putd f dst (.bool !a.isNone)) w) : wpR P p K (.one i r) h l f w :=
  R_soft ho rfl hk hw hn (fun ρ w' hρ => by
    simp only [rd, execOp, hρ x _ hx, hρ y _ hy]
    have hg : (eqGuard .neq t x y (.pointer a) (.pointer none)).run P w' = .ok () w' := rfl
    simp [Sem.run_bind, hg, Result.andThen, binOp, run_eqNil hu]) H

/-! ### Memory -/
theorem O_load {x : Operand} {t : TypeId} {b o : Nat} (ho : p.ops[i]? = some ⟨dst, .load t x, ty, pos, after, g⟩) (hk : p.kind i = 1) (hw : wantF f p.ops ⟨dst, .load t x, ty, pos, after, g⟩ = some true) (hn : dstOk f dst = true)
    (hx : f.ev x = some (.pointer (some ⟨b, o, none⟩))) (ha : ∀ w, (isAgg t).run P w = .ok false w) (hc : w.cell? ⟨b, o, none⟩ = some v) (hh : histOk p i h (fun w' => w'.cell? ⟨b, o, none⟩ = some v))
    (H : wpR P p K r h (pushL p i (fun w' => w'.cell? ⟨b, o, none⟩ = some v) l) (putd f dst v) w) : wpR P p K (.one i r) h l f w :=
  R_readU (fun w' => w'.cell? ⟨b, o, none⟩ = some v) ho rfl hk hw hn (fun ρ w' hρ hc => by
    simp only [rd, execOp, Instr.loadAt, hρ x _ hx]
    simp [Sem.run_bind, Instr.sureAddr, Sem.run_pure, Result.andThen, loadVar, ha, load, Sem.run, hc]) hc hh H

def one (v : Value) : Bool := match v with | .agg _ => false | .tuple _ => false | _ => true
theorem run_store1 {t : TypeId} {ad : Addr} {v u : Value} {w : World} (h1 : one v = true) (hsz : ∀ w, (sizeOf t).run P w = .ok 1 w) (hc : w.cell? ad = some u) (hf : w.frozen? ad = false) :
    (Instr.storeAt t (.pointer (some ad)) v).run P w = .ok () (w.setCell ad v) := by
  have hcells : v.cells = #[v] := by cases v <;> simp_all [one, Value.cells]
  have hadd : ad.add 0 = ad := rfl
  simp only [Instr.storeAt, Instr.sureAddr, storeVar]
  simp only [Sem.run_bind, Sem.run_pure, Result.andThen, hsz, hcells]
  simp only [List.size_toArray, List.length_cons, List.length_nil, ne_eq, not_true_eq_false, if_false, storeCells, Sem.run_bind, store, hadd]
  cases v <;> simp_all [one, Sem.run, Result.andThen]
theorem O_store {x y : Operand} {t : TypeId} {ad : Addr} {u : Value} (ho : p.ops[i]? = some ⟨dst, .store t x y, ty, pos, after, g⟩) (hk : p.kind i = 2) (hw : wantF f p.ops ⟨dst, .store t x y, ty, pos, after, g⟩ = some true) (hn : dstOk f dst = true)
    (hx : f.ev x = some (.pointer (some ad))) (hy : f.ev y = some v) (h1 : one v = true) (hsz : ∀ w, (sizeOf t).run P w = .ok 1 w) (hc : w.cell? ad = some u) (hf : w.frozen? ad = false) (hl : ldsOk p i l (w.setCell ad v))
    (H : wpR P p K r (pushH p i w h) l (putd f dst undef) (w.setCell ad v)) : wpR P p K (.one i r) h l f w :=
  R_actU (Rr := fun v' w' => v' = undef ∧ w' = w.setCell ad v) ho rfl hk hw hn (fun ρ hρ => by
    simp only [execOp, hρ x _ hx, hρ y _ hy]
    simp [Sem.run_bind, run_store1 h1 hsz hc hf, Result.andThen, runsTo]) (fun v' w' ⟨_, e⟩ => e ▸ hl) (fun v' w' ⟨e1, e2⟩ => by subst e1; subst e2; exact H)
theorem O_storeS {x y : Operand} {t : TypeId} {b o : Nat} {L L' : List (Nat × Obj)} {R : HProp} (hS : Sat w0 (blks L * R) w) (ho : p.ops[i]? = some ⟨dst, .store t x y, ty, pos, after, g⟩) (hk : p.kind i = 2) (hw : wantF f p.ops ⟨dst, .store t x y, ty, pos, after, g⟩ = some true) (hn : dstOk f dst = true)
    (hx : f.ev x = some (.pointer (some ⟨b, o, none⟩))) (hy : f.ev y = some v) (h1 : one v = true) (hsz : ∀ w, (sizeOf t).run P w = .ok 1 w) (hset : SetAt L b o v L') (hl : ∀ w', Sat w0 (blks L' * R) w' → ldsOk p i l w')
    (H : ∀ w', Sat w0 (blks L' * R) w' → wpR P p K r (pushH p i w h) l (putd f dst undef) w') : wpR P p K (.one i r) h l f w := by
  obtain ⟨⟨u, hc⟩, hf, hS'⟩ := hset.set hS
  exact O_store ho hk hw hn hx hy h1 hsz hc hf (hl _ hS') (H _ hS')
theorem O_loadS {x : Operand} {t : TypeId} {b o : Nat} {L : List (Nat × Obj)} {R : HProp} (hS : Sat w0 (blks L * R) w) (ho : p.ops[i]? = some ⟨dst, .load t x, ty, pos, after, g⟩) (hk : p.kind i = 1) (hw : wantF f p.ops ⟨dst, .load t x, ty, pos, after, g⟩ = some true) (hn : dstOk f dst = true)
    (hx : f.ev x = some (.pointer (some ⟨b, o, none⟩))) (ha : ∀ w, (isAgg t).run P w = .ok false w) (hc : CellAt L b o v) (hh : histOk p i h (fun w' => w'.cell? ⟨b, o, none⟩ = some v))
    (H : wpR P p K r h (pushL p i (fun w' => w'.cell? ⟨b, o, none⟩ = some v) l) (putd f dst v) w) : wpR P p K (.one i r) h l f w :=
  O_load ho hk hw hn hx ha (hc.cell hS) hh H

/-- A new variable. -/
theorem O_box {x : Operand} {t : TypeId} {A : HProp} (hS : Sat w0 A w) (ho : p.ops[i]? = some ⟨dst, .box t x, ty, pos, after, g⟩) (hk : p.kind i = 2) (hw : wantF f p.ops ⟨dst, .box t x, ty, pos, after, g⟩ = some true) (hn : dstOk f dst = true)
    (hx : f.ev x = some v) (hl : ∀ b w', Sat w0 (pt b (.cells v.cells t) * A) w' → ldsOk p i l w')
    (H : ∀ b w', Sat w0 (pt b (.cells v.cells t) * A) w' → wpR P p K r (pushH p i w h) l (putd f dst (.pointer (some ⟨b, 0, none⟩))) w') : wpR P p K (.one i r) h l f w :=
  R_actU (Rr := fun v' w' => ∃ b, v' = .pointer (some ⟨b, 0, none⟩) ∧ Sat w0 (pt b (.cells v.cells t) * A) w') ho rfl hk hw hn (fun ρ hρ => by
    simp only [execOp, hρ x _ hx, Instr.box, newVar, newRow]
    simp only [Sem.run_bind, run_newObj_alloc, Result.andThen, Sem.run_pure]
    exact ⟨w.heap.size, rfl, hS.alloc _⟩) (fun v' w' ⟨b, _, hS'⟩ => hl b w' hS') (fun v' w' ⟨b, e, hS'⟩ => by subst e; exact H b w' hS')
theorem O_alloc {t : TypeId} {A : HProp} {z : Value} (hS : Sat w0 A w) (ho : p.ops[i]? = some ⟨dst, .alloc t, ty, pos, after, g⟩) (hk : p.kind i = 2) (hw : wantF f p.ops ⟨dst, .alloc t, ty, pos, after, g⟩ = some true) (hn : dstOk f dst = true)
    (hz : ∀ w, (zeroValue t).run P w = .ok z w) (hl : ∀ b w', Sat w0 (pt b (.cells z.cells t) * A) w' → ldsOk p i l w')
    (H : ∀ b w', Sat w0 (pt b (.cells z.cells t) * A) w' → wpR P p K r (pushH p i w h) l (putd f dst (.pointer (some ⟨b, 0, none⟩))) w') : wpR P p K (.one i r) h l f w :=
  R_actU (Rr := fun v' w' => ∃ b, v' = .pointer (some ⟨b, 0, none⟩) ∧ Sat w0 (pt b (.cells z.cells t) * A) w') ho rfl hk hw hn (fun ρ hρ => by
    simp only [execOp, Instr.alloc, newVar, newRow]
    simp only [Sem.run_bind, hz, run_newObj_alloc, Result.andThen, Sem.run_pure]
    exact ⟨w.heap.size, rfl, hS.alloc _⟩) (fun v' w' ⟨b, _, hS'⟩ => hl b w' hS') (fun v' w' ⟨b, e, hS'⟩ => by subst e; exact H b w' hS')

/-! ### Calls -/
theorem evs_map {f : Fr} {ρ : Operand → Value} (hρ : ∀ x u, f.ev x = some u → ρ x = u) : ∀ {xs : List Operand} {vs : List Value}, f.evs xs = some vs → xs.map ρ = vs
  | [], vs, h => by simp [Fr.evs] at h; subst h; rfl
  | x :: xs, vs, h => by
    unfold Fr.evs at h
    split at h
    · rename_i u hu
      split at h
      · rename_i us' hus
        cases h
        simp [hρ x u hu, evs_map hρ hus]
      · cases h
    · cases h
theorem O_call {k : Nat} {as_ : Array Operand} {ts : Array TypeId} {vs : List Value} {Rr : Value → World → Prop} (ho : p.ops[i]? = some ⟨dst, .call ⟨.value (.func k), as_, ts⟩, ty, pos, after, g⟩) (hk : p.kind i = 2)
    (hw : wantF f p.ops ⟨dst, .call ⟨.value (.func k), as_, ts⟩, ty, pos, after, g⟩ = some true) (hn : dstOk f dst = true)
    (eg : ∀ args w, (callFunc k args).run P w = .ok (.enter k args) w) (hvs : f.evs as_.toList = some vs) (hc : Calls P k vs.toArray w (ret Rr)) (hl : ∀ v w', Rr v w' → ldsOk p i l w')
    (H : ∀ v w', Rr v w' → wpR P p K r (pushH p i w h) l (putd f dst v) w') : wpR P p K (.one i r) h l f w :=
  R_actU ho rfl hk hw hn (fun ρ hρ => by
    have e1 : as_.map ρ = vs.toArray := map_toArray (evs_map hρ hvs)
    have e2 : ρ (.func k) = .func (.func k) #[] #[] := hρ _ _ rfl
    simp only [execOp, resolve, e1, e2, Deferred.ofValue]
    simp only [Sem.run_bind, Sem.run_pure, Result.andThen, invoke, Array.empty_append, Array.append_empty, eg]
    exact hc) hl H
theorem O_callv {x : Operand} {fv : Value} {as_ : Array Operand} {ts : Array TypeId} {vs : List Value} {Rr : Value → World → Prop} (ho : p.ops[i]? = some ⟨dst, .call ⟨.value x, as_, ts⟩, ty, pos, after, g⟩) (hk : p.kind i = 2)
    (hw : wantF f p.ops ⟨dst, .call ⟨.value x, as_, ts⟩, ty, pos, after, g⟩ = some true) (hn : dstOk f dst = true)
    (hx : f.ev x = some fv) (hvs : f.evs as_.toList = some vs) (hc : FV P fv vs.toArray w Rr) (hl : ∀ v w', Rr v w' → ldsOk p i l w')
    (H : ∀ v w', Rr v w' → wpR P p K r (pushH p i w h) l (putd f dst v) w') : wpR P p K (.one i r) h l f w :=
  R_actU ho rfl hk hw hn (fun ρ hρ => by
    have e1 : as_.map ρ = vs.toArray := map_toArray (evs_map hρ hvs)
    have e2 : ρ x = fv := hρ _ _ hx
    obtain ⟨fn, first, cap, hv, hcase⟩ := hc
    rcases hcase with ⟨k, rfl, eg, hc⟩ | ⟨l', k, tmps, assign, body, rfl, hy, hc⟩
    · simp only [execOp, resolve, e1, e2, hv, Deferred.ofValue]
      simp only [Sem.run_bind, Sem.run_pure, Result.andThen, invoke, eg]
      exact hc
    · simp only [execOp, resolve, e1, e2, hv, Deferred.ofValue]
      simp only [Sem.run_bind, Sem.run_pure, Result.andThen, invoke, hy]
      exact hc) hl H
end
end Go.Sl
