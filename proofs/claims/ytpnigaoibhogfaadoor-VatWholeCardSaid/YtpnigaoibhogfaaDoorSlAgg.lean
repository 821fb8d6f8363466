/- YtpnigaoibhogfaaDoorSlAgg: a part of the proof: walks over the translated code, and plain facts on lists beside. -/
import Derived.Test.YtpnigaoibhogfaaDoorSlRange
set_option linter.all false
namespace Go.Sl
open Go Go.RowKit

/-! ### Things of several cells -/
section
variable {P : Program} {w w0 : World} {f : Fr} {p : Par} {K : Fr → World → Prop} {r : Plan} {h : Hist} {l : Lds} {i : Nat} {v : Value} {ty : TypeId} {pos : String} {after : Array Edge} {dst : Option Nat} {g : Option (Nat × Bool)}

theorem run_loadCellsFrom {a : Addr} {w : World} : ∀ (cs : List Value) (k : Nat) (acc : Array Value), (∀ j u, cs[j]? = some u → w.cell? (a.add (k + j)) = some u) →
    (loadCellsFrom a k cs.length acc).run P w = .ok (acc ++ cs.toArray) w
  | [], k, acc, _ => by simp [loadCellsFrom, Sem.run_pure]
  | c :: cs, k, acc, hc => by
    have h0 := hc 0 c rfl
    have ih := run_loadCellsFrom (a := a) (w := w) cs (k + 1) (acc.push c) (fun j u hu => by have := hc (j + 1) u (by simpa using hu); rwa [show k + 1 + j = k + (j + 1) by omega])
    simp only [List.length_cons, loadCellsFrom, Sem.run_bind]
    have hl : (load (a.add k)).run P w = .ok c w := by
      have : w.cell? (a.add k) = some c := h0
      simp [load, Sem.run, this]
    rw [hl]
    simp only [Result.andThen, ih]
    simp

theorem O_loadAgg {x : Operand} {t : TypeId} {b o n : Nat} (cs : List Value) (ho : p.ops[i]? = some ⟨dst, .load t x, ty, pos, after, g⟩) (hk : p.kind i = 1) (hw : wantF f p.ops ⟨dst, .load t x, ty, pos, after, g⟩ = some true) (hn : dstOk f dst = true)
    (hx : f.ev x = some (.pointer (some ⟨b, o, none⟩))) (ha : ∀ w, (isAgg t).run P w = .ok true w) (hsz : ∀ w, (sizeOf t).run P w = .ok n w) (hl : cs.length = n) (hc : RdW w (some ⟨b, o, none⟩) cs) (hh : histOk p i h (fun w' => RdW w' (some ⟨b, o, none⟩) cs))
    (H : wpR P p K r h (pushL p i (fun w' => RdW w' (some ⟨b, o, none⟩) cs) l) (putd f dst (.agg cs.toArray)) w) : wpR P p K (.one i r) h l f w :=
  R_readU (fun w' => RdW w' (some ⟨b, o, none⟩) cs) ho rfl hk hw hn (fun ρ w' hρ hc => by
    have hr := run_loadCellsFrom (P := P) (a := ⟨b, o, none⟩) (w := w') cs 0 #[] (fun j u hu => by
      obtain ⟨b', o', e, hc'⟩ := hc j u hu
      cases e
      rw [add_at]; simpa using hc')
    simp only [rd, execOp, Instr.loadAt, hρ x _ hx]
    rw [hl] at hr
    simp [Sem.run_bind, Instr.sureAddr, Sem.run_pure, Result.andThen, loadVar, ha, hsz, loadCells, hr]) hc hh H

theorem run_storeCells {b o : Nat} : ∀ (vs : List Value) (k : Nat) (w : World) (c : Array Value) (T : TypeId) (R : HProp), Sat w0 (pt b (.cells c T (0, 0)) * R) w → o + k + vs.length ≤ c.size → (∀ u ∈ vs, one u = true) →
    ∃ w', (storeCells ⟨b, o, none⟩ vs k).run P w = .ok () w' ∧ Sat w0 (pt b (.cells (setsL c.toList (o + k) vs).toArray T (0, 0)) * R) w'
  | [], k, w, c, T, R, hS, _, _ => ⟨w, by simp [storeCells, Sem.run_pure], by simpa [setsL] using hS⟩
  | v :: vs, k, w, c, T, R, hS, hlen, h1 => by
    have hlt : o + k < c.size := by simp at hlen; omega
    have hS2 := hS.setCell (i := o + k) v
    obtain ⟨w', hr, hS'⟩ := run_storeCells (o := o) vs (k + 1) _ _ T R hS2 (by simp at hlen ⊢; omega) (fun u hu => h1 u (by simp [hu]))
    refine ⟨w', ?_, ?_⟩
    · simp only [storeCells, Sem.run_bind]
      have hs : (store (Addr.add ⟨b, o, none⟩ k) v).run P w = .ok () (w.setCell ⟨b, o + k, none⟩ v) := by
        have hc : w.cell? ⟨b, o + k, none⟩ = some c[o + k] := Sat.cell hS (by simp [hlt])
        have hf : w.frozen? ⟨b, o + k, none⟩ = false := Sat.frozen hS
        have ho := h1 v (by simp)
        rw [add_at]
        cases v <;> simp_all [one, store, Sem.run]
      rw [hs]
      simp only [Result.andThen, hr]
    · have e : setsL c.toList (o + k) (v :: vs) = setsL (c.setIfInBounds (o + k) v).toList (o + (k + 1)) vs := by simp [setsL, Nat.add_assoc]
      rw [e]; exact hS'

theorem one_size {v : Value} (h : one v = true) : v.cells.size = 1 := by cases v <;> simp_all [one, Value.cells]

theorem O_storeAgg {x y : Operand} {t : TypeId} {b n : Nat} {c : Array Value} {T : TypeId} {cs : List Value} {L : List (Nat × Obj)} {R : HProp} (hS : Sat w0 (blks ((b, .cells c T (0, 0)) :: L) * R) w) (ho : p.ops[i]? = some ⟨dst, .store t x y, ty, pos, after, g⟩) (hk : p.kind i = 2) (hw : wantF f p.ops ⟨dst, .store t x y, ty, pos, after, g⟩ = some true) (hn : dstOk f dst = true)
    (hx : f.ev x = some (.pointer (some ⟨b, 0, none⟩))) (hy : f.ev y = some (.agg cs.toArray)) (hsz : ∀ w, (sizeOf t).run P w = .ok n w) (hlen : cs.length = n) (hc : n ≤ c.size) (h1 : ∀ u ∈ cs, one u = true)
    (hl : ∀ w', Sat w0 (blks ((b, .cells (setsL c.toList 0 cs).toArray T (0, 0)) :: L) * R) w' → ldsOk p i l w')
    (H : ∀ w', Sat w0 (blks ((b, .cells (setsL c.toList 0 cs).toArray T (0, 0)) :: L) * R) w' → wpR P p K r (pushH p i w h) l (putd f dst undef) w') : wpR P p K (.one i r) h l f w := by
  obtain ⟨w', hr, hS'⟩ := run_storeCells (P := P) (o := 0) cs 0 w c T (blks L * R) (hS.to (star_assoc _ _ _)) (by omega) h1
  have hS2 : Sat w0 (blks ((b, .cells (setsL c.toList 0 cs).toArray T (0, 0)) :: L) * R) w' := hS'.to (star_assoc _ _ _).symm
  refine R_actU (Rr := fun v' w'' => v' = undef ∧ w'' = w') ho rfl hk hw hn (fun ρ hρ => ?_) (fun v' w'' ⟨_, e⟩ => e ▸ hl _ hS2) (fun v' w'' ⟨e1, e2⟩ => by subst e1; subst e2; exact H _ hS2)
  simp only [execOp, hρ x _ hx, hρ y _ hy, Instr.storeAt, Instr.sureAddr, storeVar, Value.cells]
  simp [Sem.run_bind, Sem.run_pure, Result.andThen, hsz, hlen, hr, runsTo]

/-- An element of an array. -/
theorem O_indexArr {x ix : Operand} {t e : TypeId} {len : Nat} {k : IntKind} {j : Int} {cs : Array Value} (ho : p.ops[i]? = some ⟨dst, .index t x ix, ty, pos, after, g⟩) (hk : p.kind i = 0) (hw : wantF f p.ops ⟨dst, .index t x ix, ty, pos, after, g⟩ = some true) (hn : dstOk f dst = true)
    (hu : ∀ w, (underlying t).run P w = .ok (.array len e) w) (hsz : ∀ w, (Go.sizeOf e).run P w = .ok 1 w) (ha : ∀ w, (isAgg e).run P w = .ok false w) (hx : f.ev x = some (.agg cs)) (hix : f.ev ix = some (.int k j)) (hj : 0 ≤ j ∧ j < len) (hv : cs[j.toNat]? = some v)
    (H : wpR P p K r h l (putd f dst v) w) : wpR P p K (.one i r) h l f w :=
  R_soft ho rfl hk hw hn (fun ρ w' hρ => by
    simp only [rd, execOp, Instr.index, hρ x _ hx, hρ ix _ hix, asIntOf]
    simp only [Sem.run_bind, Sem.run_pure, Result.andThen, hu]
    rw [if_pos hj]
    simp [Sem.run_bind, Sem.run_pure, Result.andThen, hsz, part, ha, hv]) H
theorem O_rem {x y : Operand} {t yt : TypeId} {k : IntKind} {a b : Int} (ho : p.ops[i]? = some ⟨dst, .binOp .rem t x y yt, ty, pos, after, g⟩) (hk : p.kind i = 0) (hw : wantF f p.ops ⟨dst, .binOp .rem t x y yt, ty, pos, after, g⟩ = some true) (hn : dstOk f dst = true)
    (hx : f.ev x = some (.int k a)) (hy : f.ev y = some (.int k b)) (hb : b ≠ 0) (H : wpR P p K r h l (putd f dst (.int k (a.tmod b))) w) : wpR P p K (.one i r) h l f w :=
  R_soft ho rfl hk hw hn (fun ρ w' hρ => run_binInt (hρ x _ hx) (hρ y _ hy) (by simp [binOp, Op.intDiv, hb])) H
theorem O_convInt {x : Operand} {s d : TypeId} {k k' : IntKind} {a : Int} (ho : p.ops[i]? = some ⟨dst, .convert s d x, ty, pos, after, g⟩) (hk : p.kind i = 0) (hw : wantF f p.ops ⟨dst, .convert s d x, ty, pos, after, g⟩ = some true) (hn : dstOk f dst = true)
    (hs : ∀ w, ∃ u, (underlying s).run P w = .ok u w) (hd : ∀ w, (underlying d).run P w = .ok (.int k) w) (hx : f.ev x = some (.int k' a)) (H : wpR P p K r h l (putd f dst (.int k (k.wrap a))) w) : wpR P p K (.one i r) h l f w :=
  R_soft ho rfl hk hw hn (fun ρ w' hρ => by
    obtain ⟨u, hu⟩ := hs w'
    simp only [rd, execOp, hρ x _ hx, convert]
    simp only [Sem.run_bind, Sem.run_pure, Result.andThen, hu, hd]
    cases u <;> simp [Conv.intToInt, Sem.run_bind, Sem.run_pure, Result.andThen]) H
end
end Go.Sl
