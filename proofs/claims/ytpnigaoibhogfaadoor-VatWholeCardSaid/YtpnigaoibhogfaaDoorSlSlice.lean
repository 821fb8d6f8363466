/- YtpnigaoibhogfaaDoorSlSlice: a part of the proof: walks over the translated code, and plain facts on lists beside. -/
import Derived.Test.YtpnigaoibhogfaaDoorSlEnd
set_option linter.all false
namespace Go.Sl
open Go Go.RowKit

/-! ### Slices -/
theorem add_at (b o j : Nat) : (⟨b, o, none⟩ : Addr).add j = ⟨b, o + j, none⟩ := by unfold Addr.add; split <;> simp_all

/-- From ad on these cells are read. -/
def RdW (w : World) (ad : Option Addr) (xs : List Value) : Prop := ∀ i u, xs[i]? = some u → ∃ b o, ad = some ⟨b, o, none⟩ ∧ w.cell? ⟨b, o + i, none⟩ = some u
/-- .. wherever A holds. -/
def Rds (A : HProp) (ad : Option Addr) (xs : List Value) : Prop := ∀ w0 R w, Sat w0 (A * R) w → RdW w ad xs

/-- A slice of the call's own. -/
def sl (e : TypeId) (size : Nat) (v : Value) (n : Nat) (xs : List Value) : HProp := fun h => xs.length = n * size ∧
  ((v = .slice none 0 0 ∧ n = 0 ∧ ∀ k, h k = none) ∨ ∃ g cap cur, v = .slice (some ⟨g, 0, none⟩) n cap ∧ n ≤ cap ∧ cap ≤ maxLen ∧ cur.size = cap * size ∧ cur.toList.take (n * size) = xs ∧ pt g (.cells cur e (0, 0)) h)

section
variable {w0 w : World} {R A : HProp} {e : TypeId} {size n : Nat} {v : Value} {xs : List Value}

theorem sl_cases (h : Sat w0 (sl e size v n xs * R) w) : xs.length = n * size ∧ ((v = .slice none 0 0 ∧ n = 0 ∧ Sat w0 R w) ∨
    ∃ g cap cur, v = .slice (some ⟨g, 0, none⟩) n cap ∧ n ≤ cap ∧ cap ≤ maxLen ∧ cur.size = cap * size ∧ cur.toList.take (n * size) = xs ∧ Sat w0 (pt g (.cells cur e (0, 0)) * R) w) := by
  have h' := h
  obtain ⟨o, t, u, y, ⟨a, b, d, rfl, ⟨hl, ha⟩, hb⟩, hx⟩ := h
  refine ⟨hl, ?_⟩
  rcases ha with ⟨h1, h2, h3⟩ | ⟨g, cap, cur, h1, h2, h3, h4, h5, h6⟩
  · exact .inl ⟨h1, h2, h'.drop⟩
  · exact .inr ⟨g, cap, cur, h1, h2, h3, h4, h5, o, t, u, _, ⟨a, b, d, rfl, h6, hb⟩, hx⟩
theorem sl_nil (h : Sat w0 R w) : Sat w0 (sl e size (.slice none 0 0) 0 [] * R) w := by
  obtain ⟨o, t, u, y, hy, hx⟩ := h
  exact ⟨o, t, u, y, ⟨fun _ => none, y, fun _ => .inl rfl, by funext k; simp [jn], ⟨by simp, .inl ⟨rfl, rfl, fun _ => rfl⟩⟩, hy⟩, hx⟩
theorem sl_mk {g cap : Nat} {cur : Array Value} (hl : xs.length = n * size) (h1 : n ≤ cap) (h2 : cap ≤ maxLen) (h3 : cur.size = cap * size) (h4 : cur.toList.take (n * size) = xs) (h : Sat w0 (pt g (.cells cur e (0, 0)) * R) w) :
    Sat w0 (sl e size (.slice (some ⟨g, 0, none⟩) n cap) n xs * R) w := by
  obtain ⟨o, t, u, y, ⟨a, b, d, rfl, ha, hb⟩, hx⟩ := h
  exact ⟨o, t, u, _, ⟨a, b, d, rfl, ⟨hl, .inr ⟨g, cap, cur, rfl, h1, h2, h3, h4, ha⟩⟩, hb⟩, hx⟩

theorem sl_form (h : Sat w0 (sl e size v n xs * R) w) : ∃ ad cap, v = .slice ad n cap ∧ n ≤ cap ∧ cap ≤ maxLen ∧ xs.length = n * size := by
  obtain ⟨hl, ⟨rfl, rfl, _⟩ | ⟨g, cap, cur, rfl, h1, h2, _⟩⟩ := sl_cases h
  · exact ⟨none, 0, rfl, Nat.le_refl _, Nat.zero_le _, hl⟩
  · exact ⟨_, _, rfl, h1, h2, hl⟩
theorem sl_rd {ad : Option Addr} {cap : Nat} (h : Sat w0 (sl e size (.slice ad n cap) n xs * R) w) : RdW w ad xs := by
  intro i u hu
  obtain ⟨hl, ⟨h1, h2, _⟩ | ⟨g, cap', cur, h1, _, _, _, h4, hS⟩⟩ := sl_cases h
  · subst h2
    have := (List.getElem?_eq_some_iff.1 hu).1
    simp at hl
    subst hl
    simp at this
  · cases h1
    refine ⟨g, 0, rfl, ?_⟩
    rw [Nat.zero_add]
    refine Sat.cell hS ?_
    rw [← h4, List.getElem?_take] at hu
    split at hu
    · simpa using hu
    · cases hu
theorem sl_rds {ad : Option Addr} {cap : Nat} : Rds (sl e size (.slice ad n cap) n xs) ad xs := fun _ _ _ h => sl_rd h

theorem RdW.take {ad : Option Addr} (h : RdW w ad xs) (k : Nat) : RdW w ad (xs.take k) := fun i u hu => by
  rw [List.getElem?_take] at hu
  split at hu
  · exact h i u hu
  · cases hu
theorem RdW.drop {ad : Option Addr} (h : RdW w ad xs) (k : Nat) : RdW w (ad.map (·.add k)) (xs.drop k) := fun i u hu => by
  rw [List.getElem?_drop] at hu
  obtain ⟨b, o, rfl, hc⟩ := h (k + i) u hu
  exact ⟨b, o + k, by simp [add_at], by rw [Nat.add_assoc]; exact hc⟩

variable {P : Program}
theorem run_append_sl {t ty : TypeId} {i : TypeInfo} {z : Value} {bytes : Nat} (ht : P.underlying t = some (.slice e)) (hi : P.info? e = some i) (hz : i.zero = some z)
    (hsize : i.size = size) (hby : i.bytes = bytes) (hzs : z.cells.size = size) (hsz : 0 < size) (hS : Sat w0 (sl e size v n xs * R) w)
    {ad : Option Addr} {m c : Nat} {news : List Value} (hl : news.length = m * size) (hnil : ad = none → c = 0 ∧ m = 0) (hnews : RdW w ad news) (h1 : ∀ u ∈ news, u.oneCell' = true)
    (h63 : n + m ≤ maxLen) (hbytes : (n + m) * bytes ≤ 140737488355328) :
    ∃ v' w', (Builtin.append_ #[t, t] ty #[v, .slice ad m c]).run P w = .ok v' w' ∧ Sat w0 (sl e size v' (n + m) (xs ++ news) * R) w' ∧ (v' = .slice none 0 0 ↔ v = .slice none 0 0 ∧ m = 0) := by
  subst hsize
  subst hby
  have hsmall : n + m ≤ 9223372036854775807 := by simp only [maxLen] at h63; omega
  obtain ⟨hxl, hcase⟩ := sl_cases hS
  have hlen : (xs ++ news).length = (n + m) * i.size := by rw [List.length_append, hxl, hl, Nat.add_mul]
  cases ad with
  | none =>
    obtain ⟨rfl, rfl⟩ := hnil rfl
    have hn : news = [] := List.eq_nil_of_length_eq_zero (by simpa using hl)
    subst hn
    refine ⟨v, w, ?_, by simpa using hS, by simp⟩
    rcases hcase with ⟨rfl, rfl, _⟩ | ⟨g, cap, cur, rfl, hnc, _⟩
    · simp [Builtin.append_, run_underlying ht, sizeOf, typeInfo, hi, Builtin.lenOf, Builtin.firstCells]
    · simp [Builtin.append_, run_underlying ht, sizeOf, typeInfo, hi, Builtin.lenOf, Builtin.firstCells, hnc, storeCells]
  | some a =>
    have hnews' : ∀ j u, news[j]? = some u → w.cell? (a.add j) = some u := fun j u hu => by
      obtain ⟨b, o, e1, hc⟩ := hnews j u hu
      cases e1
      rw [add_at]; exact hc
    have grown : ∀ (old : Nat) (R' : HProp), Sat w0 R' w → 
        Sat w0 (sl e i.size (.slice (some ⟨w.heap.size, 0, none⟩) (n + m) (grownCap w (n + m) old e)) (n + m) (xs ++ news) * R')
          (w.drew.alloc (.cells (xs.toArray ++ news.toArray ++ Builtin.zeroCells z.cells (grownCap w (n + m) old e - (n + m))) e)) := fun old R' hR' => by
      have hge := grownCap_ge w (n + m) old e
      have hcm : grownCap w (n + m) old e ≤ maxLen := grownCap_le_maxLen w (n + m) old e h63
      refine sl_mk hlen hge hcm ?_ ?_ (hR'.drew.alloc _)
      · simp only [Array.size_append, List.size_toArray, size_zeroCells, hzs, hxl, hl, ← Nat.add_mul]
        congr 1
        omega
      · simp only [Array.toList_append, List.append_assoc]
        rw [← List.append_assoc, ← hlen]
        exact List.take_left
    rcases hcase with ⟨rfl, rfl, hR⟩ | ⟨g, cap, cur, rfl, hnc, hcm, hcs, htake, hR⟩
    · have hx : xs = [] := List.eq_nil_of_length_eq_zero (by simpa using hxl)
      subst hx
      by_cases hm : m = 0
      · subst hm
        have hn : news = [] := List.eq_nil_of_length_eq_zero (by simpa using hl)
        subst hn
        refine ⟨.slice none 0 0, w, ?_, by simpa using hS, by simp⟩
        simp [Builtin.append_, run_underlying ht, sizeOf, typeInfo, hi, Builtin.lenOf, Builtin.firstCells, loadCells, loadCellsFrom]
      · have hr := run_append_nil (P := P) w t ty e i z ht hi hz a m c news hl hnews' (by omega) (by omega) (by have hb := hbytes; simp only [Nat.zero_add] at hb; omega)
        have hgr := grown 0 R hR
        simp only [Nat.zero_add, List.nil_append, Array.empty_append] at hgr ⊢
        exact ⟨_, _, hr, hgr, by simp [hm]⟩
    · by_cases hroom : n + m ≤ cap
      · have hfit : n * i.size + news.length ≤ cur.size := by rw [hl, hcs, ← Nat.add_mul]; exact Nat.mul_le_mul_right _ hroom
        have hr := run_append_room (P := P) w t ty e i ht hi g n cap cur hR.at a m c news hl hnews' h1 hroom hfit
        refine ⟨_, _, hr, sl_mk hlen hroom hcm ?_ ?_ (hR.turn rfl rfl rfl (setRow_heap w g cur _ e _ hR.at) (fun k hk _ => setRow_other w g k _ hk)), by simp⟩
        · simp only [List.size_toArray, List.length_append, List.length_take, List.length_drop, Array.length_toList]
          omega
        · rw [htake, ← hlen]
          exact List.take_left
      · have holds : ∀ j u, xs[j]? = some u → w.cell? ((⟨g, 0, none⟩ : Addr).add j) = some u := fun j u hu => by
          obtain ⟨b, o, e1, hc⟩ := sl_rd hS j u hu
          cases e1
          rw [add_at]; exact hc
        have hr := run_append_grow (P := P) w t ty e i z ht hi hz ⟨g, 0, none⟩ n cap xs hxl holds a m c news hl hnews' (by omega) (by omega) (growslice_fits (by omega) hbytes)
        exact ⟨_, _, hr, grown cap R hR.drop, by simp⟩

/-! ### The operations -/
variable {f : Fr} {p : Par} {K : Fr → World → Prop} {r : Plan} {h : Hist} {l : Lds} {i : Nat} {ty : TypeId} {pos : String} {after : Array Edge} {dst : Option Nat} {g : Option (Nat × Bool)}

theorem O_append {s x : Operand} {t : TypeId} {z : Value} {bytes m c : Nat} {ad : Option Addr} {news : List Value} (hS : Sat w0 (sl e size v n xs * R) w)
    (ho : p.ops[i]? = some ⟨dst, .call ⟨.builtin .append, #[s, x], #[t, t]⟩, ty, pos, after, g⟩) (hk : p.kind i = 2) (hw : wantF f p.ops ⟨dst, .call ⟨.builtin .append, #[s, x], #[t, t]⟩, ty, pos, after, g⟩ = some true) (hn : dstOk f dst = true)
    (ht : P.underlying t = some (.slice e)) (hi : (P.info? e).map (fun i => (i.zero, i.size, i.bytes)) = some (some z, size, bytes)) (hzs : z.cells.size = size) (hsz : 0 < size)
    (hs : f.ev s = some v) (hx : f.ev x = some (.slice ad m c)) (hl : news.length = m * size) (hnil : ad = none → c = 0 ∧ m = 0) (hnews : RdW w ad news) (h1 : ∀ u ∈ news, u.oneCell' = true)
    (h63 : n + m ≤ maxLen) (hbytes : (n + m) * bytes ≤ 140737488355328)
    (hlds : ∀ v' w', Sat w0 (sl e size v' (n + m) (xs ++ news) * R) w' → ldsOk p i l w')
    (H : ∀ v' w', (v' = .slice none 0 0 ↔ v = .slice none 0 0 ∧ m = 0) → Sat w0 (sl e size v' (n + m) (xs ++ news) * R) w' → wpR P p K r (pushH p i w h) l (putd f dst v') w') : wpR P p K (.one i r) h l f w := by
  obtain ⟨i0, hi0, hz0, hz1, hz2⟩ := info_parts hi
  obtain ⟨v', w', hrun, hS', hnn⟩ := run_append_sl (ty := ty) ht hi0 hz0 hz1 hz2 hzs hsz hS hl hnil hnews h1 h63 hbytes
  refine R_actU (Rr := fun u w'' => u = v' ∧ w'' = w') ho rfl hk hw hn (fun ρ hρ => ?_) (fun u w'' ⟨_, e2⟩ => e2 ▸ hlds v' w' hS') (fun u w'' ⟨e1, e2⟩ => by subst e1; subst e2; exact H _ _ hnn hS')
  simp only [execOp, resolve, invoke, builtin]
  simp [Sem.run_bind, hρ s _ hs, hρ x _ hx, hrun, Result.andThen, runsTo]

/-- '[]T{x, ..}': all places filled. -/
theorem O_sliceLit {t : TypeId} {len : Nat} {parts : Array (Nat × Operand)} {vs : List (Nat × Value)} {cs : List Value} {z : Value} {A : HProp} (hS : Sat w0 A w)
    (ho : p.ops[i]? = some ⟨dst, .buildSlice t len parts, ty, pos, after, g⟩) (hk : p.kind i = 2) (hw : wantF f p.ops ⟨dst, .buildSlice t len parts, ty, pos, after, g⟩ = some true) (hn : dstOk f dst = true)
    (hu : ∀ w, (underlying t).run P w = .ok (.slice e) w) (hsz : ∀ w, (Go.sizeOf e).run P w = .ok size w) (hz : ∀ w, (zeroValue e).run P w = .ok z w) (hzs : z.cells.size = size) (hpos : 0 < size)
    (hx : f.evp parts.toList = some vs) (hm : Nat.ble (len * size) 16777216 = true) (hlen : Nat.ble len 1000000 = true)
    (hf : fillL ((List.range len).map fun j => (j * size, size)) ((List.range (len * size)).map fun j => z.cells[j % z.cells.size]!) vs = some cs) (hcs : cs.length = len * size)
    (hlds : ∀ b w', Sat w0 (sl e size (.slice (some ⟨b, 0, none⟩) len len) len cs * A) w' → ldsOk p i l w')
    (H : ∀ b w', Sat w0 (sl e size (.slice (some ⟨b, 0, none⟩) len len) len cs * A) w' → wpR P p K r (pushH p i w h) l (putd f dst (.slice (some ⟨b, 0, none⟩) len len)) w') : wpR P p K (.one i r) h l f w := by
  refine R_actU (Rr := fun u w' => ∃ b, u = .slice (some ⟨b, 0, none⟩) len len ∧ Sat w0 (sl e size (.slice (some ⟨b, 0, none⟩) len len) len cs * A) w') ho rfl hk hw hn (fun ρ hρ => ?_) (fun u w'' ⟨b, _, e2⟩ => hlds b _ e2) (fun u w'' ⟨b, e1, e2⟩ => by subst e1; exact H b _ e2)
  have ep : parts.map (fun (i, x) => (i, ρ x)) = vs.toArray := map_toArray (evp_map hρ hx)
  have hm' : len * size ≤ 16777216 := by simpa using hm
  have hlen' : len ≤ 1000000 := by simpa using hlen
  have hfill := fillL_spec hf
  have hplace : ∀ (cells : Array Value) (vs : List (Nat × Value)) (r : Array Value), Instr.fill (fun j => ((List.range len).map fun j => (j * size, size))[j]?) cells vs = some r → Instr.fill (fun j => some (j * size, size)) cells vs = some r := by
    intro cells vs
    induction vs generalizing cells with
    | nil => intro r h; exact h
    | cons x vs ih =>
      intro r h
      obtain ⟨j, v⟩ := x
      unfold Instr.fill at h ⊢
      by_cases hj : j < len
      · have e1 : ((List.range len).map fun j => (j * size, size))[j]? = some (j * size, size) := by simp [hj]
        rw [e1] at h
        simp only at h ⊢
        split
        · rename_i hc; rw [if_pos hc] at h; cases h
        · rename_i hc; rw [if_neg hc] at h; exact ih _ _ h
      · have e1 : ((List.range len).map fun j => (j * size, size))[j]? = none := by simp; omega
        rw [e1] at h
        cases h
  have hfill' := hplace _ _ _ hfill
  have harr : ((List.range (len * size)).map fun j => z.cells[j % z.cells.size]!).toArray = (Array.range (len * size)).map (fun x => z.cells[x % z.cells.size]!) := by
    apply Array.ext'; simp
  rw [harr] at hfill'
  have hrun : (Instr.buildSlice t len vs.toArray).run P w = .ok (.slice (some ⟨w.heap.size, 0, none⟩) len len) (w.alloc (.cells cs.toArray e)) := by
    unfold Instr.buildSlice
    simp only [Sem.run_bind, hu, hsz, Result.andThen]
    rw [if_neg (by simp only [Nat.reducePow]; omega)]
    by_cases h0 : len * size = 0
    · rw [if_pos h0]
      have hl0 : len = 0 := by rcases Nat.mul_eq_zero.1 h0 with e | e; exact e; omega
      subst hl0
      have hvs : vs = [] := by
        cases vs with
        | nil => rfl
        | cons x vs =>
          obtain ⟨j, v⟩ := x
          unfold fillL at hf
          simp at hf
      subst hvs
      have hc0 : cs = [] := by
        simp [fillL] at hf
        exact hf
      subst hc0
      simp only [Sem.run_bind, Sem.run_pure, Result.andThen]
      simp [Instr.fill, newRow, Sem.run_bind, run_newObj_alloc, Result.andThen, Sem.run_pure]
      rw [show (Array.range 0) = #[] from rfl]
      simp
    · rw [if_neg h0]
      simp only [Sem.run_bind, hz, Sem.run_pure, Result.andThen]
      simp only [hfill', newRow, Sem.run_bind, run_newObj_alloc, Result.andThen, Sem.run_pure]
  simp only [execOp]
  rw [ep]
  simp only [Sem.run_bind, hrun, Result.andThen, Sem.run_pure, runsTo]
  refine ⟨w.heap.size, rfl, sl_mk hcs (Nat.le_refl _) (by simp only [maxLen]; omega) (by simpa using hcs) (by rw [← hcs]; simp) (hS.alloc _)⟩

theorem O_indexSl {x ix : Operand} {t : TypeId} {b o n c : Nat} {k : IntKind} {j : Int} (ho : p.ops[i]? = some ⟨dst, .indexAddr t x ix, ty, pos, after, g⟩) (hk : p.kind i = 0) (hw : wantF f p.ops ⟨dst, .indexAddr t x ix, ty, pos, after, g⟩ = some true) (hn : dstOk f dst = true)
    (hu : ∀ w, (underlying t).run P w = .ok (.slice e) w) (hsz : ∀ w, (Go.sizeOf e).run P w = .ok size w) (hx : f.ev x = some (.slice (some ⟨b, o, none⟩) n c)) (hix : f.ev ix = some (.int k j)) (hj : 0 ≤ j ∧ j < n)
    (H : wpR P p K r h l (putd f dst (.pointer (some ⟨b, o + j.toNat * size, none⟩))) w) : wpR P p K (.one i r) h l f w :=
  R_soft ho rfl hk hw hn (fun ρ w' hρ => by
    simp only [rd, execOp, Instr.indexAt, hρ x _ hx, hρ ix _ hix, asIntOf]
    simp only [Sem.run_bind, Sem.run_pure, Result.andThen, hu]
    rw [if_pos hj]
    simp only [Sem.run_bind, Sem.run_pure, Result.andThen, hsz, add_at]) H

/-- A bound of a slice expression. -/
def bnd (x : Option Value) (dflt : Nat) (k : Nat) : Prop := match x with
  | none => k = dflt
  | some (.int _ j) => 0 ≤ j ∧ k = j.toNat
  | _ => False
/-- 's[lo:hi]' of a slice. -/
theorem run_sliceSl {t : TypeId} {ad : Option Addr} {n c lo hi : Nat} {low high : Option Value} (hu : ∀ w, (underlying t).run P w = .ok (.slice e) w) (hsz : ∀ w, (Go.sizeOf e).run P w = .ok size w)
    (hlow : bnd low 0 lo) (hhigh : bnd high n hi) (h1 : lo ≤ hi) (h2 : hi ≤ c) (w : World) :
    (Instr.sliceAt t (.slice ad n c) low high none).run P w = .ok (.slice (if c = lo then ad else ad.map (·.add (lo * size))) (hi - lo) (c - lo)) w := by
  have hh : ∀ w, (match (high, (none : Option Value)) with
      | (some v, some _) => Instr.sliceBound v c .slice3B
      | (some v, none) => Instr.sliceBound v c .sliceAcap
      | (none, none) => (pure n : Sem Nat)
      | (none, some _) => stuck "Slice: max without high").run P w = .ok hi w := by
    intro w
    unfold bnd at hhigh
    split at hhigh
    · subst hhigh; rfl
    · rename_i k j; obtain ⟨h0, rfl⟩ := hhigh; exact run_sliceBound w k j c _ h0 (by omega)
    · exact hhigh.elim
  have hl : ∀ w, (match low with
      | some v => Instr.sliceBound v hi .sliceB
      | none => (pure 0 : Sem Nat)).run P w = .ok lo w := by
    intro w
    unfold bnd at hlow
    split at hlow
    · subst hlow; rfl
    · rename_i k j; obtain ⟨h0, rfl⟩ := hlow; exact run_sliceBound w k j hi _ h0 (by omega)
    · exact hlow.elim
  have hb : ∀ w, (Instr.sliceBounds true n c low high none).run P w = .ok (lo, hi, c) w := by
    intro w
    unfold Instr.sliceBounds
    simp only [Sem.run_bind, Sem.run_pure, Result.andThen, if_true]
    have := hh w
    have h3 := hl w
    cases high <;> cases low <;> simp_all [Sem.run_bind, Sem.run_pure, Result.andThen]
  unfold Instr.sliceAt
  simp only [Sem.run_bind, hu, Result.andThen]
  unfold Instr.slice
  simp only [Sem.run_bind, hu, Result.andThen, hb, hsz, Sem.run_pure]
theorem O_sliceSl {x : Operand} {t : TypeId} {lo' hi' : Option Operand} {ad : Option Addr} {n c : Nat} (lo hi : Nat) {lv hv : Option Value} (ho : p.ops[i]? = some ⟨dst, .slice t x lo' hi' none, ty, pos, after, g⟩) (hk : p.kind i = 0) (hw : wantF f p.ops ⟨dst, .slice t x lo' hi' none, ty, pos, after, g⟩ = some true) (hn : dstOk f dst = true)
    (hx : f.ev x = some (.slice ad n c)) (hlv : (match lo' with | none => some none | some y => (f.ev y).map some) = some lv) (hhv : (match hi' with | none => some none | some y => (f.ev y).map some) = some hv)
    (hu : ∀ w, (underlying t).run P w = .ok (.slice e) w) (hsz : ∀ w, (Go.sizeOf e).run P w = .ok size w) (hlow : bnd lv 0 lo) (hhigh : bnd hv n hi) (h1 : lo ≤ hi ∧ hi ≤ c)
    (H : wpR P p K r h l (putd f dst (.slice (if c = lo then ad else ad.map (·.add (lo * size))) (hi - lo) (c - lo))) w) : wpR P p K (.one i r) h l f w :=
  R_soft ho rfl hk hw hn (fun ρ w' hρ => by
    have e1 : lo'.map ρ = lv := by
      cases lo' with
      | none => cases hlv; rfl
      | some y =>
        cases hy : f.ev y with
        | none => simp [hy] at hlv
        | some u => simp [hy] at hlv; subst hlv; simp [hρ y u hy]
    have e2 : hi'.map ρ = hv := by
      cases hi' with
      | none => cases hhv; rfl
      | some y =>
        cases hy : f.ev y with
        | none => simp [hy] at hhv
        | some u => simp [hy] at hhv; subst hhv; simp [hρ y u hy]
    simp only [rd, execOp, e1, e2, hρ x _ hx, Option.map_none]
    simp only [Sem.run_bind, run_sliceSl hu hsz hlow hhigh h1.1 h1.2, Result.andThen, Sem.run_pure]) H
/-- What a slice expression's slice reads. -/
theorem RdW.slice {ad : Option Addr} {c lo hi : Nat} (h : RdW w ad xs) (hle : hi * size ≤ c * size) : RdW w (if c = lo then ad else ad.map (·.add (lo * size))) ((xs.take (hi * size)).drop (lo * size)) := by
  split
  · rename_i hcl
    subst hcl
    intro i u hu
    rw [List.getElem?_drop, List.getElem?_take] at hu
    rw [if_neg (by omega)] at hu
    cases hu
  · exact (h.take _).drop _
end
end Go.Sl
