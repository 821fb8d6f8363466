/- YtpnigaoibhogfaaSlOpen: a part of the proof: walks over the translated code, and plain facts on lists beside. -/
import Derived.Test.YtpnigaoibhogfaaSlSeen2
import Derived.Test.YtpnigaoibhogfaaSlPairs
set_option linter.all false
namespace Go.Sl
open Go Go.RowKit Go.ChangeShapes Go.WideShapes Go.Deep
section
variable {H : Type} {enc : TypeId × Value → H} {P : Program} {w : World} {base : Nat} {held : Bool}
/-- A slice that the law is handed: its elements, whatever they are. -/
theorem open_list {α : Type} [Inhabited α] {t e : TypeId} {k fuel : Nat} {cs : List Value} {x : DataW H × List MemPlace} (encl : α → List Value) (Good : α → Prop) (ht : P.underlying t = some (.slice e)) (ce : P.cellsOf e = k) (hk : ∀ a, (encl a).length = k) (hpos : 0 < k)
    (elem : ∀ n cs x, DataW.trod enc P w base (fun _ => true) held n e cs = some x → ∃ a, cs = encl a ∧ Good a)
    (h : DataW.trod enc P w base (fun _ => true) held fuel t cs = some x) :
    ∃ (ad : Option Addr) (len cap : Nat) (zs : List α), cs = [.slice ad len cap] ∧ zs.length = len ∧ len ≤ cap ∧ cap ≤ maxLen ∧ (ad = none → cap = 0) ∧ RdW w ad (zs.flatMap encl) ∧ ∀ z ∈ zs, Good z := by
  rcases open_slice ht h with ⟨h0, _⟩ | ⟨a, len, cap, m, n, D, Pl, hcs, _, hlc, hcm, hm, _, hx⟩
  · exact ⟨none, 0, 0, [], h0, rfl, Nat.le_refl _, by simp [maxLen], fun _ => rfl, fun i u hu => by simp at hu, fun z hz => by cases hz⟩
  · simp only [if_true] at hm
    have hall : ∀ i, ∃ z : α, i < m → Good z ∧ ∀ j, j < k → w.cell? ((a.add (i * k)).add j) = (encl z)[j]? := by
      intro i
      by_cases hi : i < m
      · obtain ⟨cs', h1, h2⟩ := hx i hi
        rw [ce] at h1
        obtain ⟨_, hlen, hcell⟩ := World.cells?_some h1
        obtain ⟨z, rfl, hg⟩ := elem _ _ _ h2
        exact ⟨z, fun _ => ⟨hg, hcell⟩⟩
      · exact ⟨default, fun h => absurd h hi⟩
    obtain ⟨f, hf⟩ := Classical.axiomOfChoice hall
    refine ⟨some a, len, cap, (List.range len).map f, hcs, by simp, hlc, hcm, (fun e => by cases e), fun i u hu => ?_, fun z hz => ?_⟩
    · have hlen : i < len * k := by
        have := (List.getElem?_eq_some_iff.1 hu).1
        rw [flatMap_len (k := k) hk] at this
        simpa using this
      have hmod : i % k < k := Nat.mod_lt _ hpos
      have hdiv : i / k < len := Nat.div_lt_of_lt_mul (by rw [Nat.mul_comm]; exact hlen)
      have hl0 : 0 < len := Nat.lt_of_le_of_lt (Nat.zero_le _) hdiv
      have hdm : i / k * k + i % k = i := by rw [Nat.mul_comm]; exact Nat.div_add_mod i k
      have hz : ((List.range len).map f)[i / k]? = some (f (i / k)) := by simp [hdiv]
      have hat := flatMap_at (enc := encl) (k := k) hk hz (i % k) hmod
      rw [hdm, hu] at hat
      have hc := (hf (i / k) (Nat.lt_of_lt_of_le hdiv (by omega))).2 (i % k) hmod
      rw [← hat] at hc
      have h0 : ∃ u0, w.cell? a = some u0 := by
        have h1 := (hf 0 (Nat.lt_of_lt_of_le hl0 (by omega))).2 0 hpos
        rw [Nat.zero_mul] at h1
        have : 0 < (encl (f 0)).length := by rw [hk]; exact hpos
        rw [List.getElem?_eq_getElem this] at h1
        exact ⟨_, h1⟩
      obtain ⟨u0, hu0⟩ := h0
      obtain ⟨b, o, rfl⟩ := spot_none hu0
      refine ⟨b, o, rfl, ?_⟩
      rw [add_at, add_at] at hc
      rw [Nat.add_assoc, hdm] at hc
      exact hc
    · obtain ⟨i, hi, rfl⟩ := List.mem_map.1 hz
      exact (hf i (by have := List.mem_range.1 hi; omega)).1
/-- A struct of a text and a number. -/
theorem elem_si {t : TypeId} {f0 f1 : Field} {fuel : Nat} {cs : List Value} {x : DataW H × List MemPlace} (he : P.underlying t = some (.struct #[f0, f1])) (ce : P.cellsOf t = 2) (o0 : f0.offset = 0) (o1 : f1.offset = 1) (c0 : P.cellsOf f0.type = 1) (c1 : P.cellsOf f1.type = 1)
    (t0 : P.underlying f0.type = some .string) (t1 : P.underlying f1.type = some (.int .i64)) (h : DataW.trod enc P w base (fun _ => true) held fuel t cs = some x) :
    ∃ p : ByteArray × Int, cs = actE p ∧ p.1.size ≤ 9223372036854775807 := by
  obtain ⟨xs, k, _, _, hl, hxl, hf⟩ := DataW.trod_struct he h
  rw [ce] at hl
  match cs, hl with
  | [v0, v1], _ =>
    have g0 := hf 0 f0 rfl
    have g1 := hf 1 f1 rfl
    match xs, hxl with
    | [y0, y1], _ =>
      simp [o0, o1, c0, c1] at g0 g1
      obtain ⟨s, e0, _, hs⟩ := DataW.trod_string t0 g0
      obtain ⟨n, e1, _, _⟩ := DataW.trod_int t1 g1
      simp only [List.cons.injEq, and_true] at e0 e1
      subst e0; subst e1
      exact ⟨(s, n), rfl, by simpa [maxLen] using hs⟩
end
end Go.Sl
namespace Go.Sl
open Go Go.RowKit Go.ChangeShapes Go.WideShapes Go.Deep
instance : Inhabited Src := ⟨⟨⟨#[]⟩, 0, .slice none 0 0, []⟩⟩
section
variable {H : Type} {enc : TypeId × Value → H} {P : Program} {w : World} {base : Nat} {held : Bool}
theorem flat_one {α β : Type} {f : α → β} {l : List α} : l.flatMap (fun x => [f x]) = l.map f := by
  induction l with
  | nil => rfl
  | cons x l ih => rw [List.flatMap_cons, ih]; rfl
def srcGood (w : World) (y : Src) : Prop := y.name.size ≤ 9223372036854775807 ∧ ∃ ad c, y.v = .slice ad y.seqs.length c ∧ y.seqs.length ≤ c ∧ c ≤ maxLen ∧ (ad = none → c = 0) ∧ RdW w ad (y.seqs.map fun n => .int .i64 n)
theorem elem_src {t e : TypeId} {f0 f1 f2 : Field} {fuel : Nat} {cs : List Value} {x : DataW H × List MemPlace} (he : P.underlying t = some (.struct #[f0, f1, f2])) (ce : P.cellsOf t = 3) (o0 : f0.offset = 0) (o1 : f1.offset = 1) (o2 : f2.offset = 2) (c0 : P.cellsOf f0.type = 1) (c1 : P.cellsOf f1.type = 1) (c2 : P.cellsOf f2.type = 1)
    (t0 : P.underlying f0.type = some .string) (t1 : P.underlying f1.type = some (.int .i64)) (t2 : P.underlying f2.type = some (.slice e)) (te : P.underlying e = some (.int .i64)) (ee : P.cellsOf e = 1) (h : DataW.trod enc P w base (fun _ => true) held fuel t cs = some x) :
    ∃ y : Src, cs = srcE y ∧ srcGood w y := by
  obtain ⟨xs, k, _, _, hl, hxl, hf⟩ := DataW.trod_struct he h
  rw [ce] at hl
  match cs, hl with
  | [v0, v1, v2], _ =>
    have g0 := hf 0 f0 rfl
    have g1 := hf 1 f1 rfl
    have g2 := hf 2 f2 rfl
    match xs, hxl with
    | [y0, y1, y2], _ =>
      simp [o0, o1, o2, c0, c1, c2] at g0 g1 g2
      obtain ⟨s, e0, _, hs⟩ := DataW.trod_string t0 g0
      obtain ⟨n, e1, _, _⟩ := DataW.trod_int t1 g1
      simp only [List.cons.injEq, and_true] at e0 e1
      subst e0; subst e1
      obtain ⟨ad, len, cap, zs, e2, rfl, h1, h2, h3, h4, _⟩ := open_list (k := 1) (fun n : Int => [.int .i64 n]) (fun _ => True) t2 ee (fun _ => rfl) (by decide) (fun m cs x h => by
        obtain ⟨n, e3, _, _⟩ := DataW.trod_int te h
        exact ⟨n, e3, trivial⟩) g2
      simp only [List.cons.injEq, and_true] at e2
      subst e2
      rw [flat_one] at h4
      exact ⟨⟨s, n, .slice ad zs.length cap, zs⟩, rfl, by simpa [maxLen] using hs, ad, cap, rfl, h1, h2, h3, h4⟩
/-- A struct of one list of sources. -/
theorem open_srcs {t s u e : TypeId} {g f0 f1 f2 : Field} {fuel : Nat} {cs : List Value} {x : DataW H × List MemPlace} (hu : P.underlying u = some (.struct #[g])) (cu : P.cellsOf u = 1) (og : g.offset = 0) (cg : P.cellsOf g.type = 1) (tg : P.underlying g.type = some (.slice t))
    (he : P.underlying t = some (.struct #[f0, f1, f2])) (ce : P.cellsOf t = 3) (o0 : f0.offset = 0) (o1 : f1.offset = 1) (o2 : f2.offset = 2) (c0 : P.cellsOf f0.type = 1) (c1 : P.cellsOf f1.type = 1) (c2 : P.cellsOf f2.type = 1)
    (t0 : P.underlying f0.type = some .string) (t1 : P.underlying f1.type = some (.int .i64)) (t2 : P.underlying f2.type = some (.slice e)) (te : P.underlying e = some (.int .i64)) (ee : P.cellsOf e = 1) (h : DataW.trod enc P w base (fun _ => true) held fuel u cs = some x) :
    ∃ (ad : Option Addr) (cap : Nat) (Q : List Src), cs = [.slice ad Q.length cap] ∧ RdSrc (whole w) ad Q ∧ ∀ y ∈ Q, y.name.size ≤ 9223372036854775807 := by
  obtain ⟨xs, k, _, _, hl, hxl, hf⟩ := DataW.trod_struct hu h
  rw [cu] at hl
  match cs, hl with
  | [v0], _ =>
    have g0 := hf 0 g rfl
    match xs, hxl with
    | [y0], _ =>
      simp [og, cg] at g0
      obtain ⟨ad, len, cap, zs, e2, rfl, h1, h2, h3, h4, h5⟩ := open_list (k := 3) srcE (srcGood w) tg ce (fun _ => rfl) (by decide) (fun m cs x h => elem_src he ce o0 o1 o2 c0 c1 c2 t0 t1 t2 te ee h) g0
      refine ⟨ad, cap, zs, e2, ⟨whole_rds h4, fun y hy => ?_⟩, fun y hy => (h5 y hy).1⟩
      obtain ⟨_, a, c, e1, e2, e3, e4, e5⟩ := h5 y hy
      exact ⟨a, c, e1, e2, e3, e4, whole_rds e5⟩
end
end Go.Sl
