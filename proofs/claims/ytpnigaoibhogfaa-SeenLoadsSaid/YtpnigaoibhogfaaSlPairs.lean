/- YtpnigaoibhogfaaSlPairs: a part of the proof: walks over the translated code, and plain facts on lists beside. -/
import Derived.Test.YtpnigaoibhogfaaSlLaw
import Derived.Deep.SlicePairs
import Derived.ChangeArms
set_option linter.all false
namespace Go.Sl
open Go Go.RowKit Go.ChangeShapes Go.WideShapes Go.Deep
section
variable {H : Type} {enc : TypeId × Value → H} {P : Program} {w : World} {base : Nat} {held : Bool}
theorem spot_none {a : Addr} {u : Value} (h : w.cell? a = some u) : ∃ b o, a = ⟨b, o, none⟩ := by
  obtain ⟨b, o, sp⟩ := a
  cases sp with
  | none => exact ⟨b, o, rfl⟩
  | some y => unfold World.cell? at h; split at h <;> simp at h
def pairE : Int × Int → List Value := fun p => [.int .i64 p.1, .int .i64 p.2]
theorem flatMap_len {α β : Type} {f : α → List β} {k : Nat} (hk : ∀ x, (f x).length = k) : ∀ {xs : List α}, (xs.flatMap f).length = xs.length * k
  | [] => by simp
  | x :: xs => by rw [List.flatMap_cons, List.length_append, hk, flatMap_len hk, List.length_cons, Nat.succ_mul]; omega
theorem open_pairsI {t e : TypeId} {f0 f1 : Field} {fuel : Nat} {cs : List Value} {x : DataW H × List MemPlace} (ht : P.underlying t = some (.slice e)) (he : P.underlying e = some (.struct #[f0, f1]))
    (ce : P.cellsOf e = 2) (o0 : f0.offset = 0) (o1 : f1.offset = 1) (c0 : P.cellsOf f0.type = 1) (c1 : P.cellsOf f1.type = 1) (t0 : P.underlying f0.type = some (.int .i64)) (t1 : P.underlying f1.type = some (.int .i64))
    (h : DataW.trod enc P w base (fun _ => true) held fuel t cs = some x) :
    ∃ (a : Option Addr) (len cap : Nat) (zs : List (Int × Int)), cs = [.slice a len cap] ∧ zs.length = len ∧ len ≤ maxLen ∧ RdW w a (zs.flatMap pairE) := by
  rcases open_slice_pairs ht he ce o0 o1 c0 c1 h with ⟨h0, _⟩ | ⟨a, len, cap, m, n, V0, V1, D0, D1, P0, P1, hcs, _, hlc, hcm, hm, _, hcell⟩
  · exact ⟨none, 0, 0, [], h0, rfl, by simp [maxLen], fun i u hu => by simp at hu⟩
  · simp only [if_true] at hm
    have hall : ∀ i, ∃ p : Int × Int, i < m → w.cell? (a.add (i * 2)) = some (.int .i64 p.1) ∧ w.cell? (a.add (i * 2 + 1)) = some (.int .i64 p.2) := by
      intro i
      by_cases hi : i < m
      · obtain ⟨h1, h2, h3, h4⟩ := hcell i hi
        obtain ⟨n0, e0, _, _⟩ := Go.DataW.trod_int t0 h3
        obtain ⟨n1, e1, _, _⟩ := Go.DataW.trod_int t1 h4
        simp only [List.cons.injEq, and_true] at e0 e1
        exact ⟨(n0, n1), fun _ => ⟨by rw [h1, e0], by rw [h2, e1]⟩⟩
      · exact ⟨(0, 0), fun h => absurd h hi⟩
    obtain ⟨f, hf⟩ := Classical.axiomOfChoice hall
    refine ⟨some a, len, cap, (List.range len).map f, hcs, by simp, by omega, fun i u hu => ?_⟩
    have hlen2 : i < len * 2 := by
      have := (List.getElem?_eq_some_iff.1 hu).1
      rw [flatMap_len (k := 2) (fun _ => rfl)] at this
      simpa using this
    have hj : i / 2 < len := by omega
    have hz : ((List.range len).map f)[i / 2]? = some (f (i / 2)) := by simp [hj]
    have hat := flatMap_at (enc := pairE) (k := 2) (fun _ => rfl) hz (i % 2) (Nat.mod_lt _ (by decide))
    rw [show i / 2 * 2 + i % 2 = i by omega, hu] at hat
    have hc := hf (i / 2) (by omega)
    have h00 := (hf 0 (by omega)).1
    rw [Nat.zero_mul] at h00
    obtain ⟨b, o, rfl⟩ := spot_none (show w.cell? a = some _ from h00)
    refine ⟨b, o, rfl, ?_⟩
    rw [add_at, add_at] at hc
    rcases Nat.mod_two_eq_zero_or_one i with h2 | h2
    · rw [h2] at hat
      have : u = .int .i64 (f (i / 2)).1 := by simpa [pairE] using hat
      rw [this, show i = i / 2 * 2 by omega]
      rw [show i / 2 * 2 / 2 = i / 2 by omega]
      exact hc.1
    · rw [h2] at hat
      have : u = .int .i64 (f (i / 2)).2 := by simpa [pairE] using hat
      rw [this]
      have h5 := hc.2
      rw [show o + (i / 2 * 2 + 1) = o + i by omega] at h5
      exact h5
end
end Go.Sl
