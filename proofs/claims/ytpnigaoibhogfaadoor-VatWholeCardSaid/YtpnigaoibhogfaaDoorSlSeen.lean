/- YtpnigaoibhogfaaDoorSlSeen: a part of the proof: walks over the translated code, and plain facts on lists beside. -/
import Derived.Test.YtpnigaoibhogfaaDoorSlExt
set_option linter.all false
namespace Go.Sl
open Go Go.RowKit
/-! ### Things by names, each with a block of its own -/
section
variable {κ ν μ : Type} {O : Lo κ} {k : κ} {f : ν → μ}
def mapv (f : ν → μ) (L : List (κ × ν)) : List (κ × μ) := L.map fun x => (x.1, f x.2)
theorem get_mapv {L : List (κ × ν)} : get O k (mapv f L) = (get O k L).map f := by
  induction L with
  | nil => rfl
  | cons x r ih =>
    simp only [mapv, List.map_cons, get] at ih ⊢
    cases O.lt k x.1 with
    | true => rfl
    | false =>
      cases O.lt x.1 k with
      | true => exact ih
      | false => rfl
theorem ins_mapv {L : List (κ × ν)} {v : ν} : mapv f (ins O k v L) = ins O k (f v) (mapv f L) := by
  induction L with
  | nil => rfl
  | cons x r ih =>
    simp only [mapv, List.map_cons, ins] at ih ⊢
    cases O.lt k x.1 with
    | true => rfl
    | false =>
      cases O.lt x.1 k with
      | true => simp only [List.map_cons, ih]
      | false => rfl
theorem len_mapv {L : List (κ × ν)} : (mapv f L).length = L.length := by simp [mapv]
theorem del_none {L : List (κ × ν)} (h : get O k L = none) : del O k L = L := by
  induction L with
  | nil => rfl
  | cons x r ih =>
    simp only [get, del] at h ⊢
    cases e1 : O.lt k x.1 with
    | true => rfl
    | false =>
      rw [e1] at h
      cases e2 : O.lt x.1 k with
      | true => rw [e2] at h; simp only [ih h]
      | false => rw [e2] at h; cases h
theorem srt_mapv {L : List (κ × ν)} : Srt O (mapv f L) ↔ Srt O L := by
  unfold Srt mapv
  rw [List.pairwise_map]
/-- What stands behind each. -/
def bigS (C : Nat → ν → HProp) : List (κ × (Nat × ν)) → HProp
  | [] => hemp
  | x :: r => C x.2.1 x.2.2 * bigS C r
theorem bigS_ins {C : Nat → ν → HProp} {b : Nat} {d : ν} : ∀ {M : List (κ × (Nat × ν))}, bigS C (ins O k (b, d) M) = C b d * bigS C (del O k M)
  | [] => rfl
  | x :: r => by
    simp only [ins, del]
    cases e1 : O.lt k x.1 with
    | true => rfl
    | false =>
      cases e2 : O.lt x.1 k with
      | true => simp only [bigS]; rw [bigS_ins (M := r), star_left_comm]
      | false => rfl
theorem bigS_get {C : Nat → ν → HProp} {b : Nat} {d : ν} : ∀ {M : List (κ × (Nat × ν))}, get O k M = some (b, d) → bigS C M = C b d * bigS C (del O k M)
  | [], h => by cases h
  | x :: r, h => by
    simp only [get, del] at h ⊢
    cases e1 : O.lt k x.1 with
    | true => rw [e1] at h; cases h
    | false =>
      rw [e1] at h
      cases e2 : O.lt x.1 k with
      | true => rw [e2] at h; simp only [bigS]; rw [bigS_get (M := r) h, star_left_comm]
      | false => rw [e2] at h; simp only [Option.some.injEq] at h; obtain ⟨y, b', d'⟩ := x; simp only at h; cases h; rfl
theorem del_ins {L : List (κ × ν)} {v : ν} : del O k (ins O k v L) = del O k L := by
  induction L with
  | nil => simp [ins, del, O.irr]
  | cons x r ih =>
    simp only [ins, del]
    cases e1 : O.lt k x.1 with
    | true => simp only [del, O.irr]
    | false =>
      cases e2 : O.lt x.1 k with
      | true => simp only [del, e1, e2, ih]
      | false => simp only [del, e1, e2]
theorem get_ins {L : List (κ × ν)} {v : ν} : get O k (ins O k v L) = some v := by
  induction L with
  | nil => simp [ins, get, O.irr]
  | cons x r ih =>
    simp only [ins]
    cases e1 : O.lt k x.1 with
    | true => simp only [get, O.irr]
    | false =>
      cases e2 : O.lt x.1 k with
      | true => simp only [get, e1, e2, ih]
      | false => simp only [get, e1, e2]
theorem ins_ins {L : List (κ × ν)} {v v' : ν} : ins O k v (ins O k v' L) = ins O k v L := by
  induction L with
  | nil => simp [ins, O.irr]
  | cons x r ih =>
    simp only [ins]
    cases e1 : O.lt k x.1 with
    | true => simp only [ins, O.irr]
    | false =>
      cases e2 : O.lt x.1 k with
      | true => simp only [ins, e1, e2, ih]
      | false => simp only [ins, e1, e2]
/-- A block that has a rack behind it: what came of a source. -/
def cameP (E : Enc Int Bool) (O : Lo Int) (ct : TypeId) (cb : Nat) (d : Int × List (Int × Bool)) : HProp :=
  hex fun rk => pt cb (.cells #[.int .i64 d.1, .pointer (some ⟨rk, 0, none⟩)] ct (0, 0)) * rackP E O rk d.2
variable {w0 w : World} {R : HProp} {E : Enc Int Bool} {OI : Lo Int} {ct : TypeId} {cb rk : Nat} {d : Int × List (Int × Bool)}
theorem came_open (h : Sat w0 (cameP E OI ct cb d * R) w) : ∃ rk, Sat w0 (blks [(cb, .cells #[.int .i64 d.1, .pointer (some ⟨rk, 0, none⟩)] ct (0, 0))] * (rackP E OI rk d.2 * R)) w := by
  obtain ⟨rk, h⟩ := Sat.ex h
  exact ⟨rk, h.to (by simp only [blks]; ac_rfl)⟩
theorem came_mk {fl : Int} {ks : List (Int × Bool)} (h : Sat w0 (blks [(cb, .cells #[.int .i64 fl, .pointer (some ⟨rk, 0, none⟩)] ct (0, 0))] * (rackP E OI rk ks * R)) w) : Sat w0 (cameP E OI ct cb (fl, ks) * R) w :=
  Sat.mkex rk (h.to (by simp only [blks]; ac_rfl))
/-- All of it. -/
def seenP (E1 : Enc ByteArray Nat) (O1 : Lo ByteArray) (E : Enc Int Bool) (OI : Lo Int) (st ct : TypeId) (sb : Nat) (L : List (ByteArray × (Int × List (Int × Bool)))) : HProp :=
  hex fun rb => hex fun M : List (ByteArray × (Nat × (Int × List (Int × Bool)))) => pur (mapv Prod.snd M = L) *
    (pt sb (.cells #[.pointer (some ⟨rb, 0, none⟩)] st (0, 0)) * (rackP E1 O1 rb (mapv Prod.fst M) * bigS (cameP E OI ct) M))
variable {E1 : Enc ByteArray Nat} {O1 : Lo ByteArray} {st : TypeId} {sb rb : Nat} {L : List (ByteArray × (Int × List (Int × Bool)))}
theorem seen_open (h : Sat w0 (seenP E1 O1 E OI st ct sb L * R) w) : ∃ rb M, mapv Prod.snd M = L ∧
    Sat w0 (blks [(sb, .cells #[.pointer (some ⟨rb, 0, none⟩)] st (0, 0))] * (rackP E1 O1 rb (mapv Prod.fst M) * (bigS (cameP E OI ct) M * R))) w := by
  obtain ⟨rb, h⟩ := Sat.ex h
  obtain ⟨M, h⟩ := Sat.ex h
  obtain ⟨hp, h⟩ := Sat.pure (h.to (star_assoc _ _ _))
  exact ⟨rb, M, hp, h.to (by simp only [blks]; ac_rfl)⟩
theorem seen_mk {M : List (ByteArray × (Nat × (Int × List (Int × Bool))))} (hM : mapv Prod.snd M = L)
    (h : Sat w0 (blks [(sb, .cells #[.pointer (some ⟨rb, 0, none⟩)] st (0, 0))] * (rackP E1 O1 rb (mapv Prod.fst M) * (bigS (cameP E OI ct) M * R))) w) : Sat w0 (seenP E1 O1 E OI st ct sb L * R) w := by
  refine Sat.mkex rb (Sat.mkex M ?_)
  exact (Sat.mkpure hM (h.to (by simp only [blks]; ac_rfl))).to (star_assoc _ _ _).symm
/-! ### What the calls answer -/
def canS (O1 : Lo ByteArray) (OI : Lo Int) (name : ByteArray) (seq : Int) (L : List (ByteArray × (Int × List (Int × Bool)))) : Int :=
  match get O1 name L with
  | none => if 8 ≤ (L.length : Int) then 16 else 0
  | some d => if (get OI seq d.2).isSome = true ∨ seq ≤ d.1 then 13 else 0
/-- One more; what is past the limit is put under the floor. -/
def trimD (d : Int × List (Int × Bool)) : Int × List (Int × Bool) :=
  if 32 < (d.2.length : Int) then match d.2 with
    | [] => d
    | x :: r => (x.1, r)
  else d
def noteD (OI : Lo Int) (seq : Int) (d : Int × List (Int × Bool)) : Int × List (Int × Bool) := trimD (d.1, ins OI seq true d.2)
def noteS (O1 : Lo ByteArray) (OI : Lo Int) (name : ByteArray) (seq : Int) (L : List (ByteArray × (Int × List (Int × Bool)))) : List (ByteArray × (Int × List (Int × Bool))) :=
  ins O1 name (noteD OI seq ((get O1 name L).getD (0, []))) L
theorem ins_self {v : ν} {L : List (κ × ν)} (h : get O k L = some v) : ins O k v L = L := by
  induction L with
  | nil => cases h
  | cons x r ih =>
    simp only [get, ins] at h ⊢
    cases e1 : O.lt k x.1 with
    | true => rw [e1] at h; cases h
    | false =>
      rw [e1] at h
      cases e2 : O.lt x.1 k with
      | true => rw [e2] at h; simp only [ih h]
      | false => rw [e2] at h; simp only [Option.some.injEq] at h; subst h; rfl
theorem get_mem {v : ν} {L : List (κ × ν)} (h : get O k L = some v) : ∃ y ∈ L, y.2 = v := by
  induction L with
  | nil => cases h
  | cons x r ih =>
    simp only [get] at h
    cases e1 : O.lt k x.1 with
    | true => rw [e1] at h; cases h
    | false =>
      rw [e1] at h
      cases e2 : O.lt x.1 k with
      | true => rw [e2] at h; obtain ⟨y, hy, e⟩ := ih h; exact ⟨y, List.mem_cons_of_mem _ hy, e⟩
      | false => rw [e2] at h; simp only [Option.some.injEq] at h; exact ⟨x, List.mem_cons_self .., h⟩
theorem ins_len_le {v : ν} {L : List (κ × ν)} : (ins O k v L).length ≤ L.length + 1 := by
  rw [ins_len]; split <;> omega
theorem del_head {x : κ × ν} {r : List (κ × ν)} : del O x.1 (x :: r) = r := by simp [del, O.irr]
end
end Go.Sl
