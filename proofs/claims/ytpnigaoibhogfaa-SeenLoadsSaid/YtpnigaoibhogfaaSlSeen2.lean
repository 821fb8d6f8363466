/- YtpnigaoibhogfaaSlSeen2: a part of the proof: walks over the translated code, and plain facts on lists beside. -/
import Derived.Test.YtpnigaoibhogfaaSlX4
set_option linter.all false
namespace Go.Sl
open Go Go.RowKit
section
variable {O : Lo Int}
theorem get_none_of {κ ν : Type} {O : Lo κ} {k : κ} : ∀ {L : List (κ × ν)}, (∀ x ∈ L, ¬ x.1 = k) → get O k L = none
  | [], _ => rfl
  | x :: r, h => by
    simp only [get]
    cases e1 : O.lt k x.1 with
    | true => rfl
    | false =>
      cases e2 : O.lt x.1 k with
      | true => exact get_none_of (fun y hy => h y (by simp [hy]))
      | false => exact absurd (O.eq _ _ e2 e1) (h x (by simp))
theorem get_some_of {κ ν : Type} {O : Lo κ} {k : κ} {L : List (κ × ν)} (hs : Srt O L) {x : κ × ν} (hx : x ∈ L) (hk : x.1 = k) : get O k L = some x.2 := by
  obtain ⟨p, q, rfl⟩ := List.append_of_mem hx
  subst hk
  exact get_mid hs
theorem cntR_pos {k : Int} : ∀ {l : List Int}, 0 < cntR O k l ↔ k ∈ l
  | [] => by simp [cntR]
  | y :: l => by
    have ih := cntR_pos (k := k) (l := l)
    have h0 := (cntR_le (O := O) (x := k) l).1
    simp only [cntR, List.mem_cons]
    cases e1 : O.lt k y with
    | true =>
      have : ¬ k = y := fun e => by rw [e, O.irr] at e1; cases e1
      simp [this, ← ih]
    | false =>
      cases e2 : O.lt y k with
      | true =>
        have : ¬ k = y := fun e => by rw [e, O.irr] at e2; cases e2
        simp [this, ← ih]
      | false =>
        have : k = y := O.eq _ _ e1 e2
        simp [this]; rw [← this]; omega
theorem cnt_get {k : Int} {ks : List (Int × Bool)} (hs : Srt O ks) : 0 < cntR O k (ks.map Prod.fst) ↔ (get O k ks).isSome = true := by
  rw [cntR_pos]
  constructor
  · intro h
    obtain ⟨x, hx, hk⟩ := List.mem_map.1 h
    rw [get_some_of hs hx hk]; rfl
  · intro h
    cases e : get O k ks with
    | none => rw [e] at h; cases h
    | some v =>
      by_cases hm : k ∈ ks.map Prod.fst
      · exact hm
      · rw [get_none_of (fun x hx hk => hm (List.mem_map.2 ⟨x, hx, hk⟩))] at e; cases e
theorem ins_insR {k : Int} : ∀ {ks : List (Int × Bool)}, (∀ x ∈ ks, ¬ x.1 = k) → (ins O k true ks).map Prod.fst = insR O k (ks.map Prod.fst)
  | [], _ => rfl
  | x :: r, h => by
    simp only [ins, List.map_cons, insR]
    cases e1 : O.lt k x.1 with
    | true => rfl
    | false =>
      cases e2 : O.lt x.1 k with
      | true =>
        have ih := ins_insR (k := k) (ks := r) (fun y hy => h y (by simp [hy]))
        simp only [List.map_cons, ih]
      | false => exact absurd (O.eq _ _ e2 e1) (h x (by simp))
abbrev SeenL := List (ByteArray × (Int × List (Int × Bool)))
def WfS (O : Lo Int) (L : SeenL) : Prop := L.length ≤ 8 ∧ ∀ x ∈ L, x.2.2.length ≤ 32 ∧ Srt O x.2.2
def gD (d : Int × List (Int × Bool)) : Int × List Int := (d.1, d.2.map Prod.fst)
theorem tellL_mapv {L : SeenL} : L.map tellL = mapv gD L := rfl
theorem WfS.get {L : SeenL} (h : WfS O L) {name : ByteArray} {d : Int × List (Int × Bool)} (hg : Go.Sl.get O_S name L = some d) : d.2.length ≤ 32 ∧ Srt O d.2 := by
  obtain ⟨y, hy, e⟩ := get_mem hg
  have := h.2 y hy
  rwa [e] at this
theorem can_eq {L : SeenL} {name : ByteArray} {seq : Int} (h : WfS O L) : canL name seq O (L.map tellL) = canS O_S O name seq L := by
  unfold canL canS
  rw [tellL_mapv, get_mapv]
  cases hg : Go.Sl.get O_S name L with
  | none => simp only [Option.map_none, len_mapv]
  | some d =>
    have hd := h.get hg
    simp only [Option.map_some, gD]
    have := cnt_get (k := seq) hd.2
    simp only [this]
    by_cases h1 : seq ≤ d.1 <;> by_cases h2 : (Go.Sl.get O seq d.2).isSome = true <;> simp [h1, h2]
theorem can0_get {L : SeenL} {name : ByteArray} {seq : Int} (hc : canS O_S O name seq L = 0) : ¬ (Go.Sl.get O seq ((Go.Sl.get O_S name L).getD (0, [])).2).isSome = true := by
  intro h
  unfold canS at hc
  cases hg : Go.Sl.get O_S name L with
  | none => rw [hg] at h; simp [Go.Sl.get] at h
  | some d => rw [hg] at h hc; simp only [Option.getD_some] at h; simp [h] at hc
theorem WfS.getD {L : SeenL} (h : WfS O L) {name : ByteArray} : ((Go.Sl.get O_S name L).getD (0, [])).2.length ≤ 32 ∧ Srt O ((Go.Sl.get O_S name L).getD (0, [])).2 := by
  cases hg : Go.Sl.get O_S name L with
  | none => exact ⟨by simp, List.Pairwise.nil⟩
  | some d => exact h.get hg
theorem trim_gD {d : Int × List (Int × Bool)} : trimL (gD d) = gD (trimD d) := by
  unfold trimL trimD gD
  simp only [List.length_map]
  by_cases h : (32 : Int) < d.2.length
  · rw [if_pos h, if_pos h]
    obtain ⟨a, ks⟩ := d
    cases ks <;> rfl
  · rw [if_neg h, if_neg h]
theorem note_eq {L : SeenL} {name : ByteArray} {seq : Int} (h : WfS O L) (hc : canS O_S O name seq L = 0) : noteL name seq O (L.map tellL) = (noteS O_S O name seq L).map tellL := by
  have hg := can0_get hc
  have hd := h.getD (name := name)
  unfold noteL noteS
  rw [tellL_mapv, tellL_mapv, get_mapv, ins_mapv]
  have e : ((Go.Sl.get O_S name L).map gD).getD (0, []) = gD ((Go.Sl.get O_S name L).getD (0, [])) := by cases Go.Sl.get O_S name L <;> rfl
  rw [e]
  generalize (Go.Sl.get O_S name L).getD (0, []) = d at *
  have hne : ∀ x ∈ d.2, ¬ x.1 = seq := fun x hx hk => hg (by rw [get_some_of hd.2 hx hk]; rfl)
  have e2 : ((gD d).1, insR O seq (gD d).2) = gD (d.1, ins O seq true d.2) := by simp only [gD]; rw [ins_insR hne]
  rw [e2, trim_gD]; rfl
theorem trim_wf {d : Int × List (Int × Bool)} (h1 : d.2.length ≤ 33) (h2 : Srt O d.2) : (trimD d).2.length ≤ 32 ∧ Srt O (trimD d).2 := by
  unfold trimD
  obtain ⟨a, ks⟩ := d
  simp only at h1 h2 ⊢
  by_cases h : (32 : Int) < ks.length
  · rw [if_pos h]
    cases ks with
    | nil => exact ⟨by simp, h2⟩
    | cons x r =>
      unfold Srt at h2
      rw [List.pairwise_cons] at h2
      simp only [List.length_cons] at h1 ⊢
      exact ⟨by omega, h2.2⟩
  · rw [if_neg h]; exact ⟨by simp only; omega, h2⟩
theorem ins_mem_val {κ ν : Type} {O : Lo κ} {k : κ} {v : ν} : ∀ {L : List (κ × ν)} {x : κ × ν}, x ∈ ins O k v L → x.2 = v ∨ x ∈ L
  | [], x, h => by simp [ins] at h; left; rw [h]
  | y :: L, x, h => by
    unfold ins at h
    split at h
    · rcases List.mem_cons.1 h with e | e
      · left; rw [e]
      · exact .inr e
    · split at h
      · rcases List.mem_cons.1 h with e | e
        · exact .inr (by rw [e]; simp)
        · rcases ins_mem_val e with e | e
          · exact .inl e
          · exact .inr (by simp [e])
      · rcases List.mem_cons.1 h with e | e
        · left; rw [e]
        · exact .inr (by simp [e])
theorem note_wf {L : SeenL} {name : ByteArray} {seq : Int} (h : WfS O L) (hc : canS O_S O name seq L = 0) : WfS O (noteS O_S O name seq L) := by
  have hd := h.getD (name := name)
  refine ⟨?_, fun x hx => ?_⟩
  · unfold noteS
    rw [ins_len]
    unfold canS at hc
    cases hg : Go.Sl.get O_S name L with
    | none =>
      rw [hg] at hc
      simp only at hc
      by_cases h8 : (8 : Int) ≤ L.length
      · rw [if_pos h8] at hc; cases hc
      · simp; omega
    | some d => simp; exact h.1
  · unfold noteS at hx
    rcases ins_mem_val hx with e | e
    · rw [e]
      unfold noteD
      have hi := ins_len_le (O := O) (k := seq) (v := true) (L := ((Go.Sl.get O_S name L).getD (0, [])).2)
      exact trim_wf (by simp only; omega) (ins_srt hd.2)
    · exact h.2 x e
def nextS (O : Lo Int) (name : ByteArray) (seq : Int) (L : SeenL) : SeenL := if canS O_S O name seq L = 0 then noteS O_S O name seq L else L
theorem next_wf {L : SeenL} {name : ByteArray} {seq : Int} (h : WfS O L) : WfS O (nextS O name seq L) := by
  unfold nextS; split
  · rename_i hc; exact note_wf h hc
  · exact h
theorem next_eq {L : SeenL} {name : ByteArray} {seq : Int} (h : WfS O L) : (if canL name seq O (L.map tellL) = 0 then noteL name seq O (L.map tellL) else L.map tellL) = (nextS O name seq L).map tellL := by
  rw [can_eq h]; unfold nextS
  split
  · rename_i hc; exact note_eq h hc
  · rfl
end
theorem RdSrc.lft {A B : HProp} {ad : Option Addr} {Q : List Src} (h : RdSrc A ad Q) : RdSrc (A * B) ad Q :=
  ⟨h.1.l, fun x hx => let ⟨a, c, h1, h2, h3, h4, h5⟩ := h.2 x hx; ⟨a, c, h1, h2, h3, h4, h5.l⟩⟩
theorem RdSrc.rgt {A B : HProp} {ad : Option Addr} {Q : List Src} (h : RdSrc B ad Q) : RdSrc (A * B) ad Q :=
  ⟨h.1.r, fun x hx => let ⟨a, c, h1, h2, h3, h4, h5⟩ := h.2 x hx; ⟨a, c, h1, h2, h3, h4, h5.r⟩⟩
/-- A seen and the slow twin's list, alike. -/
def playP (P0 : HProp) (E1 : Enc ByteArray Nat) (E : Enc Int Bool) (O : Lo Int) (st ct e : TypeId) (sb : Nat) (v : Value) : HProp :=
  hex fun L : SeenL => hex fun Q : List Src => pur (WfS O L ∧ Q.map Src.tell = L.map tellL) * (seenP E1 O_S E O st ct sb L * (sl e 3 v Q.length (Q.flatMap srcE) * srcP P0 Q))
section
variable {w0 w : World} {R P0 : HProp} {E1 : Enc ByteArray Nat} {E : Enc Int Bool} {O : Lo Int} {st ct e : TypeId} {sb : Nat} {v : Value}
theorem play_open (h : Sat w0 (playP P0 E1 E O st ct e sb v * R) w) : ∃ (L : SeenL) (Q : List Src) (ad : Option Addr) (c : Nat), WfS O L ∧ Q.map Src.tell = L.map tellL ∧ v = .slice ad Q.length c ∧ Sat w0 (seenP E1 O_S E O st ct sb L * (sl e 3 v Q.length (Q.flatMap srcE) * (srcP P0 Q * R))) w := by
  obtain ⟨L, h1⟩ := h.ex
  obtain ⟨Q, h2⟩ := h1.ex
  obtain ⟨hp, h3⟩ := Sat.pure (h2.to (star_assoc _ _ _))
  have h4 : Sat w0 (sl e 3 v Q.length (Q.flatMap srcE) * (seenP E1 O_S E O st ct sb L * (srcP P0 Q * R))) w := h3.to (by ac_rfl)
  obtain ⟨ad, c, hv, _⟩ := sl_form h4
  exact ⟨L, Q, ad, c, hp.1, hp.2, hv, h4.to (by ac_rfl)⟩
theorem play_mk {L : SeenL} {Q : List Src} (h1 : WfS O L) (h2 : Q.map Src.tell = L.map tellL) (h : Sat w0 (seenP E1 O_S E O st ct sb L * (sl e 3 v Q.length (Q.flatMap srcE) * (srcP P0 Q * R))) w) : Sat w0 (playP P0 E1 E O st ct e sb v * R) w :=
  Sat.mkex L (Sat.mkex Q ((Sat.mkpure ⟨h1, h2⟩ (h.to (by ac_rfl))).to (star_assoc _ _ _).symm))
theorem wf_nil : WfS O [] := ⟨by simp, fun x h => by cases h⟩
end
def actE : ByteArray × Int → List Value := fun p => [.string p.1, .int .i64 p.2]
end Go.Sl
