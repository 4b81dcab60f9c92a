/-
  Regions whose order is drawn are sound in every order, for every program that follows the mixed orders.
-/
import Derived.Test.YtjliobdjggmfeaaGreatDoorK7
set_option linter.unusedVariables false
set_option linter.unusedSimpArgs false
namespace Go.Sx
section
variable {P : Program} {T : Nat → Option TypeInfo} {E : Env} {N0 : Nat} {w0 : World} {Dk : Deferred → Prop}

/-- what has been done of a drawn region: c is the first operation that acts and has not been done -/
def LvOf (st : Nat → DSt) (n c : Nat) (D : Nat → Bool) : Lv := fun b o =>
  get (st c).h b = some o ∨ ∃ i, c < i ∧ i < n ∧ D i = true ∧ nextOf (st i).h ≤ b ∧ b < nextOf (st (i + 1)).h ∧ get (st (i + 1)).h b = some o

/-- the heaps of a run, one by one -/
structure Heaps (st : Nat → DSt) (n : Nat) (eff : Nat → Bool) : Prop where
  next : ∀ j, j < n → nextOf (st j).h ≤ nextOf (st (j + 1)).h
  non : ∀ j, j < n → eff j = false → (∀ b, b < nextOf (st j).h → get (st (j + 1)).h b = get (st j).h b) ∧ ((∀ b, nextOf (st j).h ≤ b → get (st j).h b = none) → ∀ b, nextOf (st (j + 1)).h ≤ b → get (st (j + 1)).h b = none)

theorem Heaps.mono {st : Nat → DSt} {n : Nat} {eff : Nat → Bool} (H : Heaps st n eff) {i : Nat} : ∀ k, i ≤ k → k ≤ n → nextOf (st i).h ≤ nextOf (st k).h
  | 0, h, _ => by have : i = 0 := by omega
                  subst this; exact Nat.le_refl _
  | k + 1, h, hn => by
    by_cases hk : i = k + 1
    · subst hk; exact Nat.le_refl _
    · exact Nat.le_trans (H.mono k (by omega) (by omega)) (H.next k (by omega))

theorem Heaps.chain {st : Nat → DSt} {n : Nat} {eff : Nat → Bool} (H : Heaps st n eff) {i : Nat} : ∀ k, i ≤ k → k ≤ n → (∀ e, i ≤ e → e < k → eff e = false) →
    (∀ b, b < nextOf (st i).h → get (st k).h b = get (st i).h b) ∧ ((∀ b, nextOf (st i).h ≤ b → get (st i).h b = none) → ∀ b, nextOf (st k).h ≤ b → get (st k).h b = none)
  | 0, h, _, _ => by have : i = 0 := by omega
                     subst this; exact ⟨fun _ _ => rfl, fun h => h⟩
  | k + 1, h, hn, he => by
    by_cases hk : i = k + 1
    · subst hk; exact ⟨fun _ _ => rfl, fun h => h⟩
    · obtain ⟨h1, h2⟩ := H.chain k (by omega) (by omega) (fun e h1 h2 => he e h1 (by omega))
      obtain ⟨k1, k2⟩ := H.non k (by omega) (he k (by omega) (by omega))
      exact ⟨fun b hb => by rw [k1 b (Nat.lt_of_lt_of_le hb (H.mono k (by omega) (by omega))), h1 b hb], fun hw => k2 (h2 hw)⟩

theorem Heaps.at {st : Nat → DSt} {n : Nat} {eff : Nat → Bool} (H : Heaps st n eff) {i b : Nat} (hb : nextOf (st i).h ≤ b) : ∀ k, i ≤ k → k ≤ n → b < nextOf (st k).h → ∃ j, i ≤ j ∧ j < k ∧ nextOf (st j).h ≤ b ∧ b < nextOf (st (j + 1)).h
  | 0, h, _, hk => by have : i = 0 := by omega
                      subst this; omega
  | k + 1, h, hn, hk => by
    by_cases hik : i = k + 1
    · subst hik; omega
    · rcases Nat.lt_or_ge b (nextOf (st k).h) with h1 | h1
      · obtain ⟨j, q1, q2, q3, q4⟩ := H.at hb k (by omega) (by omega) h1
        exact ⟨j, q1, by omega, q3, q4⟩
      · exact ⟨k, by omega, by omega, h1, hk⟩

/-- where a drawn region stands -/
structure Inv (N0 : Nat) (w0 : World) (st : Nat → DSt) (n : Nat) (eff : Nat → Bool) (c : Nat) (D : Nat → Bool) (π₀ π : Pm) (wb w : World) : Prop where
  cn : c ≤ n
  ceff : c < n → eff c = true ∧ D c = false
  before : ∀ e, e < c → eff e = true → D e = true
  after : ∀ e, c ≤ e → e < n → eff e = true → D e = false
  wf : ∀ k, k ≤ c → ∀ b, nextOf (st k).h ≤ b → get (st k).h b = none
  ghost : ∀ i, i < c → D i = false → ∀ b, nextOf (st i).h ≤ b → b < nextOf (st (i + 1)).h → get (st c).h b = get (st (i + 1)).h b
  free : ∀ i, i < n → D i = false → Free π (nextOf (st i).h) (nextOf (st (i + 1)).h)
  rel : HRelL N0 w0 π (LvOf st n c D) w
  step : StepL π₀ π (st 0).h (nextOf (st n).h) (LvOf st n c D) wb w
  old0 : ∀ b, b < nextOf (st 0).h → π₀ b = none → get (st c).h b = get (st 0).h b

/-- D and one more -/
def with1 (D : Nat → Bool) (j : Nat) : Nat → Bool := fun i => D i || Nat.beq i j
theorem with1_same (D : Nat → Bool) (j : Nat) : with1 D j j = true := by simp [with1]
theorem with1_other (D : Nat → Bool) {j i : Nat} (h : i ≠ j) : with1 D j i = D i := by
  unfold with1
  cases hb : Nat.beq i j with
  | true => exact absurd (Nat.eq_of_beq_eq_true hb) h
  | false => simp
theorem with1_false {D : Nat → Bool} {j i : Nat} (h : with1 D j i = false) : D i = false ∧ i ≠ j := by
  constructor
  · cases hD : D i with
    | false => rfl
    | true => simp [with1, hD] at h
  · intro he; subst he; rw [with1_same] at h; cases h

variable {st : Nat → DSt} {n : Nat} {eff : Nat → Bool} {c : Nat} {D : Nat → Bool} {π₀ π π' : Pm} {wb w w' : World}

/-- an operation that does not act has been done -/
theorem Inv.nonact (I : Inv N0 w0 st n eff c D π₀ π wb w) (H : Heaps st n eff) {j : Nat} (hj : j < n) (hje : eff j = false) (hjD : D j = false) {h2 h2' : Hp}
    (hsub : ∀ b o, get h2 b = some o → get (st c).h b = some o)
    (hnew : ∀ b, nextOf h2 ≤ b → b < nextOf h2' → nextOf (st j).h ≤ b ∧ b < nextOf (st (j + 1)).h)
    (hold : ∀ b, nextOf (st j).h ≤ b → b < nextOf (st (j + 1)).h → ∀ o, get (st (j + 1)).h b = some o → get h2' b = some o)
    (hkeep : ∀ b o, get h2 b = some o → get h2' b = some o)
    (hn : nextOf (st 0).h ≤ nextOf h2) (hn' : nextOf h2' ≤ nextOf (st n).h)
    (r' : HRel N0 w0 π' h2' w') (s : Step π π' h2 h2' w w') : Inv N0 w0 st n eff c (with1 D j) π₀ π' wb w' := by
  have hcj : c ≠ j := fun he => by
    subst he
    have := (I.ceff hj).1
    rw [hje] at this; cases this
  have apart : ∀ i, i < n → i ≠ j → ∀ b, nextOf (st i).h ≤ b → b < nextOf (st (i + 1)).h → ¬ (nextOf (st j).h ≤ b ∧ b < nextOf (st (j + 1)).h) := fun i hi hij b h1 h2 h3 => by
    rcases Nat.lt_or_ge i j with h | h
    · have := H.mono (i := i + 1) j (by omega) (by omega); omega
    · have := H.mono (i := j + 1) i (by omega) (by omega); omega
  have hL : ∀ b o p, LvOf st n c (with1 D j) b o → π' b = some p → get h2' b = some o ∨ (LvOf st n c D b o ∧ get h2 b = none ∧ ¬ (nextOf h2 ≤ b ∧ b < nextOf h2')) := fun b o p hl hp => by
    rcases hl with hl | ⟨i, i1, i2, i3, i4, i5, i6⟩
    · by_cases hr : nextOf (st j).h ≤ b ∧ b < nextOf (st (j + 1)).h
      · rcases Nat.lt_or_ge j c with h | h
        · rw [I.ghost j h hjD b hr.1 hr.2] at hl
          exact .inl (hold b hr.1 hr.2 o hl)
        · have := H.mono (i := c) j h (by omega)
          rw [I.wf c (Nat.le_refl _) b (by omega)] at hl; cases hl
      · cases hb : get h2 b with
        | some o' =>
          have := hsub b o' hb
          rw [hl] at this; cases this
          exact .inl (hkeep b o hb)
        | none => exact .inr ⟨.inl hl, rfl, fun h => hr (hnew b h.1 h.2)⟩
    · by_cases hij : i = j
      · subst hij
        exact .inl (hold b i4 i5 o i6)
      · rw [with1_other D hij] at i3
        refine .inr ⟨.inr ⟨i, i1, i2, i3, i4, i5, i6⟩, ?_, fun h => apart i i2 hij b i4 i5 (hnew b h.1 h.2)⟩
        cases hb : get h2 b with
        | none => rfl
        | some o' =>
          have := hsub b o' hb
          have h3 := H.mono (i := c) i (by omega) (by omega)
          rw [I.wf c (Nat.le_refl _) b (by omega)] at this; cases this
  have hs : ∀ b o, get h2 b = some o → LvOf st n c D b o := fun b o h => .inl (hsub b o h)
  refine ⟨I.cn, fun h => ⟨(I.ceff h).1, by rw [with1_other D hcj]; exact (I.ceff h).2⟩, fun e h1 h2 => ?_, fun e h1 h2 h3 => ?_, I.wf, fun i h1 h2 => I.ghost i h1 (with1_false h2).1, fun i h1 h2 b h3 h4 => ?_, I.rel.frame hs r' s hL, I.step.next hs s hL hn hn', I.old0⟩
  · simp [with1, I.before e h1 h2]
  · have hne : e ≠ j := fun he => by subst he; rw [hje] at h3; cases h3
    rw [with1_other D hne]; exact I.after e h1 h2 h3
  · obtain ⟨h5, h6⟩ := with1_false h2
    have h7 := I.free i h1 h5 b h3 h4
    cases hb : π' b with
    | none => rfl
    | some p =>
      have := s.fresh b p hb h7
      exact absurd (hnew b this.1 this.2) (apart i h1 h6 b h3 h4)

/-- the operation that acts next has been done -/
theorem Inv.act (I : Inv N0 w0 st n eff c D π₀ π wb w) (H : Heaps st n eff) (hc : c < n) (r' : HRel N0 w0 π' (st (c + 1)).h w') (s : Step π π' (st c).h (st (c + 1)).h w w') :
    ∃ c', Inv N0 w0 st n eff c' (with1 D c) π₀ π' wb w' := by
  have hnext : ∀ m, c + 1 + m ≤ n → (∃ c', c < c' ∧ c' ≤ n ∧ (∀ e, c < e → e < c' → eff e = false) ∧ (c' < n → eff c' = true)) ∨ ∀ e, c < e → e < c + 1 + m → eff e = false := by
    intro m
    induction m with
    | zero => intro _; exact .inr fun e h1 h2 => by omega
    | succ m ih =>
      intro hm
      rcases ih (by omega) with h | h
      · exact .inl h
      · cases he : eff (c + 1 + m) with
        | true => exact .inl ⟨c + 1 + m, by omega, by omega, h, fun _ => he⟩
        | false =>
          refine .inr fun e h1 h2 => ?_
          by_cases hee : e = c + 1 + m
          · subst hee; exact he
          · exact h e h1 (by omega)
  have hex : ∃ c', c < c' ∧ c' ≤ n ∧ (∀ e, c < e → e < c' → eff e = false) ∧ (c' < n → eff c' = true) := by
    rcases hnext (n - (c + 1)) (by omega) with h | h
    · exact h
    · exact ⟨n, hc, Nat.le_refl _, fun e h1 h2 => h e h1 (by omega), fun h => by omega⟩
  obtain ⟨c', c1, c2, c3, c4⟩ := hex
  have ch := H.chain (i := c + 1) c' (by omega) c2 (fun e h1 h2 => c3 e (by omega) h2)
  have wfc : ∀ b, nextOf (st c).h ≤ b → get (st c).h b = none := I.wf c (Nat.le_refl _)
  have wfc' := ch.2 r'.wf
  have noc : nextOf (st c).h ≤ nextOf (st (c + 1)).h := s.next
  have hL : ∀ b o p, LvOf st n c' (with1 D c) b o → π' b = some p → get (st (c + 1)).h b = some o ∨ (LvOf st n c D b o ∧ get (st c).h b = none ∧ ¬ (nextOf (st c).h ≤ b ∧ b < nextOf (st (c + 1)).h)) := fun b o p hl hp => by
    rcases hl with hl | ⟨i, i1, i2, i3, i4, i5, i6⟩
    · rcases Nat.lt_or_ge b (nextOf (st (c + 1)).h) with hb | hb
      · rw [ch.1 b hb] at hl; exact .inl hl
      · have hb' : b < nextOf (st c').h := by
          rcases Nat.lt_or_ge b (nextOf (st c').h) with h | h
          · exact h
          · rw [wfc' b h] at hl; cases hl
        obtain ⟨i, q1, q2, q3, q4⟩ := H.at hb c' (by omega) c2 hb'
        have hiD : D i = true := by
          cases hD : D i with
          | true => rfl
          | false =>
            have h0 := I.free i (by omega) hD b q3 q4
            have := s.fresh b p hp h0
            omega
        have ch2 := H.chain (i := i + 1) c' (by omega) c2 (fun e h1 h2 => c3 e (by omega) h2)
        rw [ch2.1 b q4] at hl
        exact .inr ⟨.inr ⟨i, by omega, by omega, hiD, q3, q4, hl⟩, wfc b (by omega), by omega⟩
    · have h5 := H.mono (i := c + 1) i (by omega) (by omega)
      rw [with1_other D (by omega)] at i3
      exact .inr ⟨.inr ⟨i, by omega, i2, i3, i4, i5, i6⟩, wfc b (by omega), by omega⟩
  have hs : ∀ b o, get (st c).h b = some o → LvOf st n c D b o := fun b o h => .inl h
  refine ⟨c', c2, fun h => ⟨c4 h, by rw [with1_other D (by omega)]; exact I.after c' (by omega) h (c4 h)⟩, fun e h1 h2 => ?_, fun e h1 h2 h3 => ?_, fun k h1 => ?_, fun i h1 h2 b h3 h4 => ?_, fun i h1 h2 b h3 h4 => ?_, I.rel.frame hs r' s hL,
    I.step.next hs s hL (H.mono c (by omega) I.cn) (H.mono n (by omega) (Nat.le_refl _)), fun b h1 h2 => ?_⟩
  · rcases Nat.lt_trichotomy e c with h | h | h
    · simp [with1, I.before e h h2]
    · subst h; exact with1_same D e
    · rw [c3 e h h1] at h2; cases h2
  · rw [with1_other D (by omega)]; exact I.after e (by omega) h2 h3
  · rcases Nat.lt_or_ge c k with h | h
    · exact (H.chain (i := c + 1) k (by omega) (by omega) (fun e h1' h2 => c3 e (by omega) (by omega))).2 r'.wf
    · exact I.wf k h
  · obtain ⟨h5, h6⟩ := with1_false h2
    rcases Nat.lt_or_ge i c with h | h
    · have h7 := H.mono (i := i + 1) c (by omega) I.cn
      rw [ch.1 b (by omega), s.ghost b (by omega) (I.free i (by omega) h5 b h3 h4)]
      exact I.ghost i h h5 b h3 h4
    · exact (H.chain (i := i + 1) c' (by omega) c2 (fun e h1' h2' => c3 e (by omega) h2')).1 b h4
  · obtain ⟨h5, h6⟩ := with1_false h2
    have h7 := I.free i h1 h5 b h3 h4
    cases hb : π' b with
    | none => rfl
    | some p =>
      have h8 := s.fresh b p hb h7
      rcases Nat.lt_or_ge i c with h | h
      · have := H.mono (i := i + 1) c (by omega) I.cn; omega
      · have := H.mono (i := c + 1) i (by omega) (by omega); omega
  · have h3 := H.mono (i := 0) c (by omega) I.cn
    have h4 : π b = none := by
      cases hb : π b with
      | none => rfl
      | some p => have := I.step.fresh b p hb h2; omega
    rw [ch.1 b (by omega), s.ghost b (by omega) h4]
    exact I.old0 b h1 h2
end
end Go.Sx

namespace Go.Sx
section
variable {P : Program} {T : Nat → Option TypeInfo} {E : Env} {N0 : Nat} {w0 : World} {Dk : Deferred → Prop}

/-! temporaries in a drawn region -/

def isDst (ops : Array Oper) (i t : Nat) : Prop := ∃ o, ops[i]? = some o ∧ o.dst = some t
instance (ops : Array Oper) (i t : Nat) : Decidable (isDst ops i t) := by
  unfold isDst
  cases h : ops[i]? with
  | none => exact .isFalse fun ⟨o, h1, _⟩ => by cases h1
  | some o => exact if hd : o.dst = some t then .isTrue ⟨o, rfl, hd⟩ else .isFalse fun ⟨o', h1, h2⟩ => by cases h1; exact hd h2

/-- the last one, of those that S holds, that writes t -/
def lw (ops : Array Oper) (S : Nat → Bool) (t : Nat) : Nat → Option Nat
  | 0 => none
  | k + 1 => if isDst ops k t ∧ S k = true then some k else lw ops S t k

theorem lw_congr {ops : Array Oper} {S S' : Nat → Bool} {t : Nat} : ∀ (k : Nat), (∀ i, i < k → isDst ops i t → S i = S' i) → lw ops S t k = lw ops S' t k
  | 0, _ => rfl
  | k + 1, h => by
    unfold lw
    rw [lw_congr k (fun i hi hd => h i (by omega) hd)]
    by_cases hd : isDst ops k t
    · rw [h k (by omega) hd]
    · simp [hd]
theorem lw_cut {ops : Array Oper} {t j : Nat} : ∀ (k : Nat), j ≤ k → lw ops (fun i => decide (i < j)) t k = lw ops (fun _ => true) t j
  | 0, h => by have : j = 0 := by omega
               subst this; rfl
  | k + 1, h => by
    by_cases hj : j = k + 1
    · subst hj
      exact lw_congr _ fun i hi _ => by simp [hi]
    · rw [lw]
      have hk : ¬ k < j := by omega
      simp only [hk, decide_false, Bool.false_eq_true, and_false, if_false]
      exact lw_cut (j := j) k (by omega)
theorem lw_lt {ops : Array Oper} {S : Nat → Bool} {t i : Nat} : ∀ (k : Nat), lw ops S t k = some i → i < k ∧ isDst ops i t ∧ S i = true
  | 0, h => by cases h
  | k + 1, h => by
    unfold lw at h
    split at h
    · rename_i hh; cases h; exact ⟨by omega, hh⟩
    · have := lw_lt k h; exact ⟨by omega, this.2⟩

theorem ds_succ {ops : Array Oper} {j : Nat} {o : Oper} (h : ops[j]? = some o) : dsAt ops (j + 1) = o.dst :: dsAt ops j := by
  unfold dsAt
  have : ops.toList[j]? = some o := by simpa using h
  rw [List.take_add_one, this]
  simp

variable {ih : Ih} {xm : Nat} {ops : Array Oper} {ms : List Nat} {pr : Pr} {st : Nat → DSt} {val : Nat → AV} {eff : Nat → Bool}

theorem loc_at (R : RunD T E ih xm ops ms pr st val eff) (h0 : (st 0).loc = []) : ∀ j, j ≤ ops.size → (st j).loc.length = j ∧ ∀ r, r < j → (st j).loc[r]? = some (val (j - 1 - r))
  | 0, _ => by rw [h0]; exact ⟨rfl, fun r h => by omega⟩
  | j + 1, hj => by
    obtain ⟨l1, l2⟩ := loc_at R h0 j (by omega)
    obtain ⟨a, p, g, _, _, _, _, hl, _⟩ := R.each j ops[j] (by simp)
    rw [hl]
    refine ⟨by simp [l1], fun r hr => ?_⟩
    cases r with
    | zero => rfl
    | succ r =>
      rw [List.getElem?_cons_succ, l2 r (by omega)]
      congr 2; omega

theorem ix_lw (R : RunD T E ih xm ops ms pr st val eff) {t : Nat} : ∀ j, j ≤ ops.size → (∀ r, ixOfO t (dsAt ops j) 0 = some r → r < j ∧ lw ops (fun _ => true) t j = some (j - 1 - r)) ∧ (ixOfO t (dsAt ops j) 0 = none → lw ops (fun _ => true) t j = none)
  | 0, _ => ⟨fun r h => by simp [dsAt, ixOfO] at h, fun _ => rfl⟩
  | j + 1, hj => by
    obtain ⟨h1, h2⟩ := ix_lw R j (by omega)
    have ho : ops[j]? = some ops[j] := by simp
    rw [ds_succ ho]
    have hdst : ∀ d, ops[j].dst = d → (isDst ops j t ↔ d = some t) := fun d hd => by
      constructor
      · rintro ⟨o, k1, k2⟩; rw [ho] at k1; cases k1; rw [← hd, k2]
      · intro h; exact ⟨ops[j], ho, by rw [hd, h]⟩
    cases hd : ops[j].dst with
    | none =>
      have hn : ¬ isDst ops j t := fun h => by have := (hdst _ hd).1 h; cases this
      have e1 : ixOfO t (none :: dsAt ops j) 0 = ixOfO t (dsAt ops j) (0 + 1) := rfl
      have e2 : lw ops (fun _ => true) t (j + 1) = lw ops (fun _ => true) t j := by rw [lw]; simp [hn]
      rw [e1, e2, ixOfO_succ]
      refine ⟨fun r h => ?_, fun h => ?_⟩
      · cases hr : ixOfO t (dsAt ops j) 0 with
        | none => rw [hr] at h; cases h
        | some q =>
          rw [hr] at h; cases h
          obtain ⟨k1, k2⟩ := h1 q hr
          exact ⟨by show q + 1 < j + 1; omega, by rw [k2]; show some (j - 1 - q) = some (j + 1 - 1 - (q + 1)); congr 1; omega⟩
      · cases hr : ixOfO t (dsAt ops j) 0 with
        | none => exact h2 hr
        | some q => rw [hr] at h; cases h
    | some d =>
      by_cases hdt : d = t
      · subst hdt
        have hn : isDst ops j d := (hdst _ hd).2 rfl
        have e1 : ixOfO d (some d :: dsAt ops j) 0 = some 0 := by
          show onB (Nat.beq d d) (some 0) _ = _
          rw [Nat.beq_refl, onB_true]
        have e2 : lw ops (fun _ => true) d (j + 1) = some j := by rw [lw]; simp [hn]
        rw [e1, e2]
        exact ⟨fun r h => by cases h; exact ⟨by omega, by congr 1⟩, fun h => by cases h⟩
      · have hn : ¬ isDst ops j t := fun h => by have := (hdst _ hd).1 h; cases this; exact hdt rfl
        have hb : Nat.beq d t = false := by
          cases hb : Nat.beq d t with
          | false => rfl
          | true => exact absurd (Nat.eq_of_beq_eq_true hb) hdt
        have e1 : ixOfO t (some d :: dsAt ops j) 0 = ixOfO t (dsAt ops j) (0 + 1) := by
          show onB (Nat.beq d t) (some 0) _ = _
          rw [hb, onB_false]
        have e2 : lw ops (fun _ => true) t (j + 1) = lw ops (fun _ => true) t j := by rw [lw]; simp [hn]
        rw [e1, e2, ixOfO_succ]
        refine ⟨fun r h => ?_, fun h => ?_⟩
        · cases hr : ixOfO t (dsAt ops j) 0 with
          | none => rw [hr] at h; cases h
          | some q =>
            rw [hr] at h; cases h
            obtain ⟨k1, k2⟩ := h1 q hr
            exact ⟨by show q + 1 < j + 1; omega, by rw [k2]; show some (j - 1 - q) = some (j + 1 - 1 - (q + 1)); congr 1; omega⟩
        · cases hr : ixOfO t (dsAt ops j) 0 with
          | none => exact h2 hr
          | some q => rw [hr] at h; cases h

theorem tm_at (R : RunD T E ih xm ops ms pr st val eff) {t : Nat} : ∀ j, j ≤ ops.size → (lw ops (fun _ => true) t j = none → getN 5 (st j).tm t = getN 5 (st 0).tm t) ∧
    (∀ i, lw ops (fun _ => true) t j = some i → Nat.testBit xm t = true → ∀ v, getN 5 (st j).tm t = some v → v = val i)
  | 0, _ => ⟨fun _ => rfl, fun i h => by cases h⟩
  | j + 1, hj => by
    obtain ⟨h1, h2⟩ := tm_at R j (by omega)
    have ho : ops[j]? = some ops[j] := by simp
    obtain ⟨a, p, g, _, hp, _, _, _, htm, _⟩ := R.each j ops[j] ho
    rw [htm]
    have hdst : ∀ d, ops[j].dst = d → (isDst ops j t ↔ d = some t) := fun d hd => by
      constructor
      · rintro ⟨o, k1, k2⟩; rw [ho] at k1; cases k1; rw [← hd, k2]
      · intro h; exact ⟨ops[j], ho, by rw [hd, h]⟩
    by_cases hn : isDst ops j t
    · have hd := (hdst _ rfl).1 hn
      have e2 : lw ops (fun _ => true) t (j + 1) = some j := by rw [lw]; simp [hn]
      rw [e2]
      refine ⟨fun h => (by cases h), fun i h hb v hv => ?_⟩
      cases h
      unfold PutOk at hp
      rw [hd] at hp hv
      simp only at hp
      rcases hp with ⟨_, rfl⟩ | ⟨hb', _⟩
      · simp only [putTm] at hv
        rw [get_set_same] at hv
        split at hv
        · cases hv; rfl
        · cases hv
      · rw [hb] at hb'; cases hb'
    · have e2 : lw ops (fun _ => true) t (j + 1) = lw ops (fun _ => true) t j := by rw [lw]; simp [hn]
      have e3 : getN 5 (putTm p ops[j].dst (val j) (st j).tm) t = getN 5 (st j).tm t := by
        unfold putTm
        split
        · rename_i d _ hd
          refine get_set_other _ _ _ _ _ fun h => hn ((hdst _ rfl).2 (by rw [hd, h]))
        · rfl
      rw [e2, e3]
      exact ⟨h1, h2⟩

/-- what a temporary holds, as far as it is known -/
def Tv (ops : Array Oper) (xm : Nat) (tm0 : Tm) (val : Nat → AV) (D : Nat → Bool) (t : Nat) (v : AV) : Prop :=
  (∃ i, lw ops D t ops.size = some i ∧ v = val i) ∨ (lw ops D t ops.size = none ∧ Nat.testBit xm t = true ∧ getN 5 tm0 t = some v)

structure TmInv (Dk : Deferred → Prop) (nt : Nat) (ops : Array Oper) (xm : Nat) (tm0 : Tm) (val : Nat → AV) (D : Nat → Bool) (π : Pm) (a : Go.Act) : Prop where
  size : nt ≤ a.tmps.size
  tmp : ∀ t v, Tv ops xm tm0 val D t v → ∃ v', a.tmps[t]? = some v' ∧ VR π v v'
  defs : ∀ d ∈ a.defers, Dk d

/-- of the names of an operation, those that write stand as in the text -/
theorem names_in (hok : tempsOk ops.toList (aheadP ops.toList []) ops.toList 0 = true) {D : Nat → Bool} (hc : Closed ops (fun i => D i = true)) {j : Nat} {o : Oper} (ho : ops[j]? = some o)
    (hready : ∀ e ∈ o.after, Region.binds .any e = true → D e.on = true) (hjD : D j = false) {t : Nat} (ht : t ∈ namesOf ops.toList o) {i : Nat} (hi : isDst ops i t) (hij : i ≠ j) : (D i = decide (i < j)) := by
  obtain ⟨p, hp, hpd⟩ := hi
  rcases Nat.lt_or_ge i j with h | h
  · have := tempsOk_ok (ms := aheadP ops.toList []) ops.toList 0 hok j o (by simpa using ho) i p (by simpa using hp) (by omega)
    rw [Nat.zero_add] at this
    rcases this with h1 | h1
    · rw [ahead_in hc j o ho hready i h1]; simp [h]
    · exact absurd ht (h1.1 t hpd)
  · have hlt : j < i := by omega
    have := tempsOk_ok (ms := aheadP ops.toList []) ops.toList 0 hok i p (by simpa using hp) j o (by simpa using ho) (by omega)
    rw [Nat.zero_add] at this
    have hnb : ¬ i < j := by omega
    rcases this with h1 | h1
    · cases hD : D i with
      | false => simp [hnb]
      | true =>
        have := ahead_in hc i p hp (fun e he hb => hc i p hp hD e he hb) j h1
        rw [hjD] at this; cases this
    · exact absurd ht (h1.2 t hpd)

/-- a temporary that an operation reads -/
theorem TmInv.read {nt : Nat} {D : Nat → Bool} {π : Pm} {a : Go.Act} (M : TmInv Dk nt ops xm (st 0).tm val D π a) (R : RunD T E ih xm ops ms pr st val eff) (h0 : (st 0).loc = []) (hok : tempsOk ops.toList (aheadP ops.toList []) ops.toList 0 = true)
    (hc : Closed ops (fun i => D i = true)) {j : Nat} {o : Oper} (ho : ops[j]? = some o) (hready : ∀ e ∈ o.after, Region.binds .any e = true → D e.on = true) (hjD : D j = false) {t : Nat} (ht : t ∈ namesOf ops.toList o)
    {g : Get} (hg : opG ⟨xm, dsAt ops j⟩ (.tmp t) = some g) {v : AV} (hv : g (st j).loc (st j).tm = some v) : ∃ v', a.tmps[t]? = some v' ∧ VR π v v' := by
  have hjn : j < ops.size := (Array.getElem?_eq_some_iff.1 ho).1
  have hlw : lw ops D t ops.size = lw ops (fun _ => true) t j := by
    rw [← lw_cut (ops := ops) (t := t) (j := j) ops.size (by omega)]
    refine lw_congr _ fun i _ hd => ?_
    by_cases hij : i = j
    · subst hij; rw [hjD]; simp
    · exact names_in hok hc ho hready hjD ht hd hij
  refine M.tmp t v ?_
  unfold opG opnC at hg
  simp only at hg
  obtain ⟨x1, x2⟩ := ix_lw R (t := t) j (by omega)
  split at hg
  · rename_i r hr
    rw [locC_all] at hg
    cases hg
    rw [locC_get] at hv
    obtain ⟨k1, k2⟩ := x1 r hr
    rw [(loc_at R h0 j (by omega)).2 r k1] at hv
    cases hv
    exact .inl ⟨_, by rw [hlw, k2], rfl⟩
  · rename_i hr
    obtain ⟨hb, hg⟩ := onB1 hg
    rw [getC_all] at hg
    cases hg
    have hv' : getN 5 (st j).tm t = some v := (getC_get 5 t (st j).tm).symm.trans hv
    have hn := x2 hr
    rw [(tm_at R (t := t) j (by omega)).1 hn] at hv'
    exact .inr ⟨by rw [hlw, hn], hb, hv'⟩

/-- an operation's operands -/
theorem TmInv.opOk {nt : Nat} {D : Nat → Bool} {π : Pm} {a : Go.Act} (M : TmInv Dk nt ops xm (st 0).tm val D π a) (R : RunD T E ih xm ops ms pr st val eff) (h0 : (st 0).loc = []) (hok : tempsOk ops.toList (aheadP ops.toList []) ops.toList 0 = true)
    (hc : Closed ops (fun i => D i = true)) {j : Nat} {o : Oper} (ho : ops[j]? = some o) (hready : ∀ e ∈ o.after, Region.binds .any e = true → D e.on = true) (hjD : D j = false) (x : Operand) (hx : x ∈ o.op.operands.toList) :
    OpOk ⟨xm, dsAt ops j⟩ π (st j).loc (st j).tm a.eval x := by
  intro g hg v hv
  cases x with
  | tmp t =>
    obtain ⟨v', h1, h2⟩ := M.read R h0 hok hc ho hready hjD (names_op hx) hg hv
    have : a.eval (.tmp t) = v' := by simp [Act.eval, Array.getD_eq_getD_getElem?, h1]
    rw [this]; exact h2
  | const c =>
    change ofVal c (fun a => some (gConst a)) none = some g at hg
    rw [ofVal_nat] at hg
    obtain ⟨av, h1, h2⟩ := onO1 hg
    cases h2
    cases hv
    exact ofVal_VR h1 π
  | global b =>
    cases hg; cases hv
    exact .gptr b 0
  | func f =>
    cases hg; cases hv
    exact VR.func_mk (xs' := []) (ys' := []) .nil .nil

theorem TmInv.wanted {nt : Nat} {D : Nat → Bool} {π : Pm} {a : Go.Act} (M : TmInv Dk nt ops xm (st 0).tm val D π a) (R : RunD T E ih xm ops ms pr st val eff) (h0 : (st 0).loc = []) (hok : tempsOk ops.toList (aheadP ops.toList []) ops.toList 0 = true)
    (hc : Closed ops (fun i => D i = true)) {j : Nat} {o : Oper} (ho : ops[j]? = some o) (hready : ∀ e ∈ o.after, Region.binds .any e = true → D e.on = true) (hjD : D j = false)
    {gO : Option (Get × Bool)} (hg : GuardOk ⟨xm, dsAt ops j⟩ ops o.guard gO) {b : Bool} (hb : gWanted (st j).loc (st j).tm gO = some b) : Region.wanted o (yielded ops a.tmps) = b := by
  unfold Region.wanted
  cases hog : o.guard with
  | none =>
    rw [hog] at hg
    cases hg
    cases hb; rfl
  | some jw =>
    obtain ⟨k, w⟩ := jw
    rw [hog] at hg
    obtain ⟨o', t, g', h1, h2, h3, rfl⟩ := hg
    simp only [gWanted] at hb
    simp only
    have ht : t ∈ namesOf ops.toList o := names_guard hog (by simpa using h1) h2
    have hy : ∀ v', a.tmps[t]? = some v' → yielded ops a.tmps k = (match v' with | .bool b => some b | _ => none) := fun v' hv' => by
      unfold yielded
      simp only [h1, Option.bind_some, h2, hv']
      cases v' <;> rfl
    split at hb
    · rename_i c hcc
      obtain ⟨v', k1, k2⟩ := M.read R h0 hok hc ho hready hjD ht h3 hcc
      rw [hy v' k1]
      cases k2
      cases hb
      cases c <;> cases w <;> rfl
    · rename_i v hv hcc
      obtain ⟨v', k1, k2⟩ := M.read R h0 hok hc ho hready hjD ht h3 hcc
      rw [hy v' k1]
      cases hb
      cases k2 <;> first | rfl | exact absurd rfl (hv _)
    · cases hb

/-- an operation's value is kept -/
theorem TmInv.put {nt : Nat} {D : Nat → Bool} {π π' : Pm} {a a1 : Go.Act} (M : TmInv Dk nt ops xm (st 0).tm val D π a) (hle : π.le π') (hok : tempsOk ops.toList (aheadP ops.toList []) ops.toList 0 = true)
    (hc : Closed ops (fun i => D i = true)) {j : Nat} {o : Oper} (ho : ops[j]? = some o) (hready : ∀ e ∈ o.after, Region.binds .any e = true → D e.on = true) (hjD : D j = false)
    (hd : ∀ t, o.dst = some t → t < nt) (h1 : a1.tmps = a.tmps) (h2 : ∀ d ∈ a1.defers, Dk d) {v' : Value} (hv : VR π' (val j) v') :
    TmInv Dk nt ops xm (st 0).tm val (with1 D j) π' (a1.put o.dst v') := by
  have hjn : j < ops.size := (Array.getElem?_eq_some_iff.1 ho).1
  have hold : ∀ t, o.dst ≠ some t → lw ops (with1 D j) t ops.size = lw ops D t ops.size := fun t hn => by
    refine lw_congr _ fun i _ hi => with1_other D fun hij => ?_
    subst hij
    obtain ⟨o', k1, k2⟩ := hi
    rw [ho] at k1; cases k1; exact hn k2
  cases hdst : o.dst with
  | none =>
    refine ⟨by show nt ≤ a1.tmps.size; rw [h1]; exact M.size, fun t v htv => ?_, h2⟩
    have : Tv ops xm (st 0).tm val D t v := by unfold Tv at htv ⊢; rwa [hold t (by rw [hdst]; simp)] at htv
    obtain ⟨u, k1, k2⟩ := M.tmp t v this
    exact ⟨u, by show a1.tmps[t]? = _; rw [h1]; exact k1, k2.mono hle⟩
  | some d =>
    have hdn := hd d hdst
    have hsz := M.size
    have hput : ∀ t, (a1.put (some d) v').tmps[t]? = if t = d then some v' else a.tmps[t]? := fun t => by
      simp only [Act.put, h1]
      by_cases ht : t = d
      · subst ht
        have hlt : t < a.tmps.size := Nat.lt_of_lt_of_le hdn hsz
        simp [hlt]
      · rw [Array.getElem?_setIfInBounds_ne (Ne.symm ht)]; simp [ht]
    refine ⟨by simp only [Act.put, Array.size_setIfInBounds, h1]; exact M.size, fun t v htv => ?_, h2⟩
    rw [hput]
    by_cases ht : t = d
    · subst ht
      have hl : lw ops (with1 D j) t ops.size = some j := by
        have e : lw ops (with1 D j) t ops.size = lw ops (fun i => decide (i < j + 1)) t ops.size := lw_congr _ fun i _ hi => by
          by_cases hij : i = j
          · subst hij; rw [with1_same]; simp
          · rw [with1_other D hij, names_in hok hc ho hready hjD (names_dst hdst) hi hij]
            by_cases hlt : i < j
            · simp [hlt]; omega
            · simp [hlt]; omega
        rw [e, lw_cut ops.size (by omega), lw]
        simp [show isDst ops j t from ⟨o, ho, hdst⟩]
      rcases htv with ⟨i, k1, rfl⟩ | ⟨k1, _⟩
      · rw [hl] at k1; cases k1
        exact ⟨v', by simp, hv⟩
      · rw [hl] at k1; cases k1
    · simp only [ht, if_false]
      have : Tv ops xm (st 0).tm val D t v := by unfold Tv at htv ⊢; rwa [hold t (by rw [hdst]; intro h; cases h; exact ht rfl)] at htv
      obtain ⟨u, k1, k2⟩ := M.tmp t v this
      exact ⟨u, k1, k2.mono hle⟩

/-- all has been done -/
theorem TmInv.done {nt : Nat} {D : Nat → Bool} {π : Pm} {a : Go.Act} (M : TmInv Dk nt ops xm (st 0).tm val D π a) (R : RunD T E ih xm ops ms pr st val eff) (hD : ∀ i, i < ops.size → D i = true) : StRel Dk nt xm [] π [] (st ops.size).tm a := by
  refine ⟨M.size, fun t v hb hv => ?_, fun i t v h1 h2 => by simp at h2, M.defs⟩
  have e : lw ops D t ops.size = lw ops (fun _ => true) t ops.size := lw_congr _ fun i hi _ => hD i hi
  obtain ⟨h1, h2⟩ := tm_at R (t := t) ops.size (Nat.le_refl _)
  refine M.tmp t v ?_
  cases hl : lw ops (fun _ => true) t ops.size with
  | some i => exact .inl ⟨i, by rw [e, hl], h2 i hl hb v hv⟩
  | none => exact .inr ⟨by rw [e, hl], hb, by rw [← h1 hl]; exact hv⟩
end
end Go.Sx

namespace Go.Sx
section
variable {P : Program} {T : Nat → Option TypeInfo} {E : Env} {N0 : Nat} {w0 : World} {Dk : Deferred → Prop}

theorem doo_wp {o : Oper} {a : Go.Act} {w : World} {R : Value → World → Prop} {next : Go.Act → World → Prop} {Q : Exit → Go.Act → World → Prop} (hD : ∀ d ∈ a.defers, Dk d) (hd : Doo P Dk (execOp a.eval o) w R)
    (hn : ∀ v' w' (a1 : Go.Act), a1.tmps = a.tmps → (∀ d ∈ a1.defers, Dk d) → R v' w' → next (a1.put o.dst v') w') : o.wp P a w next Q := by
  unfold Oper.wp
  unfold Doo at hd
  split at hd
  · rename_i v' w' he
    rw [he, Oper.upon_value]
    exact hn v' w' a rfl hD hd
  · rename_i w' he
    rw [he, Oper.upon_skip]
    exact hn undef w' a rfl hD hd
  · rename_i d w' he
    rw [he, Oper.upon_defer]
    refine hn undef w' { a with defers := d :: a.defers } rfl (fun x hx => ?_) hd.2
    cases hx with
    | head => exact hd.1
    | tail _ hx => exact hD x hx
  · rename_i f args w' he
    rw [he, Oper.upon_enter]
    refine Calls.mono hd fun e w'' hR => ?_
    obtain ⟨v', rfl, hR⟩ := hR
    exact hn v' w'' a rfl hD hR
  · exact hd.elim

variable {ih : Ih} {xm : Nat} {ops : Array Oper} {pr : Pr} {st : Nat → DSt} {val : Nat → AV} {eff : Nat → Bool}

theorem get_new (own : TyL AObj 8) (nx : Nat) (o : AObj) (b : Nat) : get (.mk (setP (some o) 8 own nx) (nx + 1)) b = if b = nx then (if fits 8 nx = true then some o else none) else getN 8 own b := by
  show getN 8 (setP (some o) 8 own nx) b = _
  by_cases hb : b = nx
  · subst hb; rw [get_set_same]; simp
  · rw [get_set_other _ _ _ _ _ hb]; simp [hb]

/-- the heaps of a run are as they should be -/
theorem heaps_of (S : Setup P T E N0 w0 Dk) (hih : IhOk P Dk N0 w0 ih) (R : RunD T E ih xm ops (aheadP ops.toList []) pr st val eff) : Heaps st ops.size eff := by
  refine ⟨fun j hj => ?_, fun j hj hje => ?_⟩
  · obtain ⟨a, p, g, h1, _, _, _, _, _, h2⟩ := R.each j ops[j] (by simp)
    rcases h2 with ⟨_, h2, _⟩ | ⟨_, _, h2, _⟩
    · exact (ok_op S _ h1 ih hih _ _ _ _ _ h2).1
    · rw [h2]; exact Nat.le_refl _
  · obtain ⟨a, p, g, h1, _, _, hsb, _, _, h2⟩ := R.each j ops[j] (by simp)
    have same : (st (j + 1)).h = (st j).h → (∀ b, b < nextOf (st j).h → get (st (j + 1)).h b = get (st j).h b) ∧ ((∀ b, nextOf (st j).h ≤ b → get (st j).h b = none) → ∀ b, nextOf (st (j + 1)).h ≤ b → get (st (j + 1)).h b = none) := fun h => by
      rw [h]; exact ⟨fun _ _ => rfl, fun h => h⟩
    rcases h2 with ⟨_, h2, h3, _⟩ | ⟨_, _, h2, _⟩
    · rcases class_lt ops[j].op with hc | hc | hc | hc
      · exact same ((free_op h1 hc).same _ _ _ _ _ _ h2)
      · exact same (same_op h1 hc hsb _ _ _ _ _ _ h2)
      · cases hh : (st j).h with
        | mk own nx =>
          rw [hh] at h2
          obtain ⟨o, h4, _⟩ := make_op h1 hc _ _ _ _ _ _ _ h2
          rw [h4]
          refine ⟨fun b hb => ?_, fun hw b hb => ?_⟩
          · have hb' : b < nx := hb
            rw [get_new, if_neg (by omega)]; rfl
          · have hb' : nx + 1 ≤ b := hb
            rw [get_new, if_neg (by omega)]
            exact hw b (by show nx ≤ b; omega)
      · rw [hje, hc] at h3; cases h3
    · exact same h2

/-- a temporary, as the text has it -/
theorem tmp_can {ms : List Nat} (R : RunD T E ih xm ops ms pr st val eff) (h0 : (st 0).loc = []) {j : Nat} (hj : j ≤ ops.size) {t : Nat} {g : Get} (hg : opG ⟨xm, dsAt ops j⟩ (.tmp t) = some g) {v : AV} (hv : g (st j).loc (st j).tm = some v) :
    (∃ i, lw ops (fun _ => true) t j = some i ∧ v = val i) ∨ (lw ops (fun _ => true) t j = none ∧ Nat.testBit xm t = true ∧ getN 5 (st 0).tm t = some v) := by
  unfold opG opnC at hg
  simp only at hg
  obtain ⟨x1, x2⟩ := ix_lw R (t := t) j hj
  split at hg
  · rename_i r hr
    rw [locC_all] at hg
    cases hg
    rw [locC_get] at hv
    obtain ⟨k1, k2⟩ := x1 r hr
    rw [(loc_at R h0 j hj).2 r k1] at hv
    cases hv
    exact .inl ⟨_, k2, rfl⟩
  · rename_i hr
    obtain ⟨hb, hg⟩ := onB1 hg
    rw [getC_all] at hg
    cases hg
    have hv' : getN 5 (st j).tm t = some v := (getC_get 5 t (st j).tm).symm.trans hv
    have hn := x2 hr
    rw [(tm_at R (t := t) j hj).1 hn] at hv'
    exact .inr ⟨hn, hb, hv'⟩

theorem lw_keep {t p : Nat} : ∀ q, p ≤ q → (∀ i, p ≤ i → i < q → ¬ isDst ops i t) → lw ops (fun _ => true) t q = lw ops (fun _ => true) t p
  | 0, h, _ => by have : p = 0 := by omega
                  subst this; rfl
  | q + 1, h, hk => by
    by_cases hp : p = q + 1
    · subst hp; rfl
    · have := hk q (by omega) (by omega)
      rw [lw]
      simp only [this, false_and, if_false]
      exact lw_keep q (by omega) (fun i h1 h2 => hk i h1 (by omega))

/-- a store looks at one object alone -/
theorem storeAt_at {a : AV} {vs : List AV} {own : TyL AObj 8} {nx : Nat} {v : AV} {h' : Hp} (h : storeAt (.mk own nx) a vs (fun h => .ok (.tup []) h) = .ok v h') :
    ∃ b off o, a = .ptr b off ∧ h' = .mk (setP (some o) 8 own b) nx ∧ v = .tup [] ∧ ∀ own2, getN 8 own2 b = getN 8 own b → storeAt (.mk own2 nx) a vs (fun h => .ok (.tup []) h) = .ok (.tup []) (.mk (setP (some o) 8 own2 b) nx) := by
  cases a with
  | ptr b off =>
    simp only [storeAt] at h
    split at h
    · rename_i cs m ho
      obtain ⟨hb, h⟩ := onB_ok h
      obtain ⟨r, hr⟩ := fillK_call off cs vs
      rw [hr, setN_eq] at h
      cases h
      refine ⟨b, off, .row r m, rfl, rfl, rfl, fun own2 h2 => ?_⟩
      simp only [storeAt, h2, ho]
      rw [hb, onB_true, hr, setN_eq]
    · rename_i t m ho
      obtain ⟨hb, h⟩ := onB_ok h
      rw [setL_eq, setN_eq] at h
      cases h
      refine ⟨b, off, .cells (setLP 7 vs off t) m, rfl, rfl, rfl, fun own2 h2 => ?_⟩
      simp only [storeAt, h2, ho]
      rw [hb, onB_true, setL_eq, setN_eq]
    · cases h
  | _ => cases h
theorem aStore_at {n : Nat} {g x : Get} {ih : Ih} {loc : List AV} {tm : Tm} {own : TyL AObj 8} {nx : Nat} {v : AV} {h' : Hp} (h : aStore n g x ih loc tm (.mk own nx) = .ok v h') :
    ∃ b off o, g loc tm = some (.ptr b off) ∧ h' = .mk (setP (some o) 8 own b) nx ∧ ∀ own2, getN 8 own2 b = getN 8 own b → aStore n g x ih loc tm (.mk own2 nx) = .ok v (.mk (setP (some o) 8 own2 b) nx) := by
  unfold aStore at h
  obtain ⟨a, ha, h⟩ := onO_ok h
  obtain ⟨u, hu, h⟩ := onO_ok h
  obtain ⟨vs, hvs, h⟩ := onO_ok h
  obtain ⟨hn, h⟩ := onB_ok h
  obtain ⟨b, off, o, rfl, h1, rfl, h2⟩ := storeAt_at h
  refine ⟨b, off, o, ha, h1, fun own2 h3 => ?_⟩
  unfold aStore
  simp only [ha, hu, hvs, hn, onO_some, onB_true]
  exact h2 own2 h3

/-- a store that is not guarded, in a run -/
theorem store_run {ms : List Nat} (R : RunD T E ih xm ops ms pr st val eff) {s t : Nat} {o : Oper} {ty : TypeId} {x : Operand} (ho : ops[s]? = some o) (hop : o.op = .store ty (.tmp t) x) (hg : o.guard = none) :
    eff s = true ∧ ∃ n g y, opC T E ⟨xm, dsAt ops s⟩ o.op some none = some (aStore n g y) ∧ opG ⟨xm, dsAt ops s⟩ (.tmp t) = some g ∧ aStore n g y ih (st s).loc (st s).tm (st s).h = .ok (val s) (st (s + 1)).h := by
  obtain ⟨act, p, gO, h1, _, hgu, _, _, _, h2⟩ := R.each s o ho
  rw [hg] at hgu
  have hgu : gO = none := hgu
  subst hgu
  have hs : ∃ n g y, act = aStore n g y ∧ opG ⟨xm, dsAt ops s⟩ (.tmp t) = some g := by
    rw [hop] at h1
    simp only [opC] at h1
    obtain ⟨g, hg1, h1⟩ := opn1 h1
    obtain ⟨y, hg2, h1⟩ := opn1 h1
    split at h1
    · cases h1; exact ⟨_, g, y, rfl, hg1⟩
    · cases h1
  obtain ⟨n, g, y, rfl, hg1⟩ := hs
  rcases h2 with ⟨_, h3, h4, _⟩ | ⟨h3, _⟩
  · exact ⟨by rw [h4, hop]; rfl, n, g, y, h1, hg1, h3⟩
  · cases h3

/-- a drawn region whose second last store has been passed over -/
structure InvT (N0 : Nat) (w0 : World) (ih : Ih) (st : Nat → DSt) (val : Nat → AV) (n s1 s2 : Nat) (a1 : Act) (cur : Hp) (D : Nat → Bool) (π₀ π : Pm) (wb w : World) : Prop where
  d2 : D s2 = true
  md : (D s1 = false ∧ ∃ hf, a1 ih (st s1).loc (st s1).tm cur = .ok (val s1) hf ∧ nextOf hf = nextOf (st n).h ∧ nextOf cur = nextOf (st n).h ∧ ∀ b, get hf b = get (st n).h b) ∨
    (D s1 = true ∧ nextOf cur = nextOf (st n).h ∧ ∀ b, get cur b = get (st n).h b)
  wf : ∀ b, nextOf cur ≤ b → get cur b = none
  rel : HRelL N0 w0 π (fun b o => get cur b = some o) w
  step : StepL π₀ π (st 0).h (nextOf (st n).h) (fun b o => get cur b = some o) wb w
  old0 : ∀ b, b < nextOf (st 0).h → π₀ b = none → get cur b = get (st 0).h b

/-- either of both -/
def StOk (N0 : Nat) (w0 : World) (T : Nat → Option TypeInfo) (E : Env) (ih : Ih) (xm : Nat) (ops : Array Oper) (pr : Pr) (st : Nat → DSt) (val : Nat → AV) (eff : Nat → Bool) (D : Nat → Bool) (π₀ π : Pm) (wb w : World) : Prop :=
  (∃ c, Inv N0 w0 st ops.size eff c D π₀ π wb w) ∨
  ∃ s1 s2 t o1 a1 cur, pr = some ((s1, s2), t) ∧ ops[s1]? = some o1 ∧ opC T E ⟨xm, dsAt ops s1⟩ o1.op some none = some a1 ∧ InvT N0 w0 ih st val ops.size s1 s2 a1 cur D π₀ π wb w

/-- one operation of a drawn region, at any of the places where it may stand -/
theorem draw_step (S : Setup P T E N0 w0 Dk) (hih : IhOk P Dk N0 w0 ih) (R : RunD T E ih xm ops (aheadP ops.toList []) pr st val eff) (h0 : (st 0).loc = [])
    (hline : inLine (aheadP ops.toList []) (actsL ops.toList 0) pr = true) (hpair : pairOk ops.toList (aheadP ops.toList []) pr = true) (hback : backOk ops.toList 0 = true) (hok : tempsOk ops.toList (aheadP ops.toList []) ops.toList 0 = true) {nt : Nat} (hdst : ∀ o ∈ ops.toList, ∀ t, o.dst = some t → t < nt)
    {c : Nat} {D : Nat → Bool} {π₀ π : Pm} {wb w : World} {a : Go.Act} (I : Inv N0 w0 st ops.size eff c D π₀ π wb w) (M : TmInv Dk nt ops xm (st 0).tm val D π a) (hc : Closed ops (fun i => D i = true))
    {j : Nat} {o : Oper} (ho : ops[j]? = some o) (hready : ∀ e ∈ o.after, Region.binds .any e = true → D e.on = true) (hjD : D j = false) {Q : Exit → Go.Act → World → Prop} {K : Go.Act → World → Prop}
    (hK : ∀ π' a' w', StOk N0 w0 T E ih xm ops pr st val eff (with1 D j) π₀ π' wb w' → TmInv Dk nt ops xm (st 0).tm val (with1 D j) π' a' → K a' w') : wpOp P ops Q j K a w := by
  have H := heaps_of S hih R
  have hj : j < ops.size := (Array.getElem?_eq_some_iff.1 ho).1
  have hds := hdst o (by rw [Array.mem_toList_iff]; exact Array.mem_of_getElem? ho)
  have hahead : ∀ i, bitOf (aheadP ops.toList []) j i = true → D i = true := ahead_in hc j o ho hready
  have hmem : ∀ e, e < ops.size → eff e = true → e ∈ actsL ops.toList 0 := fun e he hee => by
    obtain ⟨_, _, _, _, _, _, _, _, _, h2⟩ := R.each e ops[e] (by simp)
    rcases h2 with ⟨_, _, h3, _⟩ | ⟨_, _, _, h3⟩
    · rw [hee] at h3
      have := mem_acts ops.toList 0 e ops[e] (by simp [he]) (Nat.eq_of_beq_eq_true h3.symm)
      simpa using this
    · rw [hee] at h3; cases h3
  obtain ⟨act, p, g, h1, hp, hg, hsb, _, _, h2⟩ := R.each j o ho
  unfold wpOp
  simp only [ho]
  rcases h2 with ⟨hw, hrun, heff, hre⟩ | ⟨hw, hv, hh, heff⟩
  · rw [M.wanted R h0 hok hc ho hready hjD hg hw, if_pos rfl]
    refine .inl ?_
    have hA := ok_op S o.op h1 ih hih (st j).loc (st j).tm
    have hops : ∀ x ∈ o.op.operands.toList, OpOk ⟨xm, dsAt ops j⟩ π (st j).loc (st j).tm a.eval x := fun x hx => M.opOk R h0 hok hc ho hready hjD x hx
    rcases class_lt o.op with hcl | hcl | hcl | hcl
    · -- does not look at memory
      have hf := free_op h1 hcl
      have hsame := hf.same _ _ _ _ _ _ hrun
      obtain ⟨_, hA2⟩ := hA (.mk e8 (nextOf (st j).h)) (val j) (.mk e8 (nextOf (st j).h)) (hf.at hrun _)
      have hemp : ∀ b, get (.mk e8 (nextOf (st j).h)) b = none := fun b => get_emp 8 b
      have hr2 : HRel N0 w0 π (.mk e8 (nextOf (st j).h)) w := I.rel.to (fun b o h => by rw [hemp] at h; cases h) (fun b _ => hemp b)
      refine doo_wp M.defs (hA2 π w a.eval o rfl hops hr2 (fun x h1 h2 => by omega)) fun v' w' a1 ha1 ha2 hP => ?_
      obtain ⟨π', q1, q2, q3⟩ := hP
      refine hK π' _ w' (.inl ⟨c, I.nonact (h2 := .mk e8 (nextOf (st j).h)) (h2' := .mk e8 (nextOf (st j).h)) H hj (by rw [heff, hcl]; rfl) hjD (fun b o h => by rw [hemp] at h; cases h) (fun b k1 k2 => by omega) (fun b k1 k2 => by rw [hsame] at k2; omega) (fun b o h => h)
        (H.mono (i := 0) j (by omega) (by omega)) (H.mono (i := j) ops.size (by omega) (Nat.le_refl _)) q2 q3⟩) (M.put q3.le hok hc ho hready hjD hds ha1 ha2 q1)
    · -- reads
      have hs := same_op h1 hcl hsb
      have hsame := hs _ _ _ _ _ _ hrun
      have hje : eff j = false := by rw [heff, hcl]; rfl
      have hcj : c ≠ j := fun he => by
        subst he
        have := (I.ceff hj).1
        rw [hje] at this; cases this
      obtain ⟨he1, he2⟩ := hre hcl
      -- the heap that it is read at
      have key : ∃ k, k ≤ c ∧ (∀ e, k ≤ e → e < c → eff e = false) ∧ ∃ h', act ih (st j).loc (st j).tm (st k).h = .ok (val j) h' := by
        rcases Nat.lt_or_ge c j with hcj' | hcj'
        · refine ⟨c, Nat.le_refl _, fun e k1 k2 => by omega, he1 c hcj' (I.ceff (by omega)).1 fun e m1 m2 m3 => ?_⟩
          -- what stands behind c in line has not been done
          cases hb : bitOf (aheadP ops.toList []) j e with
          | false => rfl
          | true =>
            have hDe := hahead e hb
            have hcD := (I.ceff (by omega)).2
            by_cases hce : c = e
            · subst hce; rw [hcD] at hDe; cases hDe
            · have hbit : bitOf (aheadP ops.toList []) e c = true := by
                rcases inLine_ok hline (hmem c (by omega) (I.ceff (by omega)).1) m1 (by omega) with h | h
                · exact h
                · exfalso
                  obtain ⟨t, ht⟩ := isPr_ok h
                  obtain ⟨t1, t2⟩ := t
                  have hP := pairOk_ok (ht ▸ hpair)
                  obtain ⟨oe, _, _, hoe, _⟩ := hP.st2
                  have := (hP.others j o ho (by omega) (by omega) (by rw [hcl]; simp)).2
                  have := ahead_in hc e oe hoe (fun x hx hbx => hc e oe hoe hDe x hx hbx) j this
                  rw [hjD] at this; cases this
              have hoe : ops[e]? = some ops[e] := by simp
              have := ahead_in hc e ops[e] hoe (fun x hx hbx => hc e _ hoe hDe x hx hbx) c hbit
              rw [hcD] at this; cases this
        · -- the last one of [j, c) that acts
          have hlast : ∀ m, j + m ≤ c → (∃ q, j < q ∧ q < j + m ∧ eff q = true ∧ ∀ e, q < e → e < j + m → eff e = false) ∨ ∀ e, j ≤ e → e < j + m → eff e = false := by
            intro m
            induction m with
            | zero => intro _; exact .inr fun e k1 k2 => by omega
            | succ m ihm =>
              intro hm
              cases hem : eff (j + m) with
              | true =>
                refine .inl ⟨j + m, ?_, by omega, hem, fun e k1 k2 => by omega⟩
                rcases Nat.eq_zero_or_pos m with h | h
                · subst h; rw [Nat.add_zero, hje] at hem; cases hem
                · omega
              | false =>
                rcases ihm (by omega) with ⟨q, q1, q2, q3, q4⟩ | h
                · refine .inl ⟨q, q1, by omega, q3, fun e k1 k2 => ?_⟩
                  by_cases he : e = j + m
                  · subst he; exact hem
                  · exact q4 e k1 (by omega)
                · refine .inr fun e k1 k2 => ?_
                  by_cases he : e = j + m
                  · subst he; exact hem
                  · exact h e k1 (by omega)
          have e0 : j + (c - j) = c := by omega
          rcases hlast (c - j) (by omega) with ⟨q, q1, q2, q3, q4⟩ | h
          · rw [e0] at q2 q4
            have hqn : q < ops.size := by have := I.cn; omega
            refine ⟨q + 1, by omega, fun e k1 k2 => q4 e (by omega) k2, he2 q q1 hqn q3 fun e m1 m2 m3 => ?_⟩
            cases hb : bitOf (aheadP ops.toList []) e j with
            | false => rfl
            | true =>
              have hqD := I.before q q2 q3
              have hoq : ops[q]? = some ops[q] := by simp
              have heD : D e = true := by
                by_cases heq : e = q
                · subst heq; exact hqD
                · rcases inLine_ok hline m1 (hmem q hqn q3) (by omega) with h | h
                  · exact ahead_in hc q ops[q] hoq (fun x hx hbx => hc q _ hoq hqD x hx hbx) e h
                  · exfalso
                    obtain ⟨t, ht⟩ := isPr_ok h
                    obtain ⟨t1, t2⟩ := t
                    have hP := pairOk_ok (ht ▸ hpair)
                    have := (hP.others j o ho (by omega) (by omega) (by rw [hcl]; simp)).2
                    have := ahead_in hc q ops[q] hoq (fun x hx hbx => hc q _ hoq hqD x hx hbx) j this
                    rw [hjD] at this; cases this
              have hoe : ops[e]? = some ops[e] := by simp
              have := ahead_in hc e ops[e] hoe (fun x hx hbx => hc e _ hoe heD x hx hbx) j hb
              rw [hjD] at this; cases this
          · rw [e0] at h
            exact ⟨j, hcj', h, _, hrun⟩
      obtain ⟨k, k1, k2, h', hk⟩ := key
      have hh' := hs _ _ _ _ _ _ hk
      subst hh'
      have hwk := I.wf k k1
      have hsub : ∀ b o, get (st k).h b = some o → get (st c).h b = some o := fun b o hb => by
        have hlt : b < nextOf (st k).h := by
          rcases Nat.lt_or_ge b (nextOf (st k).h) with h | h
          · exact h
          · rw [hwk b h] at hb; cases hb
        rw [(H.chain (i := k) c k1 I.cn k2).1 b hlt]; exact hb
      obtain ⟨_, hA2⟩ := hA (st k).h (val j) (st k).h hk
      have hr2 : HRel N0 w0 π (st k).h w := I.rel.to (fun b o h => .inl (hsub b o h)) hwk
      refine doo_wp M.defs (hA2 π w a.eval o rfl hops hr2 (fun x h1 h2 => by omega)) fun v' w' a1 ha1 ha2 hP => ?_
      obtain ⟨π', q1, q2, q3⟩ := hP
      have hkn : k ≤ ops.size := by have := I.cn; omega
      refine hK π' _ w' (.inl ⟨c, I.nonact (h2 := (st k).h) (h2' := (st k).h) H hj hje hjD hsub (fun b k1 k2 => by omega) (fun b k1 k2 => by rw [hsame] at k2; omega) (fun b o h => h)
        (H.mono (i := 0) k (by omega) hkn) (H.mono (i := k) ops.size hkn (Nat.le_refl _)) q2 q3⟩) (M.put q3.le hok hc ho hready hjD hds ha1 ha2 q1)
    · -- makes memory
      have hje : eff j = false := by rw [heff, hcl]; rfl
      have hfree := I.free j hj hjD
      have hm0 := H.mono (i := 0) j (by omega) (by omega)
      have hmn := H.mono (i := j + 1) ops.size (by omega) (Nat.le_refl _)
      cases hh : (st j).h with
      | mk own nx =>
        rw [hh] at hrun
        obtain ⟨obj, ho1, ho2⟩ := make_op h1 hcl _ _ _ _ _ _ _ hrun
        obtain ⟨_, hA2⟩ := hA (.mk e8 nx) (val j) _ (ho2 e8)
        have hemp : ∀ b, get (.mk e8 nx) b = none := fun b => get_emp 8 b
        have hr2 : HRel N0 w0 π (.mk e8 nx) w := I.rel.to (fun b o h => by rw [hemp] at h; cases h) (fun b _ => hemp b)
        have hn1 : nextOf (st j).h = nx := by rw [hh]; rfl
        have hn2 : nextOf (st (j + 1)).h = nx + 1 := by rw [ho1]; rfl
        rw [hn1] at hm0
        rw [hn2] at hmn
        refine doo_wp M.defs (hA2 π w a.eval o rfl hops hr2 (fun x k1 k2 => hfree x (by rw [hn1]; exact k1) (by rw [hn2]; exact k2))) fun v' w' a1 ha1 ha2 hP => ?_
        obtain ⟨π', q1, q2, q3⟩ := hP
        refine hK π' _ w' (.inl ⟨c, I.nonact (h2 := .mk e8 nx) (h2' := .mk (setP (some obj) 8 e8 nx) (nx + 1)) H hj hje hjD (fun b o h => by rw [hemp] at h; cases h) (fun b k1 k2 => ⟨by rw [hn1]; exact k1, by rw [hn2]; exact k2⟩) (fun b k1 k2 o' hb => ?_) (fun b o h => by rw [hemp] at h; cases h)
          hm0 hmn q2 q3⟩) (M.put q3.le hok hc ho hready hjD hds ha1 ha2 q1)
        rw [hn1] at k1
        rw [hn2] at k2
        have hb1 : b = nx := by omega
        rw [ho1, get_new, if_pos hb1] at hb
        rw [get_new, if_pos hb1]
        exact hb
    · -- acts
      have hje : eff j = true := by rw [heff, hcl]; rfl
      have hjc : j = c ∨ (c < j ∧ isPr pr c j = true) := by
        rcases Nat.lt_trichotomy j c with h | h | h
        · have := I.before j h hje; rw [hjD] at this; cases this
        · exact .inl h
        · have hce := I.ceff (by omega)
          rcases inLine_ok hline (hmem c (by omega) hce.1) (hmem j hj hje) h with h1 | h1
          · have := hahead c h1
            rw [hce.2] at this; cases this
          · exact .inr ⟨h, h1⟩
      rcases hjc with hjc | ⟨hcj, hpr⟩
      · subst hjc
        obtain ⟨_, hA2⟩ := hA (st j).h (val j) (st (j + 1)).h hrun
        have hr2 : HRel N0 w0 π (st j).h w := I.rel.to (fun b o h => .inl h) (I.wf j (Nat.le_refl _))
        refine doo_wp M.defs (hA2 π w a.eval o rfl hops hr2 (I.free j hj hjD)) fun v' w' a1 ha1 ha2 hP => ?_
        obtain ⟨π', q1, q2, q3⟩ := hP
        obtain ⟨c', I'⟩ := I.act H hj q2 q3
        exact hK π' _ w' (.inl ⟨c', I'⟩) (M.put q3.le hok hc ho hready hjD hds ha1 ha2 q1)
      · -- the last store ahead of the last but one
        obtain ⟨⟨t1, t2⟩, hpr⟩ := isPr_ok hpr
        have hP := pairOk_ok (hpr ▸ hpair)
        have hb : ∀ (k : Nat) o, ops[k]? = some o → ∀ e ∈ o.after, Region.binds .any e = true → e.on < k := fun k o ho e he hbe => by
          have := back_ok ops.toList 0 hback k o (by simpa using ho) e he hbe
          omega
        have htail : ∀ i, c < i → i < ops.size → i ≠ j → (st (i + 1)).h = (st i).h := fun i h1 h2 h3 => by
          obtain ⟨a', _, _, k1, _, _, _, _, _, k2⟩ := R.each i ops[i] (by simp)
          rcases k2 with ⟨_, k2, _, _⟩ | ⟨_, _, k2, _⟩
          · by_cases hc0 : classOf ops[i].op = 0
            · exact (free_op k1 hc0).same _ _ _ _ _ _ k2
            · have := (hP.others i ops[i] (by simp) (by omega) h3 hc0).1
              have := ahead_lt hb (by omega) this
              omega
          · exact k2
        have hsame : ∀ p q, p ≤ q → q ≤ ops.size → (∀ i, p ≤ i → i < q → (st (i + 1)).h = (st i).h) → (st q).h = (st p).h := by
          intro p q
          induction q with
          | zero => intro h1 _ _; have : p = 0 := by omega
                    subst this; rfl
          | succ q ihq =>
            intro h1 h2 h3
            by_cases hpq : p = q + 1
            · subst hpq; rfl
            · rw [h3 q (by omega) (by omega), ihq (by omega) (by omega) (fun i k1 k2 => h3 i k1 (by omega))]
        have e1 := hsame (c + 1) j (by omega) (by omega) (fun i k1 k2 => htail i (by omega) (by omega) (by omega))
        have e2 := hsame (j + 1) ops.size (by omega) (Nat.le_refl _) (fun i k1 k2 => htail i (by omega) k2 (by omega))
        obtain ⟨o1, ty1, x1, hs1, hop1, hgd1⟩ := hP.st1
        obtain ⟨o2, ty2, x2, hs2, hop2, hgd2⟩ := hP.st2
        have hoo : o2 = o := by rw [ho] at hs2; cases hs2; rfl
        subst hoo
        obtain ⟨_, n1, g1, y1, k1, k2, k3⟩ := store_run R hs1 hop1 hgd1
        obtain ⟨_, n2, g2, y2, m1, m2, m3⟩ := store_run R hs2 hop2 hgd2
        rw [m1] at h1
        cases h1
        obtain ⟨g1', g2', z1, z2, b, b', i, k, z3, z4, z5⟩ := R.apart c j t1 t2 hpr hj
        cases hh : (st c).h with
        | mk own nx =>
          rw [hh] at k3
          obtain ⟨b1, off1, ob1, u1, u2, u3⟩ := aStore_at k3
          rw [e1, u2] at m3
          obtain ⟨b2, off2, ob2, v1, v2, v3⟩ := aStore_at m3
          have hb2 : b2 = b' := by
            rw [m2] at z2; cases z2
            rw [v1] at z4; cases z4; rfl
          have hb1 : b1 = b := by
            have c1 := tmp_can R h0 (by omega) k2 u1
            have c2 := tmp_can R h0 (by omega) z1 z3
            have hk := lw_keep (ops := ops) (t := t1) (p := c) j (by omega) (fun i q1 q2 hd => by
              obtain ⟨oi, r1, r2⟩ := hd
              exact hP.keeps i oi r1 q1 q2 r2)
            rw [hk] at c2
            have hu : (AV.ptr b1 off1) = .ptr b i := by
              rcases c1 with ⟨i1, w1, w2⟩ | ⟨w1, _, w2⟩ <;> rcases c2 with ⟨i2, w3, w4⟩ | ⟨w3, _, w4⟩
              · rw [w1] at w3; cases w3; rw [w2, w4]
              · rw [w1] at w3; cases w3
              · rw [w1] at w3; cases w3
              · rw [w2] at w4; cases w4; rfl
            cases hu; rfl
          have hbb : b2 ≠ b1 := by rw [hb1, hb2]; exact fun h => z5 h.symm
          have hrun2 := v3 own (get_set_other _ _ _ _ _ hbb).symm
          have hrun1 := u3 (setP (some ob2) 8 own b2) (get_set_other _ _ _ _ _ (Ne.symm hbb))
          obtain ⟨_, hA2⟩ := hA (.mk own nx) (val j) _ hrun2
          have hcn : c < ops.size := by omega
          have hwc : ∀ b, nextOf (Hp.mk own nx) ≤ b → get (.mk own nx) b = none := by rw [← hh]; exact I.wf c (Nat.le_refl _)
          have hearly : ∀ b o p, LvOf st ops.size c D b o → π b = some p → get (.mk own nx) b = some o := fun b o p hl _ => by
            rcases hl with hl | ⟨i, i1, i2, i3, i4, i5, i6⟩
            · rw [hh] at hl; exact hl
            · have hij : i ≠ j := fun h => by subst h; rw [hjD] at i3; cases i3
              rw [htail i i1 i2 hij] at i5; omega
          have hr2 : HRel N0 w0 π (.mk own nx) w := I.rel.to (fun b o h => .inl (by rw [hh]; exact h)) hwc
          have hnx : nextOf (st ops.size).h = nx := by rw [e2, v2]; rfl
          refine doo_wp M.defs (hA2 π w a.eval o2 rfl hops hr2 (fun x q1 q2 => by have q1' : nx ≤ x := q1; have q2' : x < nx := q2; omega)) fun v' w' a1 ha1 ha2 hPo => ?_
          obtain ⟨π', q1, q2, q3⟩ := hPo
          have hL : ∀ b o p, get (.mk (setP (some ob2) 8 own b2) nx) b = some o → π' b = some p → get (.mk (setP (some ob2) 8 own b2) nx) b = some o ∨ (LvOf st ops.size c D b o ∧ get (.mk own nx) b = none ∧ ¬ (nextOf (Hp.mk own nx) ≤ b ∧ b < nextOf (Hp.mk (setP (some ob2) 8 own b2) nx))) := fun b o p h _ => .inl h
          have hsub : ∀ b o, get (.mk own nx) b = some o → LvOf st ops.size c D b o := fun b o h => .inl (by rw [hh]; exact h)
          have hn0 : nextOf (st 0).h ≤ nx := by
            have := H.mono (i := 0) c (by omega) (by omega)
            rw [hh] at this; exact this
          refine hK π' _ w' (.inr ⟨c, j, (t1, t2), o1, _, .mk (setP (some ob2) 8 own b2) nx, hpr, hs1, k1, ⟨with1_same D j, .inl ⟨by rw [with1_other D (by omega)]; exact (I.ceff hcn).2, _, hrun1, hnx.symm, hnx.symm, fun b => ?_⟩, q2.wf, q2.toL, I.step.next hsub q3 hL hn0 (by rw [hnx]; exact Nat.le_refl _), fun b r1 r2 => ?_⟩⟩) (M.put q3.le hok hc ho hready hjD hds ha1 ha2 q1)
          · rw [e2, v2]
            show getN 8 (setP (some ob1) 8 (setP (some ob2) 8 own b2) b1) b = getN 8 (setP (some ob2) 8 (setP (some ob1) 8 own b1) b2) b
            by_cases x1 : b = b1
            · subst x1
              rw [get_set_same, get_set_other _ _ _ _ _ (Ne.symm hbb), get_set_same]
            · by_cases x2 : b = b2
              · subst x2
                rw [get_set_other _ _ _ _ _ x1, get_set_same, get_set_same]
              · rw [get_set_other _ _ _ _ _ x1, get_set_other _ _ _ _ _ x2, get_set_other _ _ _ _ _ x2, get_set_other _ _ _ _ _ x1]
          · have hpb : π b = none := by
              cases hb : π b with
              | none => rfl
              | some p => have := I.step.fresh b p hb r2; omega
            rw [q3.ghost b (by show b < nx; omega) hpb, ← hh]
            exact I.old0 b r1 r2
  · -- not wanted
    rw [M.wanted R h0 hok hc ho hready hjD hg hw]
    simp only [Bool.false_eq_true, if_false]
    have hemp : ∀ b, get (.mk e8 (nextOf (st j).h)) b = none := fun b => get_emp 8 b
    have hr2 : HRel N0 w0 π (.mk e8 (nextOf (st j).h)) w := I.rel.to (fun b o h => by rw [hemp] at h; cases h) (fun b _ => hemp b)
    refine hK π _ w (.inl ⟨c, I.nonact (h2 := .mk e8 (nextOf (st j).h)) (h2' := .mk e8 (nextOf (st j).h)) H hj heff hjD (fun b o h => by rw [hemp] at h; cases h) (fun b k1 k2 => by omega) (fun b k1 k2 => by rw [hh] at k2; omega) (fun b o h => h)
      (H.mono (i := 0) j (by omega) (by omega)) (H.mono (i := j) ops.size (by omega) (Nat.le_refl _)) hr2 (Step.refl _ _ _)⟩) (M.put (Pm.le_refl _) hok hc ho hready hjD hds rfl M.defs ?_)
    rw [hv]
    exact VR.undef

/-- the same, where the last store has been done ahead of the last but one -/
theorem draw_stepT (S : Setup P T E N0 w0 Dk) (hih : IhOk P Dk N0 w0 ih) (R : RunD T E ih xm ops (aheadP ops.toList []) pr st val eff) (h0 : (st 0).loc = [])
    (hpair : pairOk ops.toList (aheadP ops.toList []) pr = true) (hok : tempsOk ops.toList (aheadP ops.toList []) ops.toList 0 = true) {nt : Nat} (hdst : ∀ o ∈ ops.toList, ∀ t, o.dst = some t → t < nt)
    {D : Nat → Bool} {π₀ π : Pm} {wb w : World} {a : Go.Act} {s1 s2 : Nat} {t : Nat × Nat} {o1 : Oper} {a1 : Act} {cur : Hp} (hpr : pr = some ((s1, s2), t)) (hs1 : ops[s1]? = some o1) (hc1 : opC T E ⟨xm, dsAt ops s1⟩ o1.op some none = some a1)
    (I : InvT N0 w0 ih st val ops.size s1 s2 a1 cur D π₀ π wb w) (M : TmInv Dk nt ops xm (st 0).tm val D π a) (hc : Closed ops (fun i => D i = true))
    {j : Nat} {o : Oper} (ho : ops[j]? = some o) (hready : ∀ e ∈ o.after, Region.binds .any e = true → D e.on = true) (hjD : D j = false) {Q : Exit → Go.Act → World → Prop} {K : Go.Act → World → Prop}
    (hK : ∀ π' a' w', StOk N0 w0 T E ih xm ops pr st val eff (with1 D j) π₀ π' wb w' → TmInv Dk nt ops xm (st 0).tm val (with1 D j) π' a' → K a' w') : wpOp P ops Q j K a w := by
  have H := heaps_of S hih R
  obtain ⟨t1, t2⟩ := t
  have hP := pairOk_ok (hpr ▸ hpair)
  have hj : j < ops.size := (Array.getElem?_eq_some_iff.1 ho).1
  have hds := hdst o (by rw [Array.mem_toList_iff]; exact Array.mem_of_getElem? ho)
  have hj2 : j ≠ s2 := fun h => by subst h; rw [I.d2] at hjD; cases hjD
  have hn0 := H.mono (i := 0) ops.size (by omega) (Nat.le_refl _)
  have hcn : nextOf cur = nextOf (st ops.size).h := by
    rcases I.md with ⟨_, _, _, _, h, _⟩ | ⟨_, h, _⟩ <;> exact h
  obtain ⟨act, p, g, h1, hp, hg, hsb, _, _, h2⟩ := R.each j o ho
  have hops : ∀ x ∈ o.op.operands.toList, OpOk ⟨xm, dsAt ops j⟩ π (st j).loc (st j).tm a.eval x := fun x hx => M.opOk R h0 hok hc ho hready hjD x hx
  have hemp : ∀ b, get (.mk e8 (nextOf cur)) b = none := fun b => get_emp 8 b
  have hrE : HRel N0 w0 π (.mk e8 (nextOf cur)) w := I.rel.to (fun b o h => by rw [hemp] at h; cases h) (fun b _ => hemp b)
  have pure1 : ∀ π' w', j ≠ s1 → HRel N0 w0 π' (.mk e8 (nextOf cur)) w' → Step π π' (.mk e8 (nextOf cur)) (.mk e8 (nextOf cur)) w w' → StOk N0 w0 T E ih xm ops pr st val eff (with1 D j) π₀ π' wb w' := fun π' w' hj1 q2 q3 => by
    have hL : ∀ b o p, get cur b = some o → π' b = some p → get (.mk e8 (nextOf cur)) b = some o ∨ (get cur b = some o ∧ get (.mk e8 (nextOf cur)) b = none ∧ ¬ (nextOf (Hp.mk e8 (nextOf cur)) ≤ b ∧ b < nextOf (Hp.mk e8 (nextOf cur)))) := fun b o p h _ => .inr ⟨h, hemp b, by omega⟩
    have hsub : ∀ b o, get (.mk e8 (nextOf cur)) b = some o → get cur b = some o := fun b o h => by rw [hemp] at h; cases h
    refine .inr ⟨s1, s2, (t1, t2), o1, a1, cur, hpr, hs1, hc1, ⟨by simp [with1, I.d2], ?_, I.wf, I.rel.frame hsub q2 q3 hL, I.step.next hsub q3 hL (by rw [← hcn] at hn0; exact hn0) (by rw [← hcn]; exact Nat.le_refl _), I.old0⟩⟩
    rw [with1_other D (Ne.symm hj1)]
    exact I.md
  unfold wpOp
  simp only [ho]
  by_cases hj1 : j = s1
  · subst hj1
    rw [hs1] at ho; cases ho
    obtain ⟨o1', ty, x, k1, k2, k3⟩ := hP.st1
    rw [hs1] at k1; cases k1
    rw [k3] at hg
    have hg : g = none := hg
    subst hg
    rw [M.wanted (gO := none) R h0 hok hc hs1 hready hjD (by rw [k3]; rfl) rfl, if_pos rfl]
    refine .inl ?_
    rcases I.md with ⟨_, hf, m1, m2, m3, m4⟩ | ⟨m1, _⟩
    · have hA := ok_op S o1.op hc1 ih hih (st j).loc (st j).tm
      obtain ⟨_, hA2⟩ := hA cur (val j) hf m1
      have hr2 : HRel N0 w0 π cur w := I.rel.to (fun b o h => h) I.wf
      refine doo_wp M.defs (hA2 π w a.eval o1 rfl hops hr2 (fun x q1 q2 => by rw [m3] at q1; rw [m2] at q2; omega)) fun v' w' aa ha1 ha2 hPo => ?_
      obtain ⟨π', q1, q2, q3⟩ := hPo
      have hL : ∀ b o p, get hf b = some o → π' b = some p → get hf b = some o ∨ (get cur b = some o ∧ get cur b = none ∧ ¬ (nextOf cur ≤ b ∧ b < nextOf hf)) := fun b o p h _ => .inl h
      refine hK π' _ w' (.inr ⟨j, s2, (t1, t2), o1, a1, hf, hpr, hs1, hc1, ⟨by simp [with1, I.d2], .inr ⟨with1_same D j, m2, m4⟩, q2.wf, q2.toL, I.step.next (fun b o h => h) q3 hL (by rw [m3]; exact hn0) (by rw [m2]; exact Nat.le_refl _), fun b r1 r2 => ?_⟩⟩) (M.put q3.le hok hc hs1 hready hjD hds ha1 ha2 q1)
      have hpb : π b = none := by
        cases hb : π b with
        | none => rfl
        | some p => have := I.step.fresh b p hb r2; omega
      rw [q3.ghost b (by rw [m3]; omega) hpb]
      exact I.old0 b r1 r2
    · rw [hjD] at m1; cases m1
  · rcases h2 with ⟨hw, hrun, heff, hre⟩ | ⟨hw, hv, hh, heff⟩
    · rw [M.wanted R h0 hok hc ho hready hjD hg hw, if_pos rfl]
      refine .inl ?_
      have hc0 : classOf o.op = 0 := by
        by_cases hc0 : classOf o.op = 0
        · exact hc0
        · exfalso
          have hbit := (hP.others j o ho hj1 hj2 hc0).2
          obtain ⟨o2, _, _, hs2, _⟩ := hP.st2
          have := ahead_in hc s2 o2 hs2 (fun e he hb => hc s2 o2 hs2 I.d2 e he hb) j hbit
          rw [hjD] at this; cases this
      have hA := ok_op S o.op h1 ih hih (st j).loc (st j).tm
      obtain ⟨_, hA2⟩ := hA (.mk e8 (nextOf cur)) (val j) (.mk e8 (nextOf cur)) ((free_op h1 hc0).at hrun _)
      refine doo_wp M.defs (hA2 π w a.eval o rfl hops hrE (fun x h1 h2 => by omega)) fun v' w' aa ha1 ha2 hPo => ?_
      obtain ⟨π', q1, q2, q3⟩ := hPo
      exact hK π' _ w' (pure1 π' w' hj1 q2 q3) (M.put q3.le hok hc ho hready hjD hds ha1 ha2 q1)
    · rw [M.wanted R h0 hok hc ho hready hjD hg hw]
      simp only [Bool.false_eq_true, if_false]
      refine hK π _ w (pure1 π w hj1 hrE (Step.refl _ _ _)) (M.put (Pm.le_refl _) hok hc ho hready hjD hds rfl M.defs ?_)
      rw [hv]
      exact VR.undef
end
end Go.Sx

namespace Go.Sx
section
variable {P : Program} {T : Nat → Option TypeInfo} {E : Env} {N0 : Nat} {w0 : World} {Dk : Deferred → Prop}
variable {ih : Ih} {xm : Nat} {ops : Array Oper} {pr : Pr} {st : Nat → DSt} {val : Nat → AV} {eff : Nat → Bool}

/-- what a list of marks says has been done -/
def doneOf (n : Nat) (listed : Array Bool) : Nat → Bool := fun i => decide (i < n) && listed.getD i false

theorem done_set {n : Nat} {listed : Array Bool} (hs : listed.size = n) {j : Nat} (hj : j < n) : doneOf n (listed.setIfInBounds j true) = with1 (doneOf n listed) j := by
  funext i
  unfold doneOf
  by_cases hij : i = j
  · subst hij
    rw [with1_same]
    simp [hj, hs]
  · rw [with1_other _ hij]
    simp [Ne.symm hij]

theorem draw_any (S : Setup P T E N0 w0 Dk) (hih : IhOk P Dk N0 w0 ih) (R : RunD T E ih xm ops (aheadP ops.toList []) pr st val eff) (h0 : (st 0).loc = [])
    (hline : inLine (aheadP ops.toList []) (actsL ops.toList 0) pr = true) (hpair : pairOk ops.toList (aheadP ops.toList []) pr = true) (hback : backOk ops.toList 0 = true) (hok : tempsOk ops.toList (aheadP ops.toList []) ops.toList 0 = true) {nt : Nat} (hdst : ∀ o ∈ ops.toList, ∀ t, o.dst = some t → t < nt)
    {π₀ : Pm} {wb : World} {Q : Exit → Go.Act → World → Prop}
    (hQ : ∀ π' a' w', StRel Dk nt xm [] π' [] (st ops.size).tm a' → HRel N0 w0 π' (st ops.size).h w' → Step π₀ π' (st 0).h (st ops.size).h wb w' → Q .normal a' w') :
    ∀ (fuel : Nat) (listed : Array Bool) (π : Pm) (a : Go.Act) (w : World), listed.size = ops.size → Closed ops (fun i => doneOf ops.size listed i = true) → (List.range ops.size).countP (fun i => !listed.getD i true) ≤ fuel →
      StOk N0 w0 T E ih xm ops pr st val eff (doneOf ops.size listed) π₀ π wb w → TmInv Dk nt ops xm (st 0).tm val (doneOf ops.size listed) π a → wpAny P .any ops Q fuel listed a w := by
  have H := heaps_of S hih R
  -- where nothing is ready, all has been done
  have hall : ∀ (listed : Array Bool), listed.size = ops.size → Region.ready .any ops listed = [] → ∀ i, i < ops.size → doneOf ops.size listed i = true := fun listed hs hr => by
    intro i
    induction i using Nat.strongRecOn with
    | ind i IH =>
      intro hi
      cases hd : doneOf ops.size listed i with
      | true => rfl
      | false =>
        exfalso
        have hm : i ∈ Region.ready .any ops listed := by
          rw [mem_ready]
          refine ⟨?_, ops[i], by simp [hi], fun e he hb => ?_⟩
          · simp only [doneOf, hi, decide_true, Bool.true_and] at hd
            have hil : i < listed.size := by omega
            simpa [hil] using hd
          · have hlt := back_ok ops.toList 0 hback i ops[i] (by simp [hi]) e he hb
            have := IH e.on (by omega) (by omega)
            simp only [doneOf, Bool.and_eq_true] at this
            exact this.2
        rw [hr] at hm; cases hm
  have hend : ∀ (listed : Array Bool) (π : Pm) (a : Go.Act) (w : World), listed.size = ops.size → StOk N0 w0 T E ih xm ops pr st val eff (doneOf ops.size listed) π₀ π wb w → TmInv Dk nt ops xm (st 0).tm val (doneOf ops.size listed) π a →
      Region.ready .any ops listed = [] → Q .normal a w := fun listed π a w hs hst M hr => by
    have hD := hall listed hs hr
    rcases hst with ⟨c, I⟩ | ⟨s1, s2, t, o1, a1, cur, hpr, hs1, hc1, I⟩
    · have hcn : c = ops.size := by
        rcases Nat.lt_or_ge c ops.size with h | h
        · have := (I.ceff h).2; rw [hD c h] at this; cases this
        · have := I.cn; omega
      subst hcn
      have hr2 : HRel N0 w0 π (st ops.size).h w := I.rel.to (fun b o h => .inl h) (I.wf _ (Nat.le_refl _))
      refine hQ π a w (M.done R hD) hr2 ⟨I.step.le, I.step.fresh, H.mono (i := 0) ops.size (by omega) (Nat.le_refl _), I.step.size, I.step.keep, fun b h1 h2 => I.old0 b h1 h2, fun b o p h1 h2 => I.step.img b o p (.inl h1) h2⟩
    · rcases I.md with ⟨h1, _⟩ | ⟨_, h2, h3⟩
      · have hlt : s1 < ops.size := (Array.getElem?_eq_some_iff.1 hs1).1
        rw [hD s1 hlt] at h1; cases h1
      · have hr2 : HRel N0 w0 π (st ops.size).h w := I.rel.to (fun b o h => by rw [h3]; exact h) (fun b hb => by rw [← h3]; exact I.wf b (by rw [h2]; exact hb))
        refine hQ π a w (M.done R hD) hr2 ⟨I.step.le, I.step.fresh, H.mono (i := 0) ops.size (by omega) (Nat.le_refl _), I.step.size, I.step.keep, fun b h1 h2 => by rw [← h3]; exact I.old0 b h1 h2, fun b o p h1 h2 => I.step.img b o p (by rw [h3]; exact h1) h2⟩
  intro fuel
  induction fuel with
  | zero =>
    intro listed π a w hs hc hcnt I M
    have hr : Region.ready .any ops listed = [] := by
      rw [List.eq_nil_iff_forall_not_mem]
      intro i hi
      rw [mem_ready] at hi
      obtain ⟨h1, o, ho, _⟩ := hi
      have hlt : i < ops.size := (Array.getElem?_eq_some_iff.1 ho).1
      have : 0 < (List.range ops.size).countP (fun i => !listed.getD i true) := List.countP_pos_iff.2 ⟨i, List.mem_range.2 hlt, by simpa using h1⟩
      omega
    exact ⟨hr, hend listed π a w hs I M hr⟩
  | succ fuel IH =>
    intro listed π a w hs hc hcnt I M
    refine ⟨hend listed π a w hs I M, fun j hj => ?_⟩
    rw [mem_ready] at hj
    obtain ⟨h1, o, ho, hready⟩ := hj
    have hlt : j < ops.size := (Array.getElem?_eq_some_iff.1 ho).1
    have hjD : doneOf ops.size listed j = false := by
      have hil : j < listed.size := by omega
      have : listed[j] = false := by simpa [hil] using h1
      simp [doneOf, hil, this]
    have hready' : ∀ e ∈ o.after, Region.binds .any e = true → doneOf ops.size listed e.on = true := fun e he hb => by
      have h2 := hready e he hb
      have h3 := back_ok ops.toList 0 hback j o (by simpa using ho) e he hb
      simp only [doneOf, Bool.and_eq_true, decide_eq_true_eq]
      exact ⟨by omega, h2⟩
    have hK : ∀ π' a' w', StOk N0 w0 T E ih xm ops pr st val eff (with1 (doneOf ops.size listed) j) π₀ π' wb w' → TmInv Dk nt ops xm (st 0).tm val (with1 (doneOf ops.size listed) j) π' a' → wpAny P .any ops Q fuel (listed.setIfInBounds j true) a' w' := fun π' a' w' I' M' => ?_
    · rcases I with ⟨c, I⟩ | ⟨s1, s2, t, o1, a1, cur, hpr, hs1, hc1, I⟩
      · exact draw_step S hih R h0 hline hpair hback hok hdst I M hc ho hready' hjD hK
      · exact draw_stepT S hih R h0 hpair hok hdst hpr hs1 hc1 I M hc ho hready' hjD hK
    rw [← done_set hs hlt] at I' M'
    refine IH _ π' a' w' (by simpa using hs) ?_ ?_ I' M'
    · rw [done_set hs hlt]
      intro i p hp hiD e he hb
      by_cases hij : i = j
      · subst hij
        rw [ho] at hp; cases hp
        simp [with1, hready' e he hb]
      · have hiD' : doneOf ops.size listed i = true := by simpa [with1_other _ hij] using hiD
        have := hc i p hp hiD' e he hb
        simp [with1, this]
    · have := countP_more (f := fun i => !(listed.setIfInBounds j true).getD i true) (g := fun i => !listed.getD i true) (l := List.range ops.size) (k := j) (List.mem_range.2 hlt)
        (fun e _ he => by
          by_cases hej : j = e
          · subst hej
            have hil : j < listed.size := by omega
            simp [hil] at he
          · rw [getD_set_ne true hej] at he; exact he)
        (by have hil : j < listed.size := by omega
            simp [hil]) (by simpa using h1)
      omega

theorem rDraw_plain {xm : Nat} {ms acts : List Nat} : ∀ (l : List DOp), (∀ (j : Nat) (d : DOp), l[j]? = some d → ∃ f, PutIs d.put f) → ∀ ih loc tm h hs ps, (∃ n, toD l ih loc tm h hs ps = .fail n) ∨ ∃ tm' h', toD l ih loc tm h hs ps = .norm tm' h'
  | [], _, _, _, tm, h, _, _ => .inr ⟨tm, h, rfl⟩
  | ⟨a, p, g, acts', early, late, chk⟩ :: os, hp, ih, loc, tm, h, hs, ps => by
    have IH := rDraw_plain (xm := xm) (ms := ms) (acts := acts) os (fun j d hj => hp (j + 1) d (by simpa using hj))
    obtain ⟨f, hf0⟩ := hp 0 _ rfl
    have hf : PutIs p f := hf0
    clear hf0
    have x : (∃ n, dX a p acts' early late (toD os) ih loc tm h hs ps = .fail n) ∨ ∃ tm' h', dX a p acts' early late (toD os) ih loc tm h hs ps = .norm tm' h' := by
      have rd : ∀ late, (∃ n, dRead a p early late (toD os) ih loc tm h hs ps = .fail n) ∨ ∃ tm' h', dRead a p early late (toD os) ih loc tm h hs ps = .norm tm' h' := fun late => by
        unfold dRead
        cases a ih loc tm h with
        | fail n => exact .inl ⟨n, rfl⟩
        | ok v h1 =>
          rw [onS_ok, onB_eq]
          split
          · rw [hf]; exact IH _ _ _ _ _ _
          · exact .inl ⟨_, rfl⟩
      unfold dX
      cases acts' with
      | true =>
        rw [onB_true]
        unfold dAct
        cases a ih loc tm h with
        | fail n => exact .inl ⟨n, rfl⟩
        | ok v h1 =>
          rw [onS_ok]
          cases allLate ih h1 ps with
          | none => exact .inl ⟨_, rfl⟩
          | some qs => rw [onO_some, hf]; exact IH _ _ _ _ _ _
      | false =>
        rw [onB_false]
        cases late with
        | zero =>
          cases early with
          | zero =>
            simp only
            unfold dCons
            cases a ih loc tm h with
            | fail n => exact .inl ⟨n, rfl⟩
            | ok v h1 => rw [onS_ok, hf]; exact IH _ _ _ _ _ _
          | succ e => exact rd 0
        | succ l => exact rd (l + 1)
    have y : (∃ n, dSkip p (toD os) ih loc tm h hs ps = .fail n) ∨ ∃ tm' h', dSkip p (toD os) ih loc tm h hs ps = .norm tm' h' := by
      unfold dSkip
      rw [hf]; exact IH _ _ _ _ _ _
    have z : (∃ n, dG g (dX a p acts' early late (toD os)) (dSkip p (toD os)) ih loc tm h hs ps = .fail n) ∨ ∃ tm' h', dG g (dX a p acts' early late (toD os)) (dSkip p (toD os)) ih loc tm h hs ps = .norm tm' h' := by
      cases g with
      | none => exact x
      | some gw =>
        obtain ⟨g, w⟩ := gw
        show (∃ n, dSome g w (dX a p acts' early late (toD os)) (dSkip p (toD os)) ih loc tm h hs ps = .fail n) ∨ ∃ tm' h', dSome g w (dX a p acts' early late (toD os)) (dSkip p (toD os)) ih loc tm h hs ps = .norm tm' h'
        unfold dSome
        split
        · rw [onB_eq]
          split
          · exact x
          · exact y
        · exact y
        · exact .inl ⟨_, rfl⟩
    cases chk with
    | none => exact z
    | some gg =>
      obtain ⟨g1, g2⟩ := gg
      show (∃ n, dApart g1 g2 (dG g (dX a p acts' early late (toD os)) (dSkip p (toD os))) ih loc tm h hs ps = .fail n) ∨ ∃ tm' h', dApart g1 g2 (dG g (dX a p acts' early late (toD os)) (dSkip p (toD os))) ih loc tm h hs ps = .norm tm' h'
      unfold dApart
      split
      · rw [onB_eq]
        split
        · exact .inl ⟨_, rfl⟩
        · exact z
      · exact .inl ⟨_, rfl⟩

/-- drawn regions are sound -/
theorem draw_ok (S : Setup P T E N0 w0 Dk) (hm : P.follows .mixedOrders = true) : DrawOk P T E N0 w0 Dk := by
  intro nt xm id ops hdst ih hih k tm h e tm' h' hrun
  unfold codeOf at hrun
  rw [onB_true, aheadL_eq] at hrun
  unfold drawnC at hrun
  rw [onB_eq] at hrun
  split at hrun
  · rename_i hgood
    simp only [Bool.and_eq_true] at hgood
    obtain ⟨⟨⟨hline, hpair⟩, hback⟩, hok⟩ := hgood
    split at hrun
    · rename_i l hl
      have hplain := rDraw_plain (xm := xm) (ms := aheadP ops.toList []) (acts := actsL ops.toList 0) l (fun j d hj => by
        obtain ⟨hlen, hd⟩ := drawC_ok (ops := ops) ops.toList [] rfl l hl
        simp only [List.length_nil, Nat.zero_add] at hd
        have hjn : j < ops.toList.length := by rw [← hlen]; exact (List.getElem?_eq_some_iff.1 hj).1
        obtain ⟨d', k1, p, _, k3, k4, _⟩ := hd j ops.toList[j] (by simp [hjn])
        rw [hj] at k1; cases k1
        exact ⟨_, fun v tm K => by rw [k4]; exact put_call k3 v tm K⟩) ih [] tm h [] []
      have hnorm : ∃ tm1 h1, rDraw (toD l) ih [] tm h = .norm tm1 h1 ∧ e = .normal ∧ tm1 = tm' ∧ h1 = h' := by
        have hrun' : outOf (rDraw (toD l) ih [] tm h) = some (e, tm', h') := hrun
        rcases hplain with ⟨m, hm'⟩ | ⟨tm1, h1, hm'⟩
        · have : rDraw (toD l) ih [] tm h = .fail m := hm'
          rw [this] at hrun'; cases hrun'
        · have : rDraw (toD l) ih [] tm h = .norm tm1 h1 := hm'
          rw [this] at hrun'; cases hrun'; exact ⟨_, _, this, rfl, rfl, rfl⟩
      obtain ⟨tm1, h1, hr, rfl, rfl, rfl⟩ := hnorm
      obtain ⟨st, val, eff, R, s0, s1, s2, s3, s4⟩ := runD_of hl hr
      have H := heaps_of S hih R
      have hnext := H.mono (i := 0) ops.size (by omega) (Nat.le_refl _)
      rw [s2, s4] at hnext
      refine ⟨hnext, fun {π w a} hs hr0 hf Q hq => wp_region_any hm ?_⟩
      have hdr : HRel N0 w0 π h { w with drawn := w.drawn + 1 } := hr0.drawn _
      have hD0 : doneOf ops.size (Array.replicate ops.size false) = fun _ => false := by
        funext i
        unfold doneOf
        by_cases hi : i < ops.size <;> simp [hi]
      -- the first one that acts
      have hfirst : ∀ m, m ≤ ops.size → (∃ c, c < m ∧ eff c = true ∧ ∀ e, e < c → eff e = false) ∨ ∀ e, e < m → eff e = false := by
        intro m
        induction m with
        | zero => intro _; exact .inr fun e h => by omega
        | succ m ihm =>
          intro hm'
          rcases ihm (by omega) with ⟨c, c1, c2, c3⟩ | hn
          · exact .inl ⟨c, by omega, c2, c3⟩
          · cases he : eff m with
            | true => exact .inl ⟨m, by omega, he, hn⟩
            | false =>
              refine .inr fun e hlt => ?_
              by_cases hem : e = m
              · subst hem; exact he
              · exact hn e (by omega)
      have hc : ∃ c, c ≤ ops.size ∧ (∀ e, e < c → eff e = false) ∧ (c < ops.size → eff c = true) := by
        rcases hfirst ops.size (Nat.le_refl _) with ⟨c, c1, c2, c3⟩ | hn
        · exact ⟨c, by omega, c3, fun _ => c2⟩
        · exact ⟨ops.size, Nat.le_refl _, hn, fun h => by omega⟩
      obtain ⟨c, c1, c2, c3⟩ := hc
      have hwf0 : ∀ b, nextOf (st 0).h ≤ b → get (st 0).h b = none := by rw [s2]; exact hr0.wf
      have ch := fun k (hk : k ≤ c) => H.chain (i := 0) k (by omega) (by omega) (fun e _ he => c2 e (by omega))
      have hfree : ∀ i, i < ops.size → Free π (nextOf (st i).h) (nextOf (st (i + 1)).h) := fun i hi b k1 k2 => by
        have m1 := H.mono (i := 0) i (by omega) (by omega)
        have m2 := H.mono (i := i + 1) ops.size (by omega) (Nat.le_refl _)
        rw [s2] at m1
        rw [s4] at m2
        exact hf b (by omega) (by omega)
      -- objects that no run has made are not known
      have hknown : ∀ b o p, get (st c).h b = some o → π b = some p → get h b = some o := fun b o p k1 k2 => by
        rcases Nat.lt_or_ge b (nextOf (st 0).h) with hb | hb
        · rw [(ch c (Nat.le_refl _)).1 b hb, s2] at k1; exact k1
        · have hlt : b < nextOf (st c).h := by
            rcases Nat.lt_or_ge b (nextOf (st c).h) with h' | h'
            · exact h'
            · rw [(ch c (Nat.le_refl _)).2 hwf0 b h'] at k1; cases k1
          obtain ⟨i, q1, q2, q3, q4⟩ := H.at hb c (by omega) c1 hlt
          rw [hfree i (by omega) b q3 q4] at k2; cases k2
      have hL : ∀ b o p, LvOf st ops.size c (fun _ => false) b o → π b = some p → get h b = some o := fun b o p hl hp => by
        rcases hl with hl | ⟨i, _, _, hf', _⟩
        · exact hknown b o p hl hp
        · cases hf'
      refine draw_any S hih R s0 hline hpair hback hok hdst (π₀ := π) (wb := w) (fun π' a' w' q1 q2 q3 => ?_) ops.size (Array.replicate ops.size false) π a _ (by simp) ?_ ?_ (.inl ⟨c, ?_⟩) ?_
      · rw [s3] at q1
        rw [s4] at q2 q3
        rw [s2] at q3
        exact hq π' a' w' q1 q2 q3
      · rw [hD0]; intro i o _ h' ; cases h'
      · exact Nat.le_trans List.countP_le_length (by simp)
      · rw [hD0]
        refine ⟨c1, fun hlt => ⟨c3 hlt, rfl⟩, fun e he hee => (by rw [c2 e he] at hee; cases hee), fun _ _ _ _ => rfl, fun k hk => (ch k hk).2 hwf0, fun i hi _ b k1 k2 => ?_, fun i hi _ => hfree i hi, ?_, ?_, fun b hb _ => (ch c (Nat.le_refl _)).1 b hb⟩
        · exact (H.chain (i := i + 1) c (by omega) c1 (fun e _ he => c2 e he)).1 b k2
        · exact ⟨fun b o p k1 k2 => hdr.objs b o p (hL b o p k1 k2) k2, fun b c' o q p r k1 k2 k3 k4 k5 => hdr.inj b c' o q p r (hL b o p k1 k3) (hL c' q r k2 k4) k3 k4 k5, hdr.new, hdr.old, hdr.size, hdr.same⟩
        · refine ⟨Pm.le_refl _, fun b p k1 k2 => (by rw [k1] at k2; cases k2), Nat.le_refl _, fun _ _ _ => rfl, fun b o p k1 k2 => .inl ⟨b, o, p, ?_, k2, rfl⟩⟩
          rw [s2]; exact hL b o p k1 k2
      · rw [hD0]
        refine ⟨hs.size, fun t v htv => ?_, hs.defs⟩
        have hno : ∀ k, lw ops (fun _ => false) t k = none := fun k => by
          cases hl' : lw ops (fun _ => false) t k with
          | none => rfl
          | some i => have := (lw_lt k hl').2.2; cases this
        rcases htv with ⟨i, k1, _⟩ | ⟨_, k1, k2⟩
        · rw [hno] at k1; cases k1
        · rw [s1] at k2
          exact hs.kept t v k1 k2
    · cases hrun
  · cases hrun
end
end Go.Sx
