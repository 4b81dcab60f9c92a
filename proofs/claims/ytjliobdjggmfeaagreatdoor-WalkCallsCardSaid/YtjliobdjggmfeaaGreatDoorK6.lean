/-
  Code and functions: where the executor's run ends well, the model's call ends so too, for every program whose drawn regions are sound.
-/
import Derived.Test.YtjliobdjggmfeaaGreatDoorK5
import Derived.Scope
import Derived.Defers
set_option linter.unusedVariables false
set_option linter.unusedSimpArgs false
namespace Go.Sx
section
variable {P : Program} {T : Nat → Option TypeInfo} {E : Env} {N0 : Nat} {w0 : World} {Dk : Deferred → Prop}

/-- what a guard's closure is -/
def GuardOk (c : Ctx) (ops : Array Oper) (g : Option (Nat × Bool)) (gO : Option (Get × Bool)) : Prop := match g with
  | none => gO = none
  | some (j, w) => ∃ o t g', ops[j]? = some o ∧ o.dst = some t ∧ opG c (.tmp t) = some g' ∧ gO = some (g', w)

theorem guardC_ok {β : Type} (c : Ctx) (ops : Array Oper) (g : Option (Nat × Bool)) (K : Option (Get × Bool) → β) (F : β) : (∃ gO, GuardOk c ops g gO ∧ guardC c ops.toList g K F = K gO) ∨ guardC c ops.toList g K F = F := by
  cases g with
  | none => exact .inl ⟨none, rfl, rfl⟩
  | some jw =>
    obtain ⟨j, w⟩ := jw
    unfold guardC
    simp only [nth_eq]
    split
    · rename_i o ho
      split
      · rename_i t ht
        rw [opnC_nat]
        cases hg : opG c (.tmp t) with
        | none => exact .inr rfl
        | some g' => exact .inl ⟨some (g', w), ⟨o, t, g', by simpa using ho, ht, hg, rfl⟩, by cases w <;> rfl⟩
      · exact .inr rfl
    · exact .inr rfl

theorem wanted_ok {n xm : Nat} {ds : List (Option Nat)} {π : Pm} {loc : List AV} {tm : Tm} {a : Go.Act} (hs : StRel Dk n xm ds π loc tm a) {ops : Array Oper} {o : Oper} {gO : Option (Get × Bool)} (hg : GuardOk ⟨xm, ds⟩ ops o.guard gO) {b : Bool} (hb : gWanted loc tm gO = some b) :
    Region.wanted o (yielded ops a.tmps) = b := by
  unfold Region.wanted
  cases ho : o.guard with
  | none =>
    rw [ho] at hg
    cases hg
    cases hb; rfl
  | some jw =>
    obtain ⟨j, w⟩ := jw
    rw [ho] at hg
    obtain ⟨o', t, g', h1, h2, h3, rfl⟩ := hg
    simp only [gWanted] at hb
    simp only
    have hy : ∀ v', a.tmps[t]? = some v' → yielded ops a.tmps j = (match v' with | .bool b => some b | _ => none) := fun v' hv' => by
      unfold yielded
      simp only [h1, Option.bind_some, h2, hv']
      cases v' <;> rfl
    split at hb
    · rename_i c hc
      obtain ⟨v', k1, k2⟩ := hs.tmp h3 hc
      rw [hy v' k1]
      cases k2
      cases hb
      cases c <;> cases w <;> rfl
    · rename_i v hv hc
      obtain ⟨v', k1, k2⟩ := hs.tmp h3 hc
      rw [hy v' k1]
      cases hb
      cases k2 <;> first | rfl | exact absurd rfl (hv _)
    · cases hb

theorem Free.sub {π : Pm} {a b c d : Nat} (h : Free π a d) (h1 : a ≤ b) (h2 : c ≤ d) : Free π b c := fun x hx hy => h x (by omega) (by omega)
theorem Free.step {π π' : Pm} {h h1 : Hp} {w w1 : World} {d : Nat} (hf : Free π (nextOf h) d) (s : Step π π' h h1 w w1) : Free π' (nextOf h1) d := fun x hx hy => by
  cases hp : π' x with
  | none => rfl
  | some p =>
    have h0 := hf x (by have := s.next; omega) hy
    have := s.fresh x p hp h0
    omega

/-- a region's operations, one after the other -/
theorem reg_ok (S : Setup P T E N0 w0 Dk) {ih : Ih} (hih : IhOk P Dk N0 w0 ih) {xm n : Nat} (ops : Array Oper) (hd : ∀ o ∈ ops.toList, ∀ t, o.dst = some t → t < n) : ∀ (os pre : List Oper), ops.toList = pre ++ os → ∀ (loc : List AV) (tm tm' : Tm) (h h' : Hp),
    (regC T E xm ops.toList ((pre.map (·.dst)).reverse) os).r ih loc tm h = .norm tm' h' → nextOf h ≤ nextOf h' ∧ ∀ {π : Pm} {w : World} {a : Go.Act}, StRel Dk n xm ((pre.map (·.dst)).reverse) π loc tm a → HRel N0 w0 π h w → Free π (nextOf h) (nextOf h') → ∀ (Q : Exit → Go.Act → World → Prop),
      (∀ π' a' w', StRel Dk n xm [] π' [] tm' a' → HRel N0 w0 π' h' w' → Step π π' h h' w w' → Q .normal a' w') → wpOps P ops Q (List.range' pre.length os.length) a w
  | [], pre, he, loc, tm, tm', h, h', hrun => by
    cases hrun
    refine ⟨Nat.le_refl _, fun {π w a} hs hr hf Q hq => ?_⟩
    exact hq π a w ⟨hs.size, hs.kept, fun i t v h1 h2 => by simp at h2, hs.defs⟩ hr (Step.refl _ _ _)
  | o :: os, pre, he, loc, tm, tm', h, h', hrun => by
    have he' : ops.toList = (pre ++ [o]) ++ os := by rw [he]; simp
    have hds : (((pre ++ [o]).map (·.dst)).reverse) = o.dst :: (pre.map (·.dst)).reverse := by simp
    have IH := reg_ok S hih (xm := xm) ops hd os (pre ++ [o]) he'
    rw [hds] at IH
    have hoi : ops[pre.length]? = some o := by rw [← Array.getElem?_toList, he]; simp
    have hdo := hd o (by rw [he]; simp)
    unfold regC at hrun
    cases hreg : regC T E xm ops.toList (o.dst :: (pre.map (·.dst)).reverse) os with
    | mk r =>
      rw [hreg] at hrun IH
      simp only at hrun IH
      split at hrun
      · rename_i act hact
        obtain ⟨p, hp, hpe⟩ := dstC_ok (xm := xm) (dst := o.dst) (fun p => guardC ⟨xm, (pre.map (·.dst)).reverse⟩ ops.toList o.guard (fun g => mkOp act p g r) ⟨rPush (aBad 1) r⟩)
        rw [hpe] at hrun
        rcases guardC_ok ⟨xm, (pre.map (·.dst)).reverse⟩ ops o.guard (fun g => mkOp act p g r) ⟨rPush (aBad 1) r⟩ with ⟨gO, hg, hge⟩ | hge
        · rw [hge] at hrun
          rcases mkOp_run hp hrun with ⟨hw, v, h1, ha, hrest⟩ | ⟨hw, hrest⟩
          · obtain ⟨n1, n2⟩ := IH _ _ _ _ _ hrest
            obtain ⟨m1, m2⟩ := act_step (n := n) (o := o) (ok_op S o.op hact) hih ha
            refine ⟨Nat.le_trans m1 n1, fun {π w a} hs hr hf Q hq => ?_⟩
            show wpOps P ops Q (pre.length :: List.range' (pre.length + 1) os.length) a w
            unfold wpOps
            simp only [hoi, wanted_ok hs hg hw, if_true]
            refine .inl (m2 hs hr (hf.sub (Nat.le_refl _) n1) _ Q fun π1 v' w1 a1 k1 k2 k3 k4 => ?_)
            have := n2 (k4.put hp hdo k1) k2 (hf.step k3) Q (fun π' a' w' q1 q2 q3 => hq π' a' w' q1 q2 (k3.trans q3))
            simpa using this
          · obtain ⟨n1, n2⟩ := IH _ _ _ _ _ hrest
            refine ⟨n1, fun {π w a} hs hr hf Q hq => ?_⟩
            show wpOps P ops Q (pre.length :: List.range' (pre.length + 1) os.length) a w
            unfold wpOps
            simp only [hoi, wanted_ok hs hg hw, Bool.false_eq_true, if_false]
            have := n2 (hs.put hp hdo VR.undef) hr hf Q hq
            simpa using this
        · rw [hge] at hrun; cases hrun
      · cases hrun
end
end Go.Sx

namespace Go.Sx
section
variable {P : Program} {T : Nat → Option TypeInfo} {E : Env} {N0 : Nat} {w0 : World} {Dk : Deferred → Prop}

/-- how a closure ends -/
def outOf : Res → Option (Exit × Tm × Hp)
  | .fail _ => none
  | .norm tm h => some (.normal, tm, h)
  | .exit id tm h => some (.exit id, tm, h)
  | .ret tm h => some (.ret, tm, h)

/-- a code's closure is sound -/
def CdOk (P : Program) (Dk : Deferred → Prop) (N0 : Nat) (w0 : World) (n xm : Nat) (c : Code) (f : Cd) : Prop :=
  ∀ ih, IhOk P Dk N0 w0 ih → ∀ k tm h e tm' h', outOf (f ih k tm h) = some (e, tm', h') → nextOf h ≤ nextOf h' ∧ ∀ {π : Pm} {w : World} {a : Go.Act}, StRel Dk n xm [] π [] tm a → HRel N0 w0 π h w → Free π (nextOf h) (nextOf h') → ∀ (Q : Exit → Go.Act → World → Prop),
    (∀ π' a' w', StRel Dk n xm [] π' [] tm' a' → HRel N0 w0 π' h' w' → Step π π' h h' w w' → Q e a' w') → c.wp P Q a w

theorem cd_skip {n xm : Nat} {c : Code} (hc : c = .skip ∨ ∃ l, c = .label l) : CdOk P Dk N0 w0 n xm c cSkip := by
  intro ih _ k tm h e tm' h' hrun
  cases hrun
  refine ⟨Nat.le_refl _, fun {π w a} hs hr _ Q hq => ?_⟩
  rcases hc with rfl | ⟨l, rfl⟩
  · exact wp_skip (hq π a w hs hr (Step.refl _ _ _))
  · exact wp_label (hq π a w hs hr (Step.refl _ _ _))
theorem cd_exit {n xm id : Nat} : CdOk P Dk N0 w0 n xm (.exit id) (cExit id) := by
  intro ih _ k tm h e tm' h' hrun
  cases hrun
  exact ⟨Nat.le_refl _, fun {π w a} hs hr _ Q hq => wp_exit (hq π a w hs hr (Step.refl _ _ _))⟩
theorem cd_ret {n xm : Nat} : CdOk P Dk N0 w0 n xm .ret cRet := by
  intro ih _ k tm h e tm' h' hrun
  cases hrun
  exact ⟨Nat.le_refl _, fun {π w a} hs hr _ Q hq => wp_ret (hq π a w hs hr (Step.refl _ _ _))⟩
theorem cd_seq {n xm : Nat} {x y : Code} {f g : Bx} (hx : CdOk P Dk N0 w0 n xm x f.f) (hy : CdOk P Dk N0 w0 n xm y g.f) : CdOk P Dk N0 w0 n xm (.seq x y) (cSeq f g) := by
  intro ih hih k tm h e tm' h' hrun
  unfold cSeq at hrun
  cases ha : f.f ih k tm h with
  | fail m => rw [ha] at hrun; cases hrun
  | norm tm1 h1 =>
    rw [ha] at hrun
    obtain ⟨n1, n2⟩ := hx ih hih k tm h .normal tm1 h1 (by rw [ha]; rfl)
    obtain ⟨m1, m2⟩ := hy ih hih k tm1 h1 e tm' h' hrun
    refine ⟨Nat.le_trans n1 m1, fun {π w a} hs hr hf Q hq => wp_seq ?_⟩
    exact n2 hs hr (hf.sub (Nat.le_refl _) m1) _ fun π' a' w' q1 q2 q3 => m2 q1 q2 (hf.step q3) Q fun π2 a2 w2 r1 r2 r3 => hq π2 a2 w2 r1 r2 (q3.trans r3)
  | exit id tm1 h1 =>
    rw [ha] at hrun
    cases hrun
    obtain ⟨n1, n2⟩ := hx ih hih k tm h (.exit id) _ _ (by rw [ha]; rfl)
    exact ⟨n1, fun {π w a} hs hr hf Q hq => wp_seq (n2 hs hr hf _ fun π' a' w' q1 q2 q3 => hq π' a' w' q1 q2 q3)⟩
  | ret tm1 h1 =>
    rw [ha] at hrun
    cases hrun
    obtain ⟨n1, n2⟩ := hx ih hih k tm h .ret _ _ (by rw [ha]; rfl)
    exact ⟨n1, fun {π w a} hs hr hf Q hq => wp_seq (n2 hs hr hf _ fun π' a' w' q1 q2 q3 => hq π' a' w' q1 q2 q3)⟩

theorem cd_cond {n xm : Nat} {c : Operand} {x y : Code} {gc : Get} {f g : Bx} (hc : opG ⟨xm, []⟩ c = some gc) (hx : CdOk P Dk N0 w0 n xm x f.f) (hy : CdOk P Dk N0 w0 n xm y g.f) : CdOk P Dk N0 w0 n xm (.cond c x y) (cCond gc f g) := by
  intro ih hih k tm h e tm' h' hrun
  unfold cCond at hrun
  split at hrun
  · rename_i t ht
    cases t with
    | true =>
      obtain ⟨n1, n2⟩ := hx ih hih k tm h e tm' h' hrun
      refine ⟨n1, fun {π w a} hs hr hf Q hq => wp_cond (t := true) ?_ (n2 hs hr hf Q hq)⟩
      have := hs.opOk c gc hc _ ht
      cases hv : a.eval c <;> rw [hv] at this <;> cases this; rfl
    | false =>
      obtain ⟨n1, n2⟩ := hy ih hih k tm h e tm' h' hrun
      refine ⟨n1, fun {π w a} hs hr hf Q hq => wp_cond (t := false) ?_ (n2 hs hr hf Q hq)⟩
      have := hs.opOk c gc hc _ ht
      cases hv : a.eval c <;> rw [hv] at this <;> cases this; rfl
  · cases hrun

theorem cd_block {n xm id : Nat} {x : Code} {f : Bx} (hx : CdOk P Dk N0 w0 n xm x f.f) : CdOk P Dk N0 w0 n xm (.block id x) (cBlock id f) := by
  intro ih hih k tm h e tm' h' hrun
  unfold cBlock at hrun
  cases ha : f.f ih k tm h with
  | fail m => rw [ha] at hrun; cases hrun
  | norm tm1 h1 =>
    rw [ha] at hrun; cases hrun
    obtain ⟨n1, n2⟩ := hx ih hih k tm h .normal _ _ (by rw [ha]; rfl)
    exact ⟨n1, fun {π w a} hs hr hf Q hq => wp_block (n2 hs hr hf _ fun π' a' w' q1 q2 q3 => hq π' a' w' q1 q2 q3)⟩
  | exit j tm1 h1 =>
    rw [ha] at hrun
    obtain ⟨n1, n2⟩ := hx ih hih k tm h (.exit j) tm1 h1 (by rw [ha]; rfl)
    simp only [onB_eq] at hrun
    split at hrun
    · rename_i hj
      cases hrun
      have hj' := Nat.eq_of_beq_eq_true hj
      exact ⟨n1, fun {π w a} hs hr hf Q hq => wp_block (n2 hs hr hf _ fun π' a' w' q1 q2 q3 => by
        simp only [Exit.inBlock, hj', if_true]; exact hq π' a' w' q1 q2 q3)⟩
    · rename_i hj
      cases hrun
      have hj' : j ≠ id := fun he => hj (by rw [he]; exact Nat.beq_refl _)
      exact ⟨n1, fun {π w a} hs hr hf Q hq => wp_block (n2 hs hr hf _ fun π' a' w' q1 q2 q3 => by
        simp only [Exit.inBlock, hj', if_false]; exact hq π' a' w' q1 q2 q3)⟩
  | ret tm1 h1 =>
    rw [ha] at hrun; cases hrun
    obtain ⟨n1, n2⟩ := hx ih hih k tm h .ret _ _ (by rw [ha]; rfl)
    exact ⟨n1, fun {π w a} hs hr hf Q hq => wp_block (n2 hs hr hf _ fun π' a' w' q1 q2 q3 => hq π' a' w' q1 q2 q3)⟩
end
end Go.Sx

namespace Go.Sx
section
variable {P : Program} {T : Nat → Option TypeInfo} {E : Env} {N0 : Nat} {w0 : World} {Dk : Deferred → Prop}

/-- one round of a loop, and what comes after it -/
theorem loop_unroll {c : Code} {Q : Exit → Go.Act → World → Prop} {a : Go.Act} {w : World} {I : Go.Act → World → Prop} (hI : ∀ a' w', I a' w' → ∀ b k cs, ∃ e a2 w2, Q e a2 w2 ∧ Arrives P (lone (b.at a' (.code c :: .inLoop c :: k)) cs w') b k cs e a2 w2)
    (h : c.wp P (Exit.then I Q) a w) : ∀ b k cs, ∃ e a2 w2, Q e a2 w2 ∧ Arrives P (lone (b.at a (.code c :: .inLoop c :: k)) cs w) b k cs e a2 w2 := by
  intro b k cs
  obtain ⟨e, a₁, w₁, hq, harr⟩ := h b (.inLoop c :: k) cs
  cases e with
  | normal =>
    obtain ⟨e₂, a₂, w₂, hq₂, harr₂⟩ := hI a₁ w₁ hq b k cs
    exact ⟨e₂, a₂, w₂, hq₂, .of_steps (Steps.trans harr (.one step_inLoop)) harr₂⟩
  | exit id => exact ⟨_, a₁, w₁, hq, .pass (x := .inLoop c) rfl (fun _ _ => .inl (by simp)) harr⟩
  | goto l => exact ⟨_, a₁, w₁, hq, .pass (x := .inLoop c) rfl (fun _ _ => .inl (by simp)) harr⟩
  | ret => exact ⟨_, a₁, w₁, hq, .pass (x := .inLoop c) rfl (fun _ _ => .inl (by simp)) harr⟩
  | panic ch => exact ⟨_, a₁, w₁, hq, .pass (x := .inLoop c) rfl (fun _ _ => .inl (by simp)) harr⟩
  | outgrown => exact ⟨_, a₁, w₁, hq, .pass (x := .inLoop c) rfl (fun _ _ => .inl (by simp)) harr⟩
theorem cd_loop {n xm : Nat} {x : Code} {f : Bx} (hx : CdOk P Dk N0 w0 n xm x f.f) : CdOk P Dk N0 w0 n xm (.loop x) (cLoop f) := by
  intro ih hih K tm h e tm' h' hrun
  have key : ∀ (m : Nat) (tm : Tm) (h : Hp), outOf (Nat.rec (motive := fun _ => Tm → Hp → Res) (fun _ _ => .fail 39)
      (fun q go tm h => match f.f ih q tm h with
        | .norm tm h => go tm h
        | .exit j tm h => .exit j tm h
        | .ret tm h => .ret tm h
        | .fail w => .fail w) m tm h) = some (e, tm', h') → nextOf h ≤ nextOf h' ∧ ∀ {π : Pm} {w : World} {a : Go.Act}, StRel Dk n xm [] π [] tm a → HRel N0 w0 π h w → Free π (nextOf h) (nextOf h') → ∀ (Q : Exit → Go.Act → World → Prop),
        (∀ π' a' w', StRel Dk n xm [] π' [] tm' a' → HRel N0 w0 π' h' w' → Step π π' h h' w w' → Q e a' w') → ∀ b k cs, ∃ e a2 w2, Q e a2 w2 ∧ Arrives P (lone (b.at a (.code x :: .inLoop x :: k)) cs w) b k cs e a2 w2 := by
    intro m
    induction m with
    | zero => intro tm h hr; cases hr
    | succ m IH =>
      intro tm h hr
      simp only at hr
      cases ha : f.f ih m tm h with
      | fail _ => rw [ha] at hr; cases hr
      | norm tm1 h1 =>
        rw [ha] at hr
        obtain ⟨n1, n2⟩ := hx ih hih m tm h .normal tm1 h1 (by rw [ha]; rfl)
        obtain ⟨m1, m2⟩ := IH tm1 h1 hr
        refine ⟨Nat.le_trans n1 m1, fun {π w a} hs hr hf Q hq => ?_⟩
        refine loop_unroll (I := fun a' w' => ∀ b k cs, ∃ e a2 w2, Q e a2 w2 ∧ Arrives P (lone (b.at a' (.code x :: .inLoop x :: k)) cs w') b k cs e a2 w2) (fun _ _ h => h) ?_
        exact n2 hs hr (hf.sub (Nat.le_refl _) m1) _ fun π' a' w' q1 q2 q3 => m2 q1 q2 (hf.step q3) Q fun π2 a2 w2 r1 r2 r3 => hq π2 a2 w2 r1 r2 (q3.trans r3)
      | exit id tm1 h1 =>
        rw [ha] at hr; cases hr
        obtain ⟨n1, n2⟩ := hx ih hih m tm h (.exit id) _ _ (by rw [ha]; rfl)
        exact ⟨n1, fun {π w a} hs hr hf Q hq => loop_unroll (I := fun _ _ => False) (fun _ _ h => h.elim) (n2 hs hr hf _ fun π' a' w' q1 q2 q3 => hq π' a' w' q1 q2 q3)⟩
      | ret tm1 h1 =>
        rw [ha] at hr; cases hr
        obtain ⟨n1, n2⟩ := hx ih hih m tm h .ret _ _ (by rw [ha]; rfl)
        exact ⟨n1, fun {π w a} hs hr hf Q hq => loop_unroll (I := fun _ _ => False) (fun _ _ h => h.elim) (n2 hs hr hf _ fun π' a' w' q1 q2 q3 => hq π' a' w' q1 q2 q3)⟩
  unfold cLoop at hrun
  obtain ⟨k1, k2⟩ := key K tm h hrun
  refine ⟨k1, fun {π w a} hs hr hf Q hq b k cs => ?_⟩
  obtain ⟨e2, a2, w2, q, harr⟩ := k2 hs hr hf Q hq b k cs
  exact ⟨e2, a2, w2, q, .of_steps (.one step_loop) harr⟩
end
end Go.Sx

namespace Go.Sx
section
variable {P : Program} {T : Nat → Option TypeInfo} {E : Env} {N0 : Nat} {w0 : World} {Dk : Deferred → Prop}

/-- a region's closure fails, or ends as a region does -/
def Plain (r : Rg) : Prop := ∀ ih loc tm h, (∃ n, r ih loc tm h = .fail n) ∨ ∃ tm' h', r ih loc tm h = .norm tm' h'

theorem put_call {xm : Nat} {dst : Option Nat} {p : Option Put} (hp : PutOk xm dst p) (v : AV) (tm : Tm) (K : Tm → Res) : (onO pNone (fun p => p) p) v tm K = K (putTm p dst v tm) := by
  cases dst with
  | none => have : p = none := hp; subst this; rfl
  | some t =>
    rcases hp with ⟨_, rfl⟩ | ⟨_, rfl⟩
    · exact putC_put 5 t v tm K
    · rfl

theorem mkOp_plain {act : Act} {p : Option Put} {g : Option (Get × Bool)} {r : Rg} {xm : Nat} {dst : Option Nat} (hp : PutOk xm dst p) (hr : Plain r) : Plain (mkOp act p g r).r := by
  have h1 : Plain (rCons act (onO pNone (fun p => p) p) r) := by
    intro ih loc tm h
    unfold rCons
    cases act ih loc tm h with
    | fail n => exact .inl ⟨n, rfl⟩
    | ok v h1 => simp only [onS_ok, put_call hp]; exact hr _ _ _ _
  have h2 : Plain (rPush act r) := by
    intro ih loc tm h
    unfold rPush
    cases act ih loc tm h with
    | fail n => exact .inl ⟨n, rfl⟩
    | ok v h1 => exact hr _ _ _ _
  cases g with
  | none =>
    cases p with
    | none => exact h2
    | some p => exact h1
  | some gw =>
    obtain ⟨g, w⟩ := gw
    have h3 : Plain (rGuard g w act (onO pNone (fun p => p) p) r) := by
      intro ih loc tm h
      unfold rGuard
      split
      · rw [onB_eq]
        split
        · cases act ih loc tm h with
          | fail n => exact .inl ⟨n, rfl⟩
          | ok v h1 => simp only [onS_ok, put_call hp]; exact hr _ _ _ _
        · rw [put_call hp]; exact hr _ _ _ _
      · rw [put_call hp]; exact hr _ _ _ _
      · exact .inl ⟨_, rfl⟩
    cases p <;> exact h3

theorem bad_plain (n : Nat) (r : Rg) : Plain (rPush (aBad n) r) := fun _ _ _ _ => .inl ⟨_, rfl⟩

theorem regC_plain (xm : Nat) (ops : Array Oper) : ∀ (os : List Oper) (ds : List (Option Nat)), Plain (regC T E xm ops.toList ds os).r
  | [], ds => fun ih loc tm h => .inr ⟨tm, h, rfl⟩
  | o :: os, ds => by
    have IH := regC_plain xm ops os (o.dst :: ds)
    unfold regC
    cases hreg : regC T E xm ops.toList (o.dst :: ds) os with
    | mk r =>
      rw [hreg] at IH
      simp only at IH ⊢
      split
      · rename_i act hact
        obtain ⟨p, hp, hpe⟩ := dstC_ok (xm := xm) (dst := o.dst) (fun p => guardC ⟨xm, ds⟩ ops.toList o.guard (fun g => mkOp act p g r) ⟨rPush (aBad 1) r⟩)
        rw [hpe]
        rcases guardC_ok ⟨xm, ds⟩ ops o.guard (fun g => mkOp act p g r) ⟨rPush (aBad 1) r⟩ with ⟨gO, _, hge⟩ | hge
        · rw [hge]; exact mkOp_plain hp IH
        · rw [hge]; exact bad_plain 1 r
      · exact bad_plain 0 r

theorem cd_region (S : Setup P T E N0 w0 Dk) {n xm id : Nat} (ops : Array Oper) (hd : ∀ o ∈ ops.toList, ∀ t, o.dst = some t → t < n) : CdOk P Dk N0 w0 n xm (.region id ops false) (cReg (regC T E xm ops.toList [] ops.toList).r) := by
  intro ih hih k tm h e tm' h' hrun
  unfold cReg at hrun
  rcases regC_plain (T := T) (E := E) xm ops ops.toList [] ih [] tm h with ⟨m, hm⟩ | ⟨tm1, h1, hm⟩
  · rw [hm] at hrun; cases hrun
  · rw [hm] at hrun
    cases hrun
    obtain ⟨k1, k2⟩ := reg_ok S hih (xm := xm) ops hd ops.toList [] rfl [] tm _ h _ hm
    refine ⟨k1, fun {π w a} hs hr hf Q hq => wp_region ?_⟩
    have := k2 hs hr hf Q hq
    rw [List.range_eq_range']
    simpa using this
end
end Go.Sx

namespace Go.Sx
section
variable {P : Program} {T : Nat → Option TypeInfo} {E : Env} {N0 : Nat} {w0 : World} {Dk : Deferred → Prop}

theorem cd_scope {n xm : Nat} {x : Code} {f : Cd} (hx : CdOk P Dk N0 w0 n xm x f) : CdOk P Dk N0 w0 n xm (.scope x) f := by
  intro ih hih k tm h e tm' h' hrun
  obtain ⟨n1, n2⟩ := hx ih hih k tm h e tm' h' hrun
  refine ⟨n1, fun {π w a} hs hr hf Q hq => wp_scope_straight (n2 hs hr hf _ fun π' a' w' q1 q2 q3 => ?_)⟩
  have := hq π' a' w' q1 q2 q3
  cases hres : f ih k tm h with
  | fail m => rw [hres] at hrun; cases hrun
  | norm t u => rw [hres] at hrun; cases hrun; exact this
  | exit id t u => rw [hres] at hrun; cases hrun; exact this
  | ret t u => rw [hres] at hrun; cases hrun; exact this

theorem cd_bad {n xm m : Nat} {c : Code} : CdOk P Dk N0 w0 n xm c (cBad m) := by
  intro ih _ k tm h e tm' h' hrun
  cases hrun

/-- every destination of a code's operations is a temporary of the function -/
def dstsIn (n : Nat) : Code → Bool
  | .region _ ops _ => ops.toList.all fun o => match o.dst with | some t => Nat.blt t n | none => true
  | .seq a b => dstsIn n a && dstsIn n b
  | .cond _ a b => dstsIn n a && dstsIn n b
  | .block _ a => dstsIn n a
  | .loop a => dstsIn n a
  | .scope a => dstsIn n a
  | _ => true

theorem dsts_region {n id : Nat} {ops : Array Oper} {d : Bool} (h : dstsIn n (.region id ops d) = true) : ∀ o ∈ ops.toList, ∀ t, o.dst = some t → t < n := by
  intro o ho t ht
  have := List.all_eq_true.1 h o ho
  rw [ht] at this
  exact Nat.lt_of_succ_le (by simpa [Nat.blt] using this)

/-- a function's body: but for its drawn regions -/
theorem codeOf_ok (S : Setup P T E N0 w0 Dk) {n xm : Nat} (hdraw : ∀ id (ops : Array Oper), (∀ o ∈ ops.toList, ∀ t, o.dst = some t → t < n) → CdOk P Dk N0 w0 n xm (.region id ops true) (codeOf T E xm (.region id ops true)).f) : ∀ (c : Code), dstsIn n c = true → CdOk P Dk N0 w0 n xm c (codeOf T E xm c).f
  | .skip, _ => cd_skip (.inl rfl)
  | .region id ops true, h => hdraw id ops (dsts_region h)
  | .region id ops false, h => by
    have := cd_region S (xm := xm) (id := id) ops (dsts_region h)
    unfold codeOf
    simp only [onB_false]
    exact this
  | .seq a b, h => by
    unfold dstsIn at h
    rw [Bool.and_eq_true] at h
    exact cd_seq (codeOf_ok S hdraw a h.1) (codeOf_ok S hdraw b h.2)
  | .cond c a b, h => by
    unfold dstsIn at h
    rw [Bool.and_eq_true] at h
    unfold codeOf
    rw [opnC_nat]
    cases hg : opG ⟨xm, []⟩ c with
    | none => exact cd_bad
    | some g => exact cd_cond hg (codeOf_ok S hdraw a h.1) (codeOf_ok S hdraw b h.2)
  | .block id a, h => cd_block (codeOf_ok S hdraw a h)
  | .loop a, h => cd_loop (codeOf_ok S hdraw a h)
  | .exit id, _ => cd_exit
  | .ret, _ => cd_ret
  | .label l, _ => cd_skip (.inr ⟨l, rfl⟩)
  | .scope a, h => cd_scope (codeOf_ok S hdraw a h)
  | .goto _, _ => cd_bad
  | .rangeFunc .., _ => cd_bad
  | .refuse _, _ => cd_bad
end
end Go.Sx

namespace Go.Sx
section
variable {P : Program} {T : Nat → Option TypeInfo} {E : Env} {N0 : Nat} {w0 : World} {Dk : Deferred → Prop}

/-- the first temporaries are the arguments -/
theorem argTm_ok {β : Type} (args : List AV) (K : Tm → β) : ∃ tm, argTm args K = K tm ∧ ∀ t v, getN 5 tm t = some v → args[t]? = some v := by
  have e4 : ∀ k, getN 4 (emp AV 4) k = none := get_emp 4
  have e3 : ∀ k, getN 3 (emp AV 3) k = none := get_emp 3
  match args with
  | [] => exact ⟨e5, rfl, fun t v h => by rw [show e5 = emp AV 5 from rfl, get_emp] at h; cases h⟩
  | [a] =>
    refine ⟨_, rfl, fun t v h => ?_⟩
    cases t with
    | zero => exact h
    | succ m =>
      rw [getN_on] at h
      rcases mod4 m with hm | hm | hm | hm <;> (simp only [hm, sel4_0, sel4_1, sel4_2, sel4_3] at h; rw [e4] at h; cases h)
  | [a, b] =>
    refine ⟨_, rfl, fun t v h => ?_⟩
    cases t with
    | zero => exact h
    | succ m =>
      rw [getN_on] at h
      rcases mod4 m with hm | hm | hm | hm
      · simp only [hm, sel4_0] at h
        cases hq : m / 4 with
        | zero =>
          rw [hq] at h
          have : m = 0 := by omega
          subst this
          exact h
        | succ q =>
          rw [hq, getN_on] at h
          rcases mod4 q with hk | hk | hk | hk <;> (simp only [hk, sel4_0, sel4_1, sel4_2, sel4_3] at h; rw [e3] at h; cases h)
      all_goals (simp only [hm, sel4_1, sel4_2, sel4_3] at h; rw [e4] at h; cases h)
  | a :: b :: c :: r =>
    refine ⟨setLP 5 (a :: b :: c :: r) 0 e5, setL_eq _ _ _ _ _, fun t v h => ?_⟩
    rcases get_setL _ _ _ _ _ _ h with ⟨_, h2⟩ | ⟨_, h2⟩
    · simpa using h2
    · rw [show e5 = emp AV 5 from rfl, get_emp] at h2; cases h2

/-- what a result's closure gives -/
def ResOk (P : Program) (Dk : Deferred → Prop) (N0 : Nat) (w0 : World) (n xm : Nat) (r : ResultVar) (g : Tm → Hp → Option AV) : Prop :=
  ∀ tm h v, g tm h = some v → ∀ {π : Pm} {w : World} {a : Go.Act}, StRel Dk n xm [] π [] tm a → HRel N0 w0 π h w →
    ∃ v', ((match r with | .tmp t => pure (a.tmps.getD t undef) | .cell x t => do loadVar t (← asAddr (a.tmps.getD x undef)) : Sem Value).run P w = .ok v' w) ∧ VR π v v'

theorem res_tmp {n xm t : Nat} {g : Get} (hg : opG ⟨xm, []⟩ (.tmp t) = some g) : ResOk P Dk N0 w0 n xm (.tmp t) (lTmp g) := by
  intro tm h v hv π w a hs hr
  obtain ⟨v', h1, h2⟩ := hs.tmp hg hv
  exact ⟨v', by simp [Array.getD_eq_getD_getElem?, h1], h2⟩

theorem res_cell (S : Setup P T E N0 w0 Dk) {n xm x t : Nat} {g : Get} (hg : opG ⟨xm, []⟩ (.tmp x) = some g) {m : Option Nat}
    (hm : (aggOf T t = some true ∧ ∃ k, szOf T t = some k ∧ m = some k) ∨ (aggOf T t = some false ∧ m = none)) : ResOk P Dk N0 w0 n xm (.cell x t) (lCell E g m) := by
  intro tm h v hv π w a hs hr
  unfold lCell at hv
  cases ha : g [] tm with
  | none => rw [ha] at hv; cases hv
  | some av =>
    rw [ha] at hv
    obtain ⟨a', h1, h2⟩ := hs.tmp hg ha
    have e : a.tmps.getD x undef = a' := by simp [Array.getD_eq_getD_getElem?, h1]
    rcases hm with ⟨hagg, k, hk, rfl⟩ | ⟨hagg, rfl⟩
    · simp only at hv
      cases hc : cellsAt E h k av with
      | none => rw [hc] at hv; cases hv
      | some vs =>
        rw [hc] at hv; cases hv
        obtain ⟨b, off, vs', k1, k2, k3, k4, k5⟩ := cellsAt_ok S hr h2 hc
        refine ⟨.agg vs'.toArray, ?_, VR.agg_mk k3 k5⟩
        have hl : vs'.length = k := by rw [← k3.1, k2]
        have := run_loadCells_list (P := P) w ⟨b, off, none⟩ vs' k4
        rw [hl] at this
        simp [e, k1, asAddr, loadVar, run_isAgg' S hagg, run_sizeOf' S hk, this]
    · simp only at hv
      obtain ⟨p, v', k1, k2, k3, k4, k5⟩ := cellAt_ok S hr h2 hv
      refine ⟨v', ?_, k4⟩
      simp [e, k1, asAddr, loadVar, run_isAgg' S hagg, k3]

/-- the closures of a list of results -/
inductive Ress (P : Program) (Dk : Deferred → Prop) (N0 : Nat) (w0 : World) (n xm : Nat) : List ResultVar → List (Tm → Hp → Option AV) → Prop
  | nil : Ress P Dk N0 w0 n xm [] []
  | cons {r : ResultVar} {g : Tm → Hp → Option AV} {rs : List ResultVar} {gs : List (Tm → Hp → Option AV)} : ResOk P Dk N0 w0 n xm r g → Ress P Dk N0 w0 n xm rs gs → Ress P Dk N0 w0 n xm (r :: rs) (g :: gs)

theorem resK_ok (S : Setup P T E N0 w0 Dk) {n xm : Nat} : ∀ (rs : List ResultVar) {γ : Type} {K : List (Tm → Hp → Option AV) → Option γ} {a : γ}, resK T E xm K none rs = some a → ∃ gs, Ress P Dk N0 w0 n xm rs gs ∧ K gs = some a
  | [], _, K, a, h => ⟨[], .nil, h⟩
  | .tmp t :: rs, _, K, a, h => by
    unfold resK at h
    obtain ⟨g, hg, h⟩ := opn1 h
    obtain ⟨gs, h1, h2⟩ := resK_ok S rs h
    exact ⟨_, .cons (res_tmp hg) h1, h2⟩
  | .cell x t :: rs, _, K, a, h => by
    unfold resK at h
    obtain ⟨g, hg, h⟩ := opn1 h
    split at h
    · rename_i hagg
      split at h
      · rename_i k hk
        obtain ⟨gs, h1, h2⟩ := resK_ok S rs h
        exact ⟨_, .cons (res_cell S hg (.inl ⟨hagg, k, hk, rfl⟩)) h1, h2⟩
      · cases h
    · rename_i hagg
      obtain ⟨gs, h1, h2⟩ := resK_ok S rs h
      exact ⟨_, .cons (res_cell S hg (.inr ⟨hagg, rfl⟩)) h1, h2⟩
    · cases h

theorem lAll_ok {n xm : Nat} {rs : List ResultVar} {gs : List (Tm → Hp → Option AV)} (hg : Ress P Dk N0 w0 n xm rs gs) {tm : Tm} {h : Hp} : ∀ {vs : List AV}, lAll gs tm h = some vs → ∀ {π : Pm} {w : World} {a : Go.Act}, StRel Dk n xm [] π [] tm a → HRel N0 w0 π h w →
    ∃ vs', (rs.mapM (m := Sem) (fun | .tmp t => pure (a.tmps.getD t undef) | .cell x t => do loadVar t (← asAddr (a.tmps.getD x undef)))).run P w = .ok vs' w ∧ VRs π vs vs' := by
  induction hg with
  | nil => intro vs hv π w a hs hr; cases hv; exact ⟨[], by simp, .nil⟩
  | cons h1 _ ih =>
    rename_i r g rs gs _
    intro vs hv π w a hs hr
    unfold lAll at hv
    cases hgv : g tm h with
    | none => rw [hgv] at hv; cases hv
    | some v =>
      rw [hgv] at hv
      simp only at hv
      cases hl : lAll gs tm h with
      | none => rw [hl] at hv; cases hv
      | some us =>
        rw [hl] at hv; cases hv
        obtain ⟨v', k1, k2⟩ := h1 tm h v hgv hs hr
        obtain ⟨us', k3, k4⟩ := ih hl hs hr
        refine ⟨v' :: us', ?_, .cons k2 k4⟩
        rw [List.mapM_cons]
        simp only [Sem.run_bind, k1, Result.andThen_ok, k3, Sem.run_pure]

/-- what a function's end gives -/
def LeaveOk (P : Program) (Dk : Deferred → Prop) (N0 : Nat) (w0 : World) (n xm : Nat) (fn : Func) (leave : Tm → Hp → Sr) : Prop :=
  ∀ tm h v h', leave tm h = .ok v h' → h' = h ∧ ∀ {π : Pm} {w : World} {a : Go.Act}, StRel Dk n xm [] π [] tm a → HRel N0 w0 π h w → ∃ v', (results fn a.tmps).run P w = .ok v' w ∧ VR π v v'

theorem leave_one {n xm t : Nat} {fn : Func} {g : Get} (hr : fn.results.toList = [.tmp t]) (hg : opG ⟨xm, []⟩ (.tmp t) = some g) : LeaveOk P Dk N0 w0 n xm fn (lOne g) := by
  intro tm h v h' hrun
  unfold lOne at hrun
  obtain ⟨v1, hv, hrun⟩ := onO_ok hrun
  cases hrun
  refine ⟨rfl, fun {π w a} hs _ => ?_⟩
  obtain ⟨v', h1, h2⟩ := hs.tmp hg hv
  have hr' : fn.results = #[.tmp t] := by rw [← Array.toArray_toList (xs := fn.results), hr]
  exact ⟨v', by rw [results_tmp hr']; simp [Array.getD_eq_getD_getElem?, h1], h2⟩

theorem leave_mix {n xm : Nat} {fn : Func} {gs : List (Tm → Hp → Option AV)} (hg : Ress P Dk N0 w0 n xm fn.results.toList gs) : LeaveOk P Dk N0 w0 n xm fn (lMix gs) := by
  intro tm h v h' hrun
  unfold lMix at hrun
  cases hl : lAll gs tm h with
  | none => rw [hl] at hrun; cases hrun
  | some vs =>
    rw [hl] at hrun
    have key : h' = h ∧ ((∃ x, vs = [x] ∧ v = x) ∨ ((∀ x, vs ≠ [x]) ∧ v = .tup vs)) := by
      clear hl
      match vs, hrun with
      | [], hrun => cases hrun; exact ⟨rfl, .inr ⟨by simp, rfl⟩⟩
      | [_], hrun => cases hrun; exact ⟨rfl, .inl ⟨_, rfl, rfl⟩⟩
      | x :: y :: zs, hrun => cases hrun; exact ⟨rfl, .inr ⟨by simp, rfl⟩⟩
    clear hrun
    refine ⟨key.1, fun {π w a} hs hr => ?_⟩
    obtain ⟨vs', h1, h2⟩ := lAll_ok hg hl hs hr
    have e : (results fn a.tmps).run P w = .ok (if h : vs'.toArray.size = 1 then vs'.toArray[0] else .tuple vs'.toArray) w := by
      unfold results
      rw [Sem.run_bind, ← Array.toArray_toList (xs := fn.results), List.mapM_toArray]
      simp only [map_eq_pure_bind, Sem.run_bind, Sem.run_pure]
      erw [h1]
      rfl
    refine ⟨_, e, ?_⟩
    obtain ⟨hl, hv⟩ := h2
    rcases key.2 with ⟨x, rfl, rfl⟩ | ⟨hne, rfl⟩
    · match vs', hl, hv with
      | [y], _, hv => exact hv 0 _ y rfl rfl
    · have h1' : vs'.toArray.size ≠ 1 := fun hh => by
        have : vs.length = 1 := by rw [hl]; simpa using hh
        obtain ⟨x, hx⟩ := List.length_eq_one_iff.1 this
        exact hne x hx
      rw [dif_neg h1']
      exact VR.tup_mk ⟨hl, hv⟩
end
end Go.Sx

namespace Go.Sx
section
variable {P : Program} {T : Nat → Option TypeInfo} {E EF : Env} {N0 : Nat} {w0 : World} {Dk : Deferred → Prop}

theorem CallsD.mono {f : FuncId} {args : Array Value} {u : FrameMode} {w : World} {R R' : Ending → FrameMode → World → Prop} (h : CallsD P f args u w R) (hr : ∀ e u' w', R e u' w' → R' e u' w') : CallsD P f args u w R' :=
  fun c cs hc => let ⟨e, u', w', fr, r, rest⟩ := h c cs hc; ⟨e, u', w', fr, hr _ _ _ r, rest⟩

/-- a deferred call does nothing where nothing panics -/
def DkOk (P : Program) (Dk : Deferred → Prop) : Prop := ∀ d, Dk d → ∀ w, ∃ fv cap f args, d.target = .fn fv cap ∧ (invoke d.target d.args).run P w = .ok (.enter f args) w ∧
  CallsD P f args .returning w fun e u' w' => (∃ v, e = .returned v) ∧ settle u' = .returning ∧ w' = w

theorem leaves_ok (D : DkOk P Dk) {fn : Func} {tmps : Array Value} {R : Ending → World → Prop} {w : World} {v : Value} (hr : (results fn tmps).run P w = .ok v w) (hR : R (.returned v) w) : ∀ (ds : List Deferred), (∀ d ∈ ds, Dk d) → Leaves P fn tmps R ds .returning w
  | [], _ => ⟨v, hr, hR⟩
  | d :: ds, hd => by
    obtain ⟨fv, cap, f, args, h1, h2, h3⟩ := D d (hd d (by simp)) w
    refine ⟨by simp, fv, cap, f, args, h1, h2, h3.mono fun e u' w' hh => ?_⟩
    obtain ⟨⟨x, rfl⟩, h4, rfl⟩ := hh
    simp only [h4]
    exact leaves_ok D hr hR ds (fun d hd' => hd d (by simp [hd']))

/-- a function's closure, and what it is made of -/
theorem fnOf_inv (S : Setup P T E N0 w0 Dk) {fn : Func} {F : IFn} (h : fnOf T E fn = some F) : ∃ c m, fn.body = some c ∧ F.body = codeOf T E m c ∧ LeaveOk P Dk N0 w0 fn.ntmps m fn F.leave := by
  unfold fnOf at h
  split at h
  · rename_i c hc
    simp only [natK_eq] at h
    split at h
    · rename_i t ht
      obtain ⟨g, hg, h⟩ := opn1 h
      cases h
      exact ⟨c, _, hc, rfl, leave_one ht hg⟩
    · rename_i rs _
      obtain ⟨gs, h1, h2⟩ := resK_ok (P := P) (Dk := Dk) (N0 := N0) (w0 := w0) (n := fn.ntmps) S _ h
      cases h2
      exact ⟨c, _, hc, rfl, leave_mix h1⟩
  · cases h

/-- what a function outside of the text is to us -/
def ExtOk (P : Program) (Dk : Deferred → Prop) (N0 : Nat) (w0 : World) (f : Nat) (g : List AV → Hp → Sr) : Prop :=
  ∀ args h v h', g args h = .ok v h' → nextOf h ≤ nextOf h' ∧ ∀ π w args', VRs π args args' → HRel N0 w0 π h w → Free π (nextOf h) (nextOf h') →
    Doo P Dk (callFunc f args'.toArray) w (Post N0 w0 π h w v h')

/-- drawn regions of a function -/
def DrawOk (P : Program) (T : Nat → Option TypeInfo) (E : Env) (N0 : Nat) (w0 : World) (Dk : Deferred → Prop) : Prop :=
  ∀ n xm id (ops : Array Oper), (∀ o ∈ ops.toList, ∀ t, o.dst = some t → t < n) → CdOk P Dk N0 w0 n xm (.region id ops true) (codeOf T E xm (.region id ops true)).f

def fnDsts (fn : Func) : Bool := match fn.body with
  | some c => dstsIn fn.ntmps c
  | none => true

structure FnsOk (P : Program) (T : Nat → Option TypeInfo) (E EF : Env) (N0 : Nat) (w0 : World) (Dk : Deferred → Prop) : Prop where
  fn : ∀ f F, EF.fn f = some F → ∃ fn, P.funcs[f]? = some fn ∧ fnOf T E fn = some F ∧ fnDsts fn = true ∧ (fn.name == "runtime.NumGoroutine") = false
  ext : ∀ f g, EF.ext f = some g → ExtOk P Dk N0 w0 f g

theorem run_callFunc {f : FuncId} {fn : Func} {args : Array Value} {w : World} (hf : P.funcs[f]? = some fn) (hn : (fn.name == "runtime.NumGoroutine") = false) {c : Code} (hb : fn.body = some c) : (callFunc f args).run P w = .ok (.enter f args) w := by
  have hn' : ¬ fn.name = "runtime.NumGoroutine" := by simpa using hn
  simp [callFunc, hf, hn', hb, Sem.run_bind]

theorem fn_ok (S : Setup P T E N0 w0 Dk) (D : DkOk P Dk) (R : DrawOk P T E N0 w0 Dk) {f : Nat} {fn : Func} {F : IFn} (hf : P.funcs[f]? = some fn) (hn : (fn.name == "runtime.NumGoroutine") = false) (hF : fnOf T E fn = some F) (hd : fnDsts fn = true) {ih : Ih} (hih : IhOk P Dk N0 w0 ih) (k : Nat)
    {args : List AV} {h : Hp} {v : AV} {h' : Hp} (hrun : argTm args (fun tm => match F.body.f ih k tm h with
      | .norm tm h => F.leave tm h
      | .ret tm h => F.leave tm h
      | .exit _ _ _ => .fail 41
      | .fail w => .fail w) = .ok v h') : nextOf h ≤ nextOf h' ∧ ∀ π w args', VRs π args args' → HRel N0 w0 π h w → Free π (nextOf h) (nextOf h') →
    Doo P Dk (callFunc f args'.toArray) w (Post N0 w0 π h w v h') := by
  obtain ⟨c, m, hc, hbody, hleave⟩ := fnOf_inv S hF
  obtain ⟨tm, he, htm⟩ := argTm_ok args (fun tm => match F.body.f ih k tm h with
      | .norm tm h => F.leave tm h
      | .ret tm h => F.leave tm h
      | .exit _ _ _ => .fail 41
      | .fail w => .fail w)
  rw [he] at hrun
  clear he
  have hcd : CdOk P Dk N0 w0 fn.ntmps m c F.body.f := by
    rw [hbody]
    unfold fnDsts at hd
    rw [hc] at hd
    exact codeOf_ok S (fun id ops ho => R fn.ntmps m id ops ho) c hd
  have key : ∃ e tm1 h1, (e = .normal ∨ e = .ret) ∧ outOf (F.body.f ih k tm h) = some (e, tm1, h1) ∧ F.leave tm1 h1 = .ok v h' := by
    cases hb : F.body.f ih k tm h with
    | fail n => rw [hb] at hrun; cases hrun
    | exit id t u => rw [hb] at hrun; cases hrun
    | norm t u => rw [hb] at hrun; exact ⟨.normal, t, u, .inl rfl, rfl, hrun⟩
    | ret t u => rw [hb] at hrun; exact ⟨.ret, t, u, .inr rfl, rfl, hrun⟩
  obtain ⟨e, tm1, h1, hee, hout, hlv⟩ := key
  obtain ⟨n1, n2⟩ := hcd ih hih k tm h e tm1 h1 hout
  obtain ⟨rfl, l2⟩ := hleave tm1 h1 v h' hlv
  refine ⟨n1, fun π w args' hv hr hfree => ?_⟩
  unfold Doo
  rw [run_callFunc hf hn hc]
  refine calls_of_wp_defers hf hc (n2 (a := { tmps := args'.toArray ++ Array.replicate (fn.ntmps - args'.toArray.size) undef, defers := [] }) ⟨by simp; omega, fun t x _ h2 => ?_, fun i t x h1 h2 => by simp at h2, fun d hd => by simp at hd⟩ hr hfree _ fun π' a' w' q1 q2 q3 => ?_)
  · obtain ⟨v', k1, k2⟩ := hv.get (htm t x h2)
    refine ⟨v', ?_, k2⟩
    have hlt : t < args'.length := (List.getElem?_eq_some_iff.1 k1).1
    simp only
    rw [Array.getElem?_append_left (by simpa using hlt)]
    simpa using k1
  · obtain ⟨v', k1, k2⟩ := l2 q1 q2
    have := leaves_ok D (R := fun e w'' => ∃ v', e = .returned v' ∧ Post N0 w0 π h w v h' v' w'') k1 ⟨v', rfl, π', k2, q2, q3⟩ a'.defers q1.defs
    rcases hee with rfl | rfl <;> exact this

/-- a run of the closures is a run of the model -/
theorem run_ok (S : Setup P T E N0 w0 Dk) (D : DkOk P Dk) (R : DrawOk P T E N0 w0 Dk) (FS : FnsOk P T E EF N0 w0 Dk) : ∀ n, IhOk P Dk N0 w0 (run EF n)
  | 0 => fun f args h v h' hrun => by cases hrun
  | n + 1 => fun f args h v h' hrun => by
    have IH := run_ok S D R FS n
    change callF EF (run EF n) n f args h = .ok v h' at hrun
    unfold callF at hrun
    split at hrun
    · rename_i F hF
      obtain ⟨_, hrun⟩ := onB_ok hrun
      obtain ⟨fn, h1, h2, h3, h4⟩ := FS.fn f F hF
      exact fn_ok S D R h1 h4 h2 h3 IH n hrun
    · split at hrun
      · rename_i g hg
        exact FS.ext f g hg args h v h' hrun
      · cases hrun
end
end Go.Sx
