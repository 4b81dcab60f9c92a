/-
  The executor's pure operations answer as the model's do, for every program.
-/
import Derived.Test.YtjliobdjggmfeaaGreatDoorK1
import Derived.Laws.StructEq
import Derived.IntWalk
set_option linter.unusedVariables false
set_option linter.unusedSimpArgs false
namespace Go.Sx
section
variable {P : Program} {T : Nat → Option TypeInfo} {E : Env} {N0 : Nat} {w0 : World} {Dk : Deferred → Prop}

theorem onO1 {α β : Type} {o : Option α} {K : α → Option β} {a : β} (h : onO none K o = some a) : ∃ x, o = some x ∧ K x = some a := by
  cases o with
  | none => cases h
  | some x => exact ⟨x, rfl, h⟩
theorem onB1 {β : Type} {b : Bool} {x : Option β} {a : β} (h : onB b x none = some a) : b = true ∧ x = some a := by
  cases b with
  | false => cases h
  | true => exact ⟨rfl, h⟩
theorem opn1 {cx : Ctx} {x : Operand} {β : Type} {K : Get → Option β} {a : β} (h : opnC cx x K none = some a) : ∃ g, opG cx x = some g ∧ K g = some a := by
  rw [opnC_nat] at h; exact onO1 h
theorem opns1 {cx : Ctx} {xs : List Operand} {β : Type} {K : List Get → Option β} {a : β} (h : opnsC cx K none xs = some a) : ∃ gs, opGs cx xs = some gs ∧ K gs = some a := by
  rw [opnsC_nat] at h; exact onO1 h
theorem opnO1 {cx : Ctx} {x : Option Operand} {β : Type} {K : Option Get → Option β} {a : β} (h : opnO cx x K none = some a) : ∃ g, opGO cx x = some g ∧ K g = some a := by
  rw [opnO_nat] at h; exact onO1 h

/-- the outcome of a word on what may be missing -/
theorem onO_ok {α : Type} {n : Nat} {k : α → Sr} {o : Option α} {v : AV} {h' : Hp} (h : onO (.fail n) k o = .ok v h') : ∃ x, o = some x ∧ k x = .ok v h' := by
  cases o with
  | none => cases h
  | some x => exact ⟨x, rfl, h⟩
theorem onB_ok {n : Nat} {b : Bool} {s : Sr} {v : AV} {h' : Hp} (h : onB b s (.fail n) = .ok v h') : b = true ∧ s = .ok v h' := by
  cases b with
  | false => cases h
  | true => exact ⟨rfl, h⟩

theorem evs_ok {cx : Ctx} {π : Pm} {loc : List AV} {tm : Tm} {ρ : Operand → Value} : ∀ {xs : List Operand} {gs : List Get} {vs : List AV}, opGs cx xs = some gs → (∀ x ∈ xs, OpOk cx π loc tm ρ x) → evs loc tm gs = some vs → VRs π vs (xs.map ρ)
  | [], gs, vs, hg, _, hv => by cases hg; cases hv; exact .nil
  | x :: xs, gs, vs, hg, ho, hv => by
    rw [opGs_cons] at hg
    obtain ⟨g, h1, hg⟩ := onO1 hg
    obtain ⟨gs', h2, hg⟩ := onO1 hg
    cases hg
    simp only [evs] at hv
    cases hgv : g loc tm with
    | none => rw [hgv] at hv; cases hv
    | some v =>
      rw [hgv] at hv
      simp only at hv
      cases hgs : evs loc tm gs' with
      | none => rw [hgs] at hv; cases hv
      | some r =>
        rw [hgs] at hv
        cases hv
        exact .cons (ho x (by simp) g h1 v hgv) (evs_ok h2 (fun y hy => ho y (by simp [hy])) hgs)

/-- an operation that leaves memory alone -/
theorem pure_ok {cx : Ctx} {op : Op} {a : Act} (hs : ∀ ih loc tm h v h', a ih loc tm h = .ok v h' → h' = h ∧ ∀ π w (ρ : Operand → Value) (o : Oper), o.op = op → (∀ x ∈ op.operands.toList, OpOk cx π loc tm ρ x) → HRel N0 w0 π h w →
    ∃ v', (execOp ρ o).run P w = .ok (.value v') w ∧ VR π v v') : ActOk P Dk N0 w0 cx op a := by
  intro ih _ loc tm h v h' hrun
  obtain ⟨rfl, hk⟩ := hs ih loc tm h v h' hrun
  refine ⟨Nat.le_refl _, fun π w ρ o ho hops hr _ => ?_⟩
  obtain ⟨v', h1, h2⟩ := hk π w ρ o ho hops hr
  exact .value h1 (.same hr h2)

theorem ok_move (x : Operand) {cx : Ctx} {a : Act} (h : opC T E cx (.move x) some none = some a) : ActOk P Dk N0 w0 cx (.move x) a := by
  simp only [opC] at h
  obtain ⟨g, hg, h⟩ := opn1 h
  cases h
  refine pure_ok fun ih loc tm hp v hp' hrun => ?_
  simp only [aMov] at hrun
  obtain ⟨v, hv, hrun⟩ := onO_ok hrun
  cases hrun
  exact ⟨rfl, fun π w ρ o ho hops hr => ⟨ρ x, by simp [execOp, ho], hops x (by simp [Op.operands]) g hg v hv⟩⟩

theorem ok_assign (x : Operand) {cx : Ctx} {a : Act} (h : opC T E cx (.assign x) some none = some a) : ActOk P Dk N0 w0 cx (.assign x) a := by
  simp only [opC] at h
  obtain ⟨g, hg, h⟩ := opn1 h
  cases h
  refine pure_ok fun ih loc tm hp v hp' hrun => ?_
  simp only [aMov] at hrun
  obtain ⟨v, hv, hrun⟩ := onO_ok hrun
  cases hrun
  exact ⟨rfl, fun π w ρ o ho hops hr => ⟨ρ x, by simp [execOp, ho], hops x (by simp [Op.operands]) g hg v hv⟩⟩

theorem ok_pick (c x y : Operand) {cx : Ctx} {a : Act} (h : opC T E cx (.pick c x y) some none = some a) : ActOk P Dk N0 w0 cx (.pick c x y) a := by
  simp only [opC] at h
  obtain ⟨gc, hgc, h⟩ := opn1 h
  obtain ⟨gx, hgx, h⟩ := opn1 h
  obtain ⟨gy, hgy, h⟩ := opn1 h
  cases h
  refine pure_ok fun ih loc tm hp v hp' hrun => ?_
  simp only [aPick] at hrun
  split at hrun
  · rename_i t ht
    cases t with
    | true =>
      simp only [onB_true] at hrun
      obtain ⟨v, hv, hrun⟩ := onO_ok hrun
      cases hrun
      refine ⟨rfl, fun π w ρ o ho hops hr => ⟨ρ x, ?_, hops x (by simp [Op.operands]) gx hgx v hv⟩⟩
      have hb := hops c (by simp [Op.operands]) gc hgc _ ht
      cases hρ : ρ c <;> rw [hρ] at hb <;> cases hb
      simp [execOp, ho, hρ, asBool]
    | false =>
      simp only [onB_false] at hrun
      obtain ⟨v, hv, hrun⟩ := onO_ok hrun
      cases hrun
      refine ⟨rfl, fun π w ρ o ho hops hr => ⟨ρ y, ?_, hops y (by simp [Op.operands]) gy hgy v hv⟩⟩
      have hb := hops c (by simp [Op.operands]) gc hgc _ ht
      cases hρ : ρ c <;> rw [hρ] at hb <;> cases hb
      simp [execOp, ho, hρ, asBool]
  · cases hrun

theorem ok_load (S : Setup P T E N0 w0 Dk) (t : TypeId) (x : Operand) {cx : Ctx} {a : Act} (h : opC T E cx (.load t x) some none = some a) : ActOk P Dk N0 w0 cx (.load t x) a := by
  simp only [opC] at h
  obtain ⟨g, hg, h⟩ := opn1 h
  split at h
  · rename_i hagg
    split at h
    · rename_i n hn
      cases h
      refine pure_ok fun ih loc tm hp v hp' hrun => ?_
      simp only [aLoadN] at hrun
      obtain ⟨av, hv, hrun⟩ := onO_ok hrun
      obtain ⟨vs, hvs, hrun⟩ := onO_ok hrun
      cases hrun
      refine ⟨rfl, fun π w ρ o ho hops hr => ?_⟩
      obtain ⟨b, off, vs', h1, h2, h3, h4, h5⟩ := cellsAt_ok S hr (hops x (by simp [Op.operands]) g hg av hv) hvs
      refine ⟨.agg vs'.toArray, ?_, VR.agg_mk h3 h5⟩
      have hl : vs'.length = n := by rw [← h3.1, h2]
      have := run_loadCells_list (P := P) w ⟨b, off, none⟩ vs' h4
      rw [hl] at this
      simp [execOp, ho, Instr.loadAt, Instr.sureAddr, h1, loadVar, run_isAgg' S hagg, run_sizeOf' S hn, this]
    · cases h
  · rename_i hagg
    cases h
    refine pure_ok fun ih loc tm hp v hp' hrun => ?_
    simp only [aLoad] at hrun
    obtain ⟨av, hv, hrun⟩ := onO_ok hrun
    obtain ⟨vs, hvs, hrun⟩ := onO_ok hrun
    cases hrun
    refine ⟨rfl, fun π w ρ o ho hops hr => ?_⟩
    obtain ⟨p, v', h1, h2, h3, h4, h5⟩ := cellAt_ok S hr (hops x (by simp [Op.operands]) g hg av hv) hvs
    refine ⟨v', ?_, h4⟩
    simp [execOp, ho, Instr.loadAt, Instr.sureAddr, h1, loadVar, run_isAgg' S hagg, h3]
  · cases h

theorem ok_nilCheck (x : Operand) {cx : Ctx} {a : Act} (h : opC T E cx (.nilCheck x) some none = some a) : ActOk P Dk N0 w0 cx (.nilCheck x) a := by
  simp only [opC] at h
  obtain ⟨g, hg, h⟩ := opn1 h
  cases h
  refine pure_ok fun ih loc tm hp v hp' hrun => ?_
  simp only [aNilc] at hrun
  split at hrun
  · rename_i b o hv
    cases hrun
    refine ⟨rfl, fun π w ρ o ho hops hr => ⟨ρ x, ?_, hops x (by simp [Op.operands]) g hg _ hv⟩⟩
    have hb := hops x (by simp [Op.operands]) g hg _ hv
    cases hρ : ρ x <;> rw [hρ] at hb <;> cases hb
    simp [execOp, ho, hρ]
  · rename_i b o hv
    cases hrun
    refine ⟨rfl, fun π w ρ o ho hops hr => ⟨ρ x, ?_, hops x (by simp [Op.operands]) g hg _ hv⟩⟩
    have hb := hops x (by simp [Op.operands]) g hg _ hv
    cases hρ : ρ x <;> rw [hρ] at hb <;> cases hb
    simp [execOp, ho, hρ]
  · rename_i f xs ys hv
    cases hrun
    refine ⟨rfl, fun π w ρ o ho hops hr => ⟨ρ x, ?_, hops x (by simp [Op.operands]) g hg _ hv⟩⟩
    have hb := hops x (by simp [Op.operands]) g hg _ hv
    obtain ⟨xs', ys', he, _, _⟩ := hb.func_iff
    simp [execOp, ho, he]
  · cases hrun

theorem ok_fieldAddr (S : Setup P T E N0 w0 Dk) (s : TypeId) (x : Operand) (f : Nat) {cx : Ctx} {a : Act} (h : opC T E cx (.fieldAddr s x f) some none = some a) : ActOk P Dk N0 w0 cx (.fieldAddr s x f) a := by
  simp only [opC] at h
  split at h
  · rename_i fs hs
    split at h
    · rename_i fd hf
      split at h
      · rename_i n hn
        obtain ⟨g, hg, h⟩ := opn1 h
        cases h
        rw [nth_eq] at hf
        have hf' : fs[f]? = some fd := by simpa using hf
        refine pure_ok fun ih loc tm hp v hp' hrun => ?_
        simp only [aFaddr] at hrun
        have hsz := fun w => run_sizeOf' S hn w
        split at hrun
        · rename_i b off hv
          simp only [natK_eq] at hrun
          cases hrun
          refine ⟨rfl, fun π w ρ o ho hops hr => ?_⟩
          have hb := hops x (by simp [Op.operands]) g hg _ hv
          cases hρ : ρ x <;> rw [hρ] at hb <;> cases hb
          rename_i p hp
          refine ⟨.pointer (some ⟨p.blk, p.base + (off + fd.offset), none⟩), ?_, .ptr _ _ hp⟩
          simp [execOp, ho, hρ, Instr.fieldAt, run_underlying (und_ok S hs), hf', Instr.sureAddr, fieldPlace, hsz, Addr.add_lit, Nat.add_assoc]
        · rename_i b off hv
          simp only [natK_eq] at hrun
          cases hrun
          refine ⟨rfl, fun π w ρ o ho hops hr => ?_⟩
          have hb := hops x (by simp [Op.operands]) g hg _ hv
          cases hρ : ρ x <;> rw [hρ] at hb <;> cases hb
          refine ⟨.pointer (some ⟨b, off + fd.offset, none⟩), ?_, .gptr _ _⟩
          simp [execOp, ho, hρ, Instr.fieldAt, run_underlying (und_ok S hs), hf', Instr.sureAddr, fieldPlace, hsz, Addr.add_lit]
        · cases hrun
      · cases h
    · cases h
  · cases h

theorem ok_extract (x : Operand) (i : Nat) {cx : Ctx} {a : Act} (h : opC T E cx (.extract x i) some none = some a) : ActOk P Dk N0 w0 cx (.extract x i) a := by
  simp only [opC] at h
  obtain ⟨g, hg, h⟩ := opn1 h
  cases h
  refine pure_ok fun ih loc tm hp v hp' hrun => ?_
  simp only [aExtract] at hrun
  split at hrun
  · rename_i vs hv
    obtain ⟨v, hi, hrun⟩ := onO_ok hrun
    cases hrun
    refine ⟨rfl, fun π w ρ o ho hops hr => ?_⟩
    obtain ⟨xs', he, hl⟩ := (hops x (by simp [Op.operands]) g hg _ hv).tup_iff
    rw [nth_eq] at hi
    obtain ⟨v', h1, h2⟩ := hl.get hi
    exact ⟨v', by simp [execOp, ho, he, Instr.extract, h1], h2⟩
  · cases hrun

theorem ok_makeInterface (S : Setup P T E N0 w0 Dk) (t : TypeId) (x : Operand) {cx : Ctx} {a : Act} (h : opC T E cx (.makeInterface t x) some none = some a) : ActOk P Dk N0 w0 cx (.makeInterface t x) a := by
  simp only [opC] at h
  split at h
  · cases h
  · rename_i d hni hd
    obtain ⟨g, hg, h⟩ := opn1 h
    cases h
    refine pure_ok fun ih loc tm hp v hp' hrun => ?_
    simp only [aIface] at hrun
    obtain ⟨v, hv, hrun⟩ := onO_ok hrun
    cases hrun
    refine ⟨rfl, fun π w ρ o ho hops hr => ⟨.iface t (ρ x), ?_, .iface t (hops x (by simp [Op.operands]) g hg v hv)⟩⟩
    have hu := run_underlying (und_ok S hd) w
    cases d <;> first | (exact absurd rfl (hni _)) | simp [execOp, ho, Instr.makeInterface, hu]
  · cases h

theorem ok_typeAssert (S : Setup P T E N0 w0 Dk) (x : Operand) (xt t : TypeId) (ok : Bool) {cx : Ctx} {a : Act} (h : opC T E cx (.typeAssert x xt t ok) some none = some a) : ActOk P Dk N0 w0 cx (.typeAssert x xt t ok) a := by
  simp only [opC] at h
  cases ok with
  | true => cases h
  | false =>
  simp only [onB_false] at h
  split at h
  · cases h
  · rename_i d hni hd
    obtain ⟨g, hg, h⟩ := opn1 h
    cases h
    refine pure_ok fun ih loc tm hp v hp' hrun => ?_
    simp only [aAssert] at hrun
    split at hrun
    · rename_i u v0 hv
      obtain ⟨hb, hrun⟩ := onB_ok hrun
      cases hrun
      simp only [Nat.beq_eq] at hb
      subst hb
      refine ⟨rfl, fun π w ρ o ho hops hr => ?_⟩
      have hx := hops x (by simp [Op.operands]) g hg _ hv
      have hu := run_underlying (und_ok S hd) w
      cases hρ : ρ x <;> rw [hρ] at hx <;> cases hx
      rename_i v' hv'
      refine ⟨v', ?_, hv'⟩
      cases d <;> first | (exact absurd rfl (hni _)) | simp [execOp, ho, hρ, Instr.typeAssert, hu]
    · cases hrun
  · cases h
end
end Go.Sx

namespace Go.Sx
section
variable {P : Program} {T : Nat → Option TypeInfo} {E : Env} {N0 : Nat} {w0 : World} {Dk : Deferred → Prop}

theorem zero1 {t : Nat} {β : Type} {K : AV → Option β} {a : β} (h : zeroK T t K none = some a) : ∃ i z v, T t = some i ∧ i.zero = some z ∧ ofVal z some none = some v ∧ K v = some a := by
  unfold zeroK at h
  split at h
  · rename_i i hi
    split at h
    · rename_i z hz
      rw [ofVal_nat] at h
      obtain ⟨v, h1, h2⟩ := onO1 h
      exact ⟨i, z, v, hi, hz, h1, h2⟩
    · cases h
  · cases h
theorem run_zero (S : Setup P T E N0 w0 Dk) {t : Nat} {i : TypeInfo} {z : Value} (h : T t = some i) (hz : i.zero = some z) (w : World) : (zeroValue t).run P w = .ok z w := by
  simp [zeroValue, typeInfo, S.ty t i h, hz]

/-- a row that is made: the model's cells are these, and maybe more -/
theorem made_ok {h : Hp} {v : AV} {h' : Hp} {cs : List AV} {k : Nat → Hp → Sr} (hrun : newCells h cs k = .ok v h') :
    ∃ own n o, h = .mk own n ∧ NewObj cs o ∧ k n (.mk (setP (some o) 8 own n) (n + 1)) = .ok v h' := by
  obtain ⟨own, n⟩ := h
  obtain ⟨o, ho, he⟩ := newCells_eq own n cs k
  rw [he] at hrun
  exact ⟨own, n, o, rfl, ho, hrun⟩

theorem ok_alloc (S : Setup P T E N0 w0 Dk) (t : TypeId) {cx : Ctx} {a : Act} (h : opC T E cx (.alloc t) some none = some a) : ActOk P Dk N0 w0 cx (.alloc t) a := by
  simp only [opC] at h
  obtain ⟨i, z, zv, hT, hz, hzv, h⟩ := zero1 h
  obtain ⟨cs, hcs, h⟩ := onO1 h
  cases h
  intro ih _ loc tm hp v hp' hrun
  simp only [aAlloc] at hrun
  obtain ⟨own, n, o, rfl, hn, hrun⟩ := made_ok hrun
  cases hrun
  refine ⟨by simp [nextOf], fun π w ρ o' ho hops hr hf => ?_⟩
  have free := hf n (by simp [nextOf]) (by simp [nextOf])
  obtain ⟨cs', hc, hv, h1⟩ := clO_some (ofVal_VR hzv π) hcs
  obtain ⟨k1, k2⟩ := newRow_ok hr free hv h1 hn cs'.toArray t (fun i v h => by simpa using h) (by simp)
  refine .value (w' := w.alloc (.cells cs'.toArray t)) (v := .pointer (some ⟨w.heap.size, 0, none⟩)) ?_ ⟨_, .ptr n 0 (upd_same _ _ _), k1, k2⟩
  simp [execOp, ho, Instr.alloc, run_zero S hT hz, newVar, newRow, hc]

theorem ok_box (t : TypeId) (x : Operand) {cx : Ctx} {a : Act} (h : opC T E cx (.box t x) some none = some a) : ActOk P Dk N0 w0 cx (.box t x) a := by
  simp only [opC] at h
  obtain ⟨g, hg, h⟩ := opn1 h
  cases h
  intro ih _ loc tm hp v hp' hrun
  simp only [aBox] at hrun
  obtain ⟨xv, hxv, hrun⟩ := onO_ok hrun
  obtain ⟨cs, hcs, hrun⟩ := onO_ok hrun
  obtain ⟨own, n, o, rfl, hn, hrun⟩ := made_ok hrun
  cases hrun
  refine ⟨by simp [nextOf], fun π w ρ o' ho hops hr hf => ?_⟩
  have free := hf n (by simp [nextOf]) (by simp [nextOf])
  obtain ⟨cs', hc, hv, h1⟩ := clO_some (hops x (by simp [Op.operands]) g hg xv hxv) hcs
  obtain ⟨k1, k2⟩ := newRow_ok hr free hv h1 hn cs'.toArray t (fun i v h => by simpa using h) (by simp)
  refine .value (w' := w.alloc (.cells cs'.toArray t)) (v := .pointer (some ⟨w.heap.size, 0, none⟩)) ?_ ⟨_, .ptr n 0 (upd_same _ _ _), k1, k2⟩
  simp [execOp, ho, Instr.box, newVar, newRow, hc]

theorem fillK_call {α : Type} (n : Nat) : ∀ (l vs : List α), ∃ r, ∀ (β : Type) (K : List α → β), fillK n l vs K = K r := by
  induction n with
  | zero => intro l vs; exact ⟨_, fun β K => overK_eq l vs K⟩
  | succ n ih =>
    intro l vs
    cases l with
    | nil => exact ⟨[], fun β K => rfl⟩
    | cons c l =>
      obtain ⟨r, hr⟩ := ih l vs
      exact ⟨c :: r, fun β K => by simp only [fillK]; rw [hr]⟩

/-- cells are stored in an object of ours -/
theorem storeAt_ok {h : Hp} {b off : Nat} {vs : List AV} {k : Hp → Sr} {v : AV} {h' : Hp} (hrun : storeAt h (.ptr b off) vs k = .ok v h') :
    ∃ own n o o', h = .mk own n ∧ getN 8 own b = some o ∧ k (.mk (setP (some o') 8 own b) n) = .ok v h' ∧
      ∀ π p w vs', ObjRel π o p w → VRs π vs vs' → (∀ x ∈ vs', x.oneCell' = true) →
        (∀ j, j < vs'.length → (w.cell? ⟨p.blk, p.base + off + j, none⟩).isSome = true ∧ w.frozen? ⟨p.blk, p.base + off + j, none⟩ = false) ∧ ObjRel π o' p (w.setCells p.blk (p.base + off) vs') := by
  obtain ⟨own, n⟩ := h
  simp only [storeAt] at hrun
  -- what a store does to the cells
  have key : ∀ (π : Pm) (p : PI) (w : World) (vs' : List Value) (m : Nat), Blk w p → p.base + m ≤ p.room → off + vs.length ≤ m → VRs π vs vs' → (∀ x ∈ vs', x.oneCell' = true) →
      (∀ j, j < vs'.length → (w.cell? ⟨p.blk, p.base + off + j, none⟩).isSome = true ∧ w.frozen? ⟨p.blk, p.base + off + j, none⟩ = false) ∧ Blk (w.setCells p.blk (p.base + off) vs') p ∧
      (∀ j v, vs[j]? = some v → CellIs π (w.setCells p.blk (p.base + off) vs') p (off + j) v) ∧
      (∀ i v, ¬ (off ≤ i ∧ i < off + vs.length) → CellIs π w p i v → CellIs π (w.setCells p.blk (p.base + off) vs') p i v) := by
    intro π p w vs' m hb hm hle hv h1
    have hl := hv.1
    have hin : ∀ j, j < vs'.length → (w.cell? ⟨p.blk, p.base + off + j, none⟩).isSome = true ∧ w.frozen? ⟨p.blk, p.base + off + j, none⟩ = false := fun j hj => by
      have := hb (p.base + off + j) (by omega)
      exact this
    refine ⟨hin, fun i hi => ⟨?_, by rw [World.frozen?_setCells]; exact (hb i hi).2⟩, fun j x hj => ?_, fun i x hi ⟨v', k1, k2, k3⟩ => ?_⟩
    · by_cases hr : p.base + off ≤ i ∧ i < p.base + off + vs'.length
      · have := World.cell?_setCells_in p.blk vs' (p.base + off) w (fun j hj => (hin j hj).1) (i - (p.base + off)) (by omega)
        rw [show p.base + off + (i - (p.base + off)) = i by omega] at this
        rw [this]; rfl
      · rw [World.cell?_setCells_out _ _ _ _ _ (fun _ _ => by simp only; omega)]; exact (hb i hi).1
    · obtain ⟨x', k1, k2⟩ := hv.get hj
      have hj' : j < vs'.length := by
        rcases Nat.lt_or_ge j vs'.length with h | h
        · exact h
        · rw [List.getElem?_eq_none h] at k1; cases k1
      have := World.cell?_setCells_in p.blk vs' (p.base + off) w (fun j hj => (hin j hj).1) j hj'
      rw [List.getElem?_eq_getElem hj'] at k1
      cases k1
      exact ⟨vs'[j], by rw [← Nat.add_assoc]; exact this, k2, h1 _ (List.getElem_mem hj')⟩
    · exact ⟨v', by rw [World.cell?_setCells_out _ _ _ _ _ (fun _ _ => by simp only; omega)]; exact k1, k2, k3⟩
  split at hrun
  · rename_i cs m hb
    obtain ⟨hle, hrun⟩ := onB_ok hrun
    simp only [lenL_eq, Nat.ble_eq] at hle
    by_cases hcs : cs.length = m
    · rw [fillK_eq _ _ _ _ (by omega)] at hrun
      simp only [setN_eq] at hrun
      refine ⟨own, n, _, _, rfl, hb, hrun, fun π p w vs' ho hv h1 => ?_⟩
      obtain ⟨k1, k2, k3, k4⟩ := key π p w vs' m ho.1 ho.2.1 hle hv h1
      refine ⟨k1, k2, ho.2.1, by simp; omega, fun i x hi => ?_⟩
      by_cases hr : off ≤ i ∧ i < off + vs.length
      · have : vs[i - off]? = some x := by
          rw [List.append_assoc, List.getElem?_append_right (by simp; omega), List.getElem?_append_left (by simp; omega)] at hi
          simpa [Nat.min_eq_left (show off ≤ cs.length by omega)] using hi
        have := k3 _ _ this
        rwa [show off + (i - off) = i by omega] at this
      · refine k4 i x hr (ho.2.2.2 i x ?_)
        by_cases hlt : i < off
        · rw [List.append_assoc, List.getElem?_append_left (by simp; omega), List.getElem?_take] at hi
          simpa [hlt] using hi
        · rw [List.getElem?_append_right (by simp; omega), List.getElem?_drop] at hi
          have he : off + vs.length + (i - (cs.take off ++ vs).length) = i := by simp; omega
          rwa [he] at hi
    · -- such an object is none
      obtain ⟨r, hr⟩ := fillK_call off cs vs
      rw [hr] at hrun
      simp only [setN_eq] at hrun
      exact ⟨own, n, _, _, rfl, hb, hrun, fun π p w vs' ho => absurd ho.2.2.1 hcs⟩
  · rename_i t m hb
    obtain ⟨hle, hrun⟩ := onB_ok hrun
    simp only [lenL_eq, Nat.ble_eq] at hle
    simp only [setN_eq, setL_eq] at hrun
    refine ⟨own, n, _, _, rfl, hb, hrun, fun π p w vs' ho hv h1 => ?_⟩
    obtain ⟨k1, k2, k3, k4⟩ := key π p w vs' m ho.1 ho.2.1 hle hv h1
    refine ⟨k1, k2, ho.2.1, fun i x hi => ?_⟩
    rcases get_setL _ _ _ _ _ _ hi with ⟨h2, h3⟩ | ⟨h2, h3⟩
    · have := k3 _ _ h3
      rw [show off + (i - off) = i by omega] at this
      have hlt := (List.getElem?_eq_some_iff.1 h3).1
      exact ⟨by omega, this⟩
    · exact ⟨(ho.2.2 i x h3).1, k4 i x h2 (ho.2.2 i x h3).2⟩
  · cases hrun

theorem ok_store (S : Setup P T E N0 w0 Dk) (t : TypeId) (x y : Operand) {cx : Ctx} {a : Act} (h : opC T E cx (.store t x y) some none = some a) : ActOk P Dk N0 w0 cx (.store t x y) a := by
  simp only [opC] at h
  obtain ⟨g, hg, h⟩ := opn1 h
  obtain ⟨g', hg', h⟩ := opn1 h
  split at h
  · rename_i n hn
    cases h
    intro ih _ loc tm hp v hp' hrun
    simp only [aStore] at hrun
    obtain ⟨av, hav, hrun⟩ := onO_ok hrun
    obtain ⟨xv, hxv, hrun⟩ := onO_ok hrun
    obtain ⟨vs, hvs, hrun⟩ := onO_ok hrun
    obtain ⟨hlen, hrun⟩ := onB_ok hrun
    simp only [lenL_eq, Nat.beq_eq] at hlen
    cases av with
    | ptr b off =>
      obtain ⟨own, m, o, o', rfl, hb, hrun, hst⟩ := storeAt_ok hrun
      cases hrun
      refine ⟨Nat.le_refl _, fun π w ρ oo ho hops hr hf => ?_⟩
      have ha := hops x (by simp [Op.operands]) g hg _ hav
      have hx := hops y (by simp [Op.operands]) g' hg' _ hxv
      obtain ⟨vs', hc, hv, h1⟩ := clO_some hx hvs
      cases hρ : ρ x <;> rw [hρ] at ha <;> cases ha
      rename_i p hp
      obtain ⟨k1, k2⟩ := hst π p w vs' (hr.objs b o p hb hp) hv h1
      obtain ⟨k3, k4⟩ := hr.put hb hp o' (w.setCells p.blk (p.base + off) vs') (size_setCells _ _ _ _) (fun c hc => heap_setCells_other _ _ _ _ _ hc) (same_setCells _ _ _ _) k2
      refine .skip ?_ ⟨π, VR.tup_mk .nil, k3, k4⟩
      have hs := run_storeCells_cells (P := P) p.blk (p.base + off) vs' 0 w (fun j hj => (k1 j hj).1) (fun j hj => (k1 j hj).2) h1
      have hsz : vs'.length = n := by rw [← hv.1, hlen]
      simp only [Nat.add_zero] at hs
      simp [execOp, ho, hρ, Instr.storeAt, Instr.sureAddr, storeVar, run_sizeOf' S hn, hc, hsz, hs]
    | _ => cases hrun
  · cases h
end
end Go.Sx

namespace Go.Sx

/-! whole numbers -/
theorem ieq_eq (a b : Int) : ieq a b = (a == b) := by
  cases a <;> cases b <;> simp only [ieq]
  · rw [Bool.eq_iff_iff]; simp only [Nat.beq_eq, beq_iff_eq, Int.ofNat_eq_natCast]; omega
  · rw [eq_comm, beq_eq_false_iff_ne]; intro h; cases h
  · rw [eq_comm, beq_eq_false_iff_ne]; intro h; cases h
  · rw [Bool.eq_iff_iff]; simp only [Nat.beq_eq, beq_iff_eq]; omega
theorem blt_eq (a b : Nat) : Nat.blt a b = decide (a < b) := by
  rw [Bool.eq_iff_iff]; simp [Nat.blt]; omega
theorem ilt_eq (a b : Int) : ilt a b = decide (a < b) := by
  cases a with
  | ofNat a => cases b with
    | ofNat b => simp only [ilt, blt_eq]; rw [Bool.eq_iff_iff]; simp
    | negSucc b => simp only [ilt]; rw [eq_comm, decide_eq_false_iff_not]; simp only [Int.ofNat_eq_natCast]; omega
  | negSucc a => cases b with
    | ofNat b => simp only [ilt]; rw [eq_comm, decide_eq_true_iff]; simp only [Int.ofNat_eq_natCast]; omega
    | negSucc b => simp only [ilt, blt_eq]; rw [Bool.eq_iff_iff]; simp; omega
theorem kindEq_eq {a b : IntKind} (h : kindEq a b = true) : a = b := by
  cases a <;> cases b <;> first | rfl | (exact absurd h (by decide))

theorem wrap_pos (k : IntKind) (m : Nat) (hm : m < lim k) : k.wrap (m : Int) = m := by
  cases k <;> simp only [lim] at hm
  · exact IntWalk.i8_in _ (by omega)
  · exact IntWalk.i16_in _ (by omega)
  · exact IntWalk.i32_in _ (by omega)
  · exact IntWalk.i64_in _ (by omega)
  · exact IntWalk.u8_in _ (by omega)
  · exact IntWalk.u16_in _ (by omega)
  · exact IntWalk.u32_in _ (by omega)
  · exact IntWalk.u64_in _ (by omega)
theorem wrap_neg (k : IntKind) (m : Nat) (hs : sgn k = true) (hm : m < lim k) : k.wrap (Int.negSucc m) = Int.negSucc m := by
  cases k <;> first | (exact absurd hs (by decide)) | simp only [lim] at hm
  · exact IntWalk.i8_in _ (by omega)
  · exact IntWalk.i16_in _ (by omega)
  · exact IntWalk.i32_in _ (by omega)
  · exact IntWalk.i64_in _ (by omega)
theorem mkI_eq (k : IntKind) (n : Int) (h : Hp) : mkI k n h = .ok (.int k (k.wrap n)) h := by
  cases n with
  | ofNat m =>
    simp only [mkI, natK_eq, intK_eq, onB_eq, blt_eq]
    split
    · rename_i hm
      simp only [decide_eq_true_eq] at hm
      have := wrap_pos k m hm
      simp only [Int.ofNat_eq_natCast]
      rw [this]
    · rfl
  | negSucc m =>
    simp only [mkI, natK_eq, intK_eq, onB_eq, blt_eq]
    split
    · rename_i hm
      simp only [Bool.and_eq_true, decide_eq_true_eq] at hm
      rw [wrap_neg k m hm.1 hm.2]
    · rfl
theorem mkB_eq (b : Bool) (h : Hp) : mkB b h = .ok (.bool b) h := by cases b <;> rfl

theorem natsEq_eq (a b : List Nat) : natsEq a b = decide (a = b) := by
  induction a generalizing b with
  | nil => cases b <;> simp [natsEq]
  | cons x a ih =>
    cases b with
    | nil => simp [natsEq]
    | cons y b =>
      simp only [natsEq, onB_eq]
      by_cases h : x = y
      · subst h; simp [Nat.beq_refl, ih]
      · have : Nat.beq x y = false := by
          cases hb : Nat.beq x y with
          | false => rfl
          | true => exact absurd (Nat.eq_of_beq_eq_true hb) h
        simp [this, h]
theorem bytes_inj (a b : List UInt8) : (a.map UInt8.toNat = b.map UInt8.toNat) ↔ a = b := by
  constructor
  · intro h
    induction a generalizing b with
    | nil => cases b <;> simp_all
    | cons x a ih =>
      cases b with
      | nil => simp at h
      | cons y b =>
        simp only [List.map_cons, List.cons.injEq] at h
        rw [UInt8.toNat_inj.1 h.1, ih b h.2]
  · rintro rfl; rfl
theorem strEq (s t : ByteArray) : natsEq (s.data.toList.map UInt8.toNat) (t.data.toList.map UInt8.toNat) = (s.toList == t.toList) := by
  rw [natsEq_eq, ByteArray.toList_eq, ByteArray.toList_eq, Bool.eq_iff_iff]
  simp only [decide_eq_true_eq, beq_iff_eq]
  exact bytes_inj _ _
theorem natsLt_eq (a b : List UInt8) : natsLt (a.map UInt8.toNat) (b.map UInt8.toNat) = Op.bytesLess a b := by
  induction a generalizing b with
  | nil => cases b <;> simp [natsLt, Op.bytesLess]
  | cons x a ih =>
    cases b with
    | nil => simp [natsLt, Op.bytesLess]
    | cons y b =>
      simp only [List.map_cons, natsLt, Op.bytesLess, ih, blt_eq]
      congr 1
      congr 1
      rw [Bool.eq_iff_iff]; simp [Nat.beq_eq, UInt8.toNat_inj]
theorem strLt (s t : ByteArray) : natsLt (s.data.toList.map UInt8.toNat) (t.data.toList.map UInt8.toNat) = Op.bytesLess s.toList t.toList := by
  rw [natsLt_eq, ByteArray.toList_eq, ByteArray.toList_eq]

section
variable {P : Program} {T : Nat → Option TypeInfo} {E : Env} {N0 : Nat} {w0 : World} {Dk : Deferred → Prop}

theorem binI_ok {op : BinOp} {k : IntKind} {a b : Int} {h h' : Hp} {v : AV} (hrun : binI op k a b h = .ok v h') (t : TypeId) (w : World) (π : Pm) (hns : op ≠ .shl ∧ op ≠ .shr) :
    h' = h ∧ ∃ v', (binOp op t (.int k a) (.int k b)).run P w = .ok v' w ∧ VR π v v' := by
  cases op <;> simp only [binI, mkI_eq, mkB_eq, ieq_eq, ilt_eq] at hrun
  case add => cases hrun; exact ⟨rfl, _, by simp [binOp, Op.intArith] <;> rfl, .int _ _⟩
  case sub => cases hrun; exact ⟨rfl, _, by simp [binOp, Op.intArith] <;> rfl, .int _ _⟩
  case mul => cases hrun; exact ⟨rfl, _, by simp [binOp, Op.intArith] <;> rfl, .int _ _⟩
  case quo =>
    rw [onB_eq] at hrun
    split at hrun
    · cases hrun
    · rename_i hb
      cases hrun
      have hb' : b ≠ 0 := by simpa using hb
      exact ⟨rfl, _, by simp [binOp, Op.intDiv, hb'] <;> rfl, .int _ _⟩
  case rem =>
    rw [onB_eq] at hrun
    split at hrun
    · cases hrun
    · rename_i hb
      simp only [intK_eq] at hrun
      cases hrun
      have hb' : b ≠ 0 := by simpa using hb
      exact ⟨rfl, _, by simp [binOp, Op.intDiv, hb'] <;> rfl, .int _ _⟩
  case and => cases hrun; exact ⟨rfl, _, by simp only [binOp, ne_eq, not_true_eq_false, if_false, Op.intBits]; rfl, .int _ _⟩
  case or => cases hrun; exact ⟨rfl, _, by simp only [binOp, ne_eq, not_true_eq_false, if_false, Op.intBits]; rfl, .int _ _⟩
  case xor => cases hrun; exact ⟨rfl, _, by simp only [binOp, ne_eq, not_true_eq_false, if_false, Op.intBits]; rfl, .int _ _⟩
  case andNot => cases hrun; exact ⟨rfl, _, by simp only [binOp, ne_eq, not_true_eq_false, if_false, Op.intBits]; rfl, .int _ _⟩
  case eql => cases hrun; exact ⟨rfl, _, by simp [binOp, Op.intCmp] <;> rfl, .bool _⟩
  case neq => cases hrun; exact ⟨rfl, _, by simp [binOp, Op.intCmp] <;> rfl, .bool _⟩
  case lss => cases hrun; exact ⟨rfl, _, by simp [binOp, Op.intCmp] <;> rfl, .bool _⟩
  case leq => cases hrun; exact ⟨rfl, .bool (decide (a ≤ b)), by simp [binOp, Op.intCmp], by rw [show (!decide (b < a)) = decide (a ≤ b) by rw [Bool.eq_iff_iff]; simp]; exact .bool _⟩
  case gtr => cases hrun; exact ⟨rfl, .bool (decide (a > b)), by simp [binOp, Op.intCmp], .bool _⟩
  case geq => cases hrun; exact ⟨rfl, .bool (decide (a ≥ b)), by simp [binOp, Op.intCmp], by rw [show (!decide (a < b)) = decide (a ≥ b) by rw [Bool.eq_iff_iff]; simp]; exact .bool _⟩
  all_goals cases hrun

theorem shiftI_ok {op : BinOp} {k : IntKind} (j : IntKind) {a b : Int} {h h' : Hp} {v : AV} (hrun : shiftI op k a b h = .ok v h') (t : TypeId) (w : World) (π : Pm) :
    h' = h ∧ ∃ v', (binOp op t (.int k a) (.int j b)).run P w = .ok v' w ∧ VR π v v' := by
  cases b with
  | negSucc n => cases hrun
  | ofNat n =>
    simp only [shiftI] at hrun
    split at hrun
    · rw [mkI_eq] at hrun; cases hrun
      refine ⟨rfl, _, ?_, .int _ _⟩
      have h0 : ¬ ((n : Int) < 0) := by omega
      simp only [binOp, Op.shift, Int.ofNat_eq_natCast, h0, if_false, Int.toNat_natCast, Sem.run_pure]
      congr 2
    · simp only [intK_eq] at hrun; cases hrun
      refine ⟨rfl, _, ?_, .int _ _⟩
      have h0 : ¬ ((n : Int) < 0) := by omega
      simp only [binOp, Op.shift, Int.ofNat_eq_natCast, h0, if_false, Int.toNat_natCast, Sem.run_pure]
      congr 2
    · cases hrun

theorem binS_ok {op : BinOp} {s u : ByteArray} {h h' : Hp} {v : AV} (hrun : binS op (s.data.toList.map UInt8.toNat) (u.data.toList.map UInt8.toNat) h = .ok v h') (t : TypeId) (w : World) (π : Pm) :
    h' = h ∧ ∃ v', (binOp op t (.string s) (.string u)).run P w = .ok v' w ∧ VR π v v' := by
  cases op <;> simp only [binS, mkB_eq, strEq, strLt] at hrun
  case add =>
    obtain ⟨hb, hrun⟩ := onB_ok hrun
    cases hrun
    refine ⟨rfl, .string (s ++ u), ?_, ?_⟩
    · have h1 : s.size = s.data.toList.length := rfl
      have h2 : u.size = u.data.toList.length := rfl
      rw [blt_eq] at hb
      simp only [lenL_eq, List.length_map, decide_eq_true_eq] at hb
      have h3 : ¬ (9223372036854775807 < ((s.size : Int) + (u.size : Int))) := by omega
      simp [binOp, Op.stringOp, h3]
    · have : s.data.toList.map UInt8.toNat ++ u.data.toList.map UInt8.toNat = (s ++ u).data.toList.map UInt8.toNat := by
        rw [← List.map_append]; congr 1
      rw [this]; exact .str _
  case eql => cases hrun; exact ⟨rfl, _, by simp only [binOp, Op.stringOp]; rfl, .bool _⟩
  case neq => cases hrun; exact ⟨rfl, _, by simp only [binOp, Op.stringOp]; rfl, .bool _⟩
  case lss => cases hrun; exact ⟨rfl, _, by simp only [binOp, Op.stringOp]; rfl, .bool _⟩
  case leq => cases hrun; exact ⟨rfl, _, by simp only [binOp, Op.stringOp]; rfl, .bool _⟩
  case gtr => cases hrun; exact ⟨rfl, _, by simp only [binOp, Op.stringOp]; rfl, .bool _⟩
  case geq => cases hrun; exact ⟨rfl, _, by simp only [binOp, Op.stringOp]; rfl, .bool _⟩
  all_goals cases hrun
end
end Go.Sx

namespace Go.Sx
section
variable {P : Program} {T : Nat → Option TypeInfo} {E : Env} {N0 : Nat} {w0 : World} {Dk : Deferred → Prop}

theorem beqB_eq (a b : Bool) : beqB a b = (a == b) := by cases a <;> cases b <;> rfl

/-- which type an equality is of -/
theorem eqK_inv (S : Setup P T E N0 w0 Dk) (t : Nat) :
    match eqK T t with
    | .bool => P.underlying t = some .bool
    | .ptr => ∃ e, P.underlying t = some (.pointer e)
    | .slice => ∃ e, P.underlying t = some (.slice e)
    | .map => ∃ k e, P.underlying t = some (.map k e)
    | .func => ∃ a b c, P.underlying t = some (.func a b c)
    | .iface => ∃ ms, P.underlying t = some (.interface ms)
    | .struct os => ∃ fs, P.underlying t = some (.struct fs) ∧ eqOf T fs.toList = some os
    | .none => True := by
  unfold eqK
  cases hu : und T t with
  | none => trivial
  | some d =>
    have h := und_ok S hu
    cases d <;> simp only <;> first | exact h | exact ⟨_, h⟩ | exact ⟨_, _, h⟩ | exact ⟨_, _, _, h⟩ | trivial | skip
    rename_i fs
    cases he : eqOf T fs.toList with
    | none => trivial
    | some os => exact ⟨_, h, he⟩

theorem scalC_ok (S : Setup P T E N0 w0 Dk) {t c : Nat} (h : scalC T t = some c) :
    (c = 0 ∧ P.underlying t = some .bool) ∨ (c = 1 ∧ ∃ k, P.underlying t = some (.int k)) ∨ (c = 2 ∧ P.underlying t = some .string) := by
  unfold scalC at h
  cases hu : und T t with
  | none => rw [hu] at h; cases h
  | some d =>
    rw [hu] at h
    have := und_ok S hu
    cases d <;> first | (cases h; done) | (cases h; first | exact .inl ⟨rfl, this⟩ | exact .inr (.inl ⟨rfl, _, this⟩) | exact .inr (.inr ⟨rfl, this⟩))

theorem scalEq_ok (S : Setup P T E N0 w0 Dk) {π : Pm} {t c : Nat} (ht : scalC T t = some c) {x y : AV} {x' y' : Value} (hx : VR π x x') (hy : VR π y y') (hk : kindIs c x = true) {b : Bool} (h : scalEq x y = some b) (d : Nat) (w : World) :
    (Op.equalIn (d + 1) t x' y').run P w = .ok b w := by
  rcases scalC_ok S ht with ⟨rfl, hu⟩ | ⟨rfl, k, hu⟩ | ⟨rfl, hu⟩
  · cases x <;> try (cases hk; done)
    cases y <;> try (cases h; done)
    cases hx; cases hy; cases h
    rw [beqB_eq]
    exact run_equalIn_bool' w d t _ _ hu
  · cases x <;> try (cases hk; done)
    cases y <;> try (cases h; done)
    cases hx; cases hy
    simp only [scalEq] at h
    obtain ⟨h1, h2⟩ := onB1 h
    cases h2
    rw [kindEq_eq h1, ieq_eq]
    exact run_equalIn_int w d t _ k _ _ hu
  · cases x <;> try (cases hk; done)
    cases y <;> try (cases h; done)
    cases hx; cases hy; cases h
    rw [strEq]
    exact run_equalIn_string w d t _ _ hu

theorem part_run (S : Setup P T E N0 w0 Dk) {t c : Nat} (ht : scalC T t = some c) {cs : Array Value} {off : Nat} {v : Value} (h : cs[off]? = some v) (w : World) : (part t cs off).run P w = .ok v w := by
  have hu : (underlying t).run P w = .ok (if c = 0 then .bool else if c = 2 then .string else .int .i8) w ∨ ∃ k, (underlying t).run P w = .ok (.int k) w := by
    rcases scalC_ok S ht with ⟨rfl, hu⟩ | ⟨rfl, k, hu⟩ | ⟨rfl, hu⟩
    · exact .inl (run_underlying hu w)
    · exact .inr ⟨k, run_underlying hu w⟩
    · exact .inl (run_underlying hu w)
  have ha : (isAgg t).run P w = .ok false w := by
    rcases scalC_ok S ht with ⟨_, hu⟩ | ⟨_, k, hu⟩ | ⟨_, hu⟩ <;> simp [isAgg, run_underlying hu]
  simp [part, ha, h]

theorem eqOffs_ok (S : Setup P T E N0 w0 Dk) {π : Pm} {xs ys : List AV} {xs' ys' : List Value} (hx : VRs π xs xs') (hy : VRs π ys ys') (d : Nat) (w : World) : ∀ (fs : List Field) (os : List (Nat × Nat)) (b : Bool),
    eqOf T fs = some os → eqOffs xs ys os = some b → (Op.eqFields (d + 1) xs'.toArray ys'.toArray fs).run P w = .ok b w
  | [], os, b, h, hr => by cases h; cases hr; simp [Op.eqFields]
  | f :: fs, os, b, h, hr => by
    simp only [eqOf] at h
    split at h
    · rename_i c hc
      obtain ⟨hn, h⟩ := onB1 h
      split at h
      · rename_i r hr'
        cases h
        have hn' : f.name ≠ "_" := by simpa using hn
        simp only [eqOffs, nth_eq] at hr
        split at hr
        · rename_i x y h1 h2
          obtain ⟨hk, hr⟩ := onB1 hr
          obtain ⟨x', k1, k2⟩ := hx.get h1
          obtain ⟨y', k3, k4⟩ := hy.get h2
          have p1 := part_run S hc (cs := xs'.toArray) (off := f.offset) (v := x') (by simpa using k1) w
          have p2 := part_run S hc (cs := ys'.toArray) (off := f.offset) (v := y') (by simpa using k3) w
          simp only [Op.eqFields, hn', ne_eq, not_false_eq_true, if_true, Sem.run_bind, p1, p2, Result.andThen_ok]
          split at hr
          · rename_i he
            rw [scalEq_ok S hc k2 k4 hk he d w]
            simpa using eqOffs_ok S hx hy d w fs r b hr' hr
          · rename_i he
            cases hr
            rw [scalEq_ok S hc k2 k4 hk he d w]
            simp
          · cases hr
        · cases hr
      · cases h
    · cases h

theorem nilEq_inv {ok : AV → Bool} {x y : AV} {b : Bool} (h : nilEq ok x y = some b) : ok x = true ∧ ok y = true ∧ ((isNilV x = some true ∧ isNilV y = some b) ∨ (isNilV x = some b ∧ isNilV y = some true)) := by
  unfold nilEq at h
  obtain ⟨h1, h⟩ := onB1 h
  simp only [Bool.and_eq_true] at h1
  refine ⟨h1.1, h1.2, ?_⟩
  split at h
  · rename_i b' e1 e2; cases h; exact .inl ⟨e1, e2⟩
  · rename_i b' e1 e2; cases h; exact .inr ⟨by rw [e1], e2⟩
  · cases h

section nils
variable (w : World) (d t : Nat)
theorem eqn_ptr1 {e : Nat} (hu : P.underlying t = some (.pointer e)) (b : Option Addr) : (Op.equalIn (d + 1) t (.pointer none) (.pointer b)).run P w = .ok b.isNone w := by
  simp [Op.equalIn, run_underlying hu]
theorem eqn_ptr2 {e : Nat} (hu : P.underlying t = some (.pointer e)) (b : Option Addr) : (Op.equalIn (d + 1) t (.pointer b) (.pointer none)).run P w = .ok b.isNone w := by
  cases b <;> simp [Op.equalIn, run_underlying hu]
theorem eqn_sl1 {e : Nat} (hu : P.underlying t = some (.slice e)) (b : Option Addr) (n c n' c' : Nat) : (Op.equalIn (d + 1) t (.slice none n c) (.slice b n' c')).run P w = .ok b.isNone w := by
  simp [Op.equalIn, run_underlying hu]
theorem eqn_sl2 {e : Nat} (hu : P.underlying t = some (.slice e)) (b : Option Addr) (n c n' c' : Nat) : (Op.equalIn (d + 1) t (.slice b n c) (.slice none n' c')).run P w = .ok b.isNone w := by
  cases b <;> simp [Op.equalIn, run_underlying hu]
theorem eqn_map1 {k e : Nat} (hu : P.underlying t = some (.map k e)) (b : Option Nat) : (Op.equalIn (d + 1) t (.map none) (.map b)).run P w = .ok b.isNone w := by
  simp [Op.equalIn, run_underlying hu]
theorem eqn_map2 {k e : Nat} (hu : P.underlying t = some (.map k e)) (b : Option Nat) : (Op.equalIn (d + 1) t (.map b) (.map none)).run P w = .ok b.isNone w := by
  cases b <;> simp [Op.equalIn, run_underlying hu]
theorem eqn_fn0 {a b c} (hu : P.underlying t = some (.func a b c)) : (Op.equalIn (d + 1) t .nilFunc .nilFunc).run P w = .ok true w := by
  simp [Op.equalIn, run_underlying hu]
theorem eqn_fn1 {a b c} (hu : P.underlying t = some (.func a b c)) (f x y) : (Op.equalIn (d + 1) t .nilFunc (.func f x y)).run P w = .ok false w := by
  simp [Op.equalIn, run_underlying hu]
theorem eqn_fn2 {a b c} (hu : P.underlying t = some (.func a b c)) (f x y) : (Op.equalIn (d + 1) t (.func f x y) .nilFunc).run P w = .ok false w := by
  simp [Op.equalIn, run_underlying hu]
theorem eqn_if0 {ms} (hu : P.underlying t = some (.interface ms)) : (Op.equalIn (d + 1) t .nilIface .nilIface).run P w = .ok true w := by
  simp [Op.equalIn, run_underlying hu]
theorem eqn_if1 {ms} (hu : P.underlying t = some (.interface ms)) (u x) : (Op.equalIn (d + 1) t .nilIface (.iface u x)).run P w = .ok false w := by
  simp [Op.equalIn, run_underlying hu]
theorem eqn_if2 {ms} (hu : P.underlying t = some (.interface ms)) (u x) : (Op.equalIn (d + 1) t (.iface u x) .nilIface).run P w = .ok false w := by
  simp [Op.equalIn, run_underlying hu]
end nils

theorem eqV_okd (S : Setup P T E N0 w0 Dk) {π : Pm} {t : Nat} {x y : AV} {x' y' : Value} (hx : VR π x x') (hy : VR π y y') {b : Bool} (h : eqV (eqK T t) x y = some b) (w : World) (d : Nat) :
    (Op.equalIn (d + 1 + 1) t x' y').run P w = .ok b w := by
  have hi := eqK_inv S t
  cases hk : eqK T t with
  | none => rw [hk] at h; cases h
  | bool =>
    rw [hk] at h hi
    cases x <;> cases y <;> first | (cases h; done) | skip
    cases hx; cases hy; cases h
    rw [beqB_eq]
    exact run_equalIn_bool' w (d + 1) t _ _ hi
  | struct os =>
    rw [hk] at h hi
    obtain ⟨fs, hu, he⟩ := hi
    obtain ⟨s1, s2⟩ := S.st t os hk
    cases x <;> cases y <;> first | (cases h; done) | skip
    obtain ⟨xs', rfl, h1, _⟩ := hx.agg_iff
    obtain ⟨ys', rfl, h2, _⟩ := hy.agg_iff
    have hf : P.fieldsOf t = fs := by simp [Program.fieldsOf, hu]
    rw [run_equalIn_struct w (d + 1) t _ _ (by rw [hf]; exact hu) s1, hf]
    exact eqOffs_ok S h1 h2 d w fs.toList os b he h
  | ptr =>
    rw [hk] at h hi
    obtain ⟨e, hu⟩ := hi
    obtain ⟨h1, h2, h3⟩ := nilEq_inv h
    rcases h3 with ⟨h3, h4⟩ | ⟨h3, h4⟩ <;> cases x <;> first | (cases h1; done) | (cases h3; done) | skip
    all_goals cases y <;> first | (cases h2; done) | (cases h4; done) | skip
    all_goals (cases hx; cases hy; (try cases h3); (try cases h4); first | exact eqn_ptr1 w (d+1) t hu _ | exact eqn_ptr2 w (d+1) t hu _)
  | slice =>
    rw [hk] at h hi
    obtain ⟨e, hu⟩ := hi
    obtain ⟨h1, h2, h3⟩ := nilEq_inv h
    rcases h3 with ⟨h3, h4⟩ | ⟨h3, h4⟩ <;> cases x <;> first | (cases h1; done) | (cases h3; done) | skip
    all_goals cases y <;> first | (cases h2; done) | (cases h4; done) | skip
    all_goals (cases hx; cases hy; (try cases h3); (try cases h4); first | exact eqn_sl1 w (d+1) t hu _ _ _ _ _ | exact eqn_sl2 w (d+1) t hu _ _ _ _ _)
  | map =>
    rw [hk] at h hi
    obtain ⟨k, e, hu⟩ := hi
    obtain ⟨h1, h2, h3⟩ := nilEq_inv h
    rcases h3 with ⟨h3, h4⟩ | ⟨h3, h4⟩ <;> cases x <;> first | (cases h1; done) | (cases h3; done) | skip
    all_goals cases y <;> first | (cases h2; done) | (cases h4; done) | skip
    all_goals (cases hx; cases hy; (try cases h3); (try cases h4); first | exact eqn_map1 w (d+1) t hu _ | exact eqn_map2 w (d+1) t hu _)
  | func =>
    rw [hk] at h hi
    obtain ⟨a, b', c, hu⟩ := hi
    obtain ⟨h1, h2, h3⟩ := nilEq_inv h
    rcases h3 with ⟨h3, h4⟩ | ⟨h3, h4⟩ <;> cases x <;> first | (cases h1; done) | (cases h3; done) | skip
    all_goals cases y <;> first | (cases h2; done) | (cases h4; done) | skip
    all_goals (cases hx; cases hy; (try cases h3); (try cases h4); first | exact eqn_fn0 w (d+1) t hu | exact eqn_fn1 w (d+1) t hu _ _ _ | exact eqn_fn2 w (d+1) t hu _ _ _)
  | iface =>
    rw [hk] at h hi
    obtain ⟨ms, hu⟩ := hi
    obtain ⟨h1, h2, h3⟩ := nilEq_inv h
    rcases h3 with ⟨h3, h4⟩ | ⟨h3, h4⟩ <;> cases x <;> first | (cases h1; done) | (cases h3; done) | skip
    all_goals cases y <;> first | (cases h2; done) | (cases h4; done) | skip
    all_goals (cases hx; cases hy; (try cases h3); (try cases h4); first | exact eqn_if0 w (d+1) t hu | exact eqn_if1 w (d+1) t hu _ _ | exact eqn_if2 w (d+1) t hu _ _)

theorem eqV_ok (S : Setup P T E N0 w0 Dk) {π : Pm} {t : Nat} {x y : AV} {x' y' : Value} (hx : VR π x x') (hy : VR π y y') {b : Bool} (h : eqV (eqK T t) x y = some b) (w : World) :
    (Op.equal t x' y').run P w = .ok b w := eqV_okd S hx hy h w 9998

end
end Go.Sx

namespace Go.Sx
section
variable {P : Program} {T : Nat → Option TypeInfo} {E : Env} {N0 : Nat} {w0 : World} {Dk : Deferred → Prop}

/-- values that are no numbers and no strings -/
def plainV : Value → Prop
  | .int .. | .float .. | .complex .. | .string _ => False
  | _ => True
theorem VR.plain {π : Pm} {x : AV} {x' : Value} (h : VR π x x') (hx : notIntStr x = true) : plainV x' := by
  cases h <;> first | trivial | (cases hx)
theorem binOp_eql (t : TypeId) (x' y' : Value) (h : plainV x') : binOp .eql t x' y' = (do pure (.bool (← Op.equal t x' y'))) := by
  cases x' <;> first | exact h.elim | rfl
theorem binOp_neq (t : TypeId) (x' y' : Value) (h : plainV x') : binOp .neq t x' y' = (do pure (.bool (!(← Op.equal t x' y')))) := by
  cases x' <;> first | exact h.elim | rfl

theorem eqV_none {x y : AV} : eqV .none x y = none := rfl

theorem binV_rest {x : AV} (hn : notIntStr x = true) (op : BinOp) (k : EqK) (y : AV) (h : Hp) : binV op k x y h = onB (notIntStr y) (match op with
      | .eql => onO (.fail 7) (fun b => mkB b h) (eqV k x y)
      | .neq => onO (.fail 7) (fun b => mkB (!b) h) (eqV k x y)
      | _ => .fail 7) (.fail 7) := by
  cases x <;> first | (cases hn; done) | rfl
theorem binV_int {op : BinOp} {k : EqK} {j j' : IntKind} {a b : Int} {h h' : Hp} {v : AV} (hrun : binV op k (.int j a) (.int j' b) h = .ok v h') (t : TypeId) (w : World) (π : Pm) :
    h' = h ∧ ∃ v', (binOp op t (.int j a) (.int j' b)).run P w = .ok v' w ∧ VR π v v' := by
  by_cases h1 : op = .shl
  · subst h1; exact shiftI_ok j' (op := .shl) (k := j) (h := h) (h' := h') (v := v) hrun t w π
  by_cases h2 : op = .shr
  · subst h2; exact shiftI_ok j' (op := .shr) (k := j) (h := h) (h' := h') (v := v) hrun t w π
  have hr : onB (kindEq j j') (binI op j a b h) (.fail 6) = .ok v h' := by
    cases op <;> first | exact absurd rfl h1 | exact absurd rfl h2 | exact hrun
  obtain ⟨hkk, hr'⟩ := onB_ok hr
  have e := kindEq_eq hkk
  subst e
  exact binI_ok hr' t w π ⟨h1, h2⟩
theorem binV_ok (S : Setup P T E N0 w0 Dk) {op : BinOp} {t : TypeId} {k : EqK} (hk : k = eqK T t ∨ k = .none) {x y : AV} {h h' : Hp} {v : AV} (hrun : binV op k x y h = .ok v h') {π : Pm} {x' y' : Value} (hx : VR π x x') (hy : VR π y y') (w : World) :
    h' = h ∧ ∃ v', (binOp op t x' y').run P w = .ok v' w ∧ VR π v v' := by
  by_cases hn : notIntStr x = true
  · rw [binV_rest hn] at hrun
    obtain ⟨_, hrun⟩ := onB_ok hrun
    split at hrun
    · obtain ⟨b, hb, hrun⟩ := onO_ok hrun
      rw [mkB_eq] at hrun
      cases hrun
      rcases hk with rfl | rfl
      · refine ⟨rfl, _, ?_, .bool b⟩
        rw [binOp_eql _ _ _ (hx.plain hn)]
        simp [eqV_ok S hx hy hb w]
      · cases hb
    · obtain ⟨b, hb, hrun⟩ := onO_ok hrun
      rw [mkB_eq] at hrun
      cases hrun
      rcases hk with rfl | rfl
      · refine ⟨rfl, _, ?_, .bool (!b)⟩
        rw [binOp_neq _ _ _ (hx.plain hn)]
        simp [eqV_ok S hx hy hb w]
      · cases hb
    · cases hrun
  · cases x <;> first | exact absurd rfl hn | skip
    · rename_i s
      change (match y with | .str b => binS op s b h | _ => .fail 6) = _ at hrun
      cases y <;> first | (cases hrun; done) | skip
      cases hx; cases hy
      exact binS_ok hrun t w π
    · rename_i j a
      cases y <;> first | (cases hrun; done) | skip
      rename_i j' b
      cases hx; cases hy
      exact binV_int hrun t w π

/-- the guard of an equality -/
theorem eqGuard_none {op : BinOp} (h : op ≠ .eql) (h' : op ≠ .neq) (t : TypeId) (x y : Operand) (a b : Value) : eqGuard op t x y a b = pure () := by
  cases op <;> first | rfl | exact absurd rfl h | exact absurd rfl h'

theorem eqGuard_ok (S : Setup P T E N0 w0 Dk) {op : BinOp} {t : TypeId} {x y : AV} {b : Bool} {π : Pm} {x' y' : Value} (X Y : Operand) (hx : VR π x x') (hy : VR π y y')
    (hv : eqV (eqK T t) x y = some b ∨ notIntStr x = false) (hc : eqK T t = .iface → (isConst X || isConst Y) = true) (w : World) : (eqGuard op t X Y x' y').run P w = .ok () w := by
  rcases hv with hv | hv
  · cases hk : eqK T t with
    | none => rw [hk] at hv; cases hv
    | iface =>
      have h := hc hk
      rw [hk] at hv
      obtain ⟨h1, h2, _⟩ := nilEq_inv hv
      cases x <;> first | (cases h1; done) | skip
      all_goals cases y <;> first | (cases h2; done) | skip
      all_goals cases hx; cases hy
      · simp only [Bool.or_eq_true] at h
        rcases h with h | h
        · cases X <;> first | (cases h; done) | skip
          rw [eqGuard_nil_constL]; rfl
        · cases Y <;> first | (cases h; done) | skip
          rw [eqGuard_nil_constR]; rfl
      · rw [eqGuard_nil_iface]; rfl
      · rw [eqGuard_at_iface]; rfl
      · rw [eqGuard_at_iface]; rfl
    | struct os =>
      rw [hk] at hv
      cases x <;> first | (cases hv; done) | skip
      cases y <;> first | (cases hv; done) | skip
      obtain ⟨xs', rfl, _⟩ := hx.agg_iff
      obtain ⟨ys', rfl, _⟩ := hy.agg_iff
      exact run_eqGuard_agg w op t X Y _ _ (S.st t os hk).2
    | bool =>
      rw [hk] at hv
      cases x <;> first | (cases hv; done) | skip
      cases hx; rw [eqGuard_at_bool]; rfl
    | ptr =>
      rw [hk] at hv
      obtain ⟨h1, h2, _⟩ := nilEq_inv hv
      cases x <;> first | (cases h1; done) | skip
      all_goals (cases hx; rw [eqGuard_at_pointer]; rfl)
    | slice =>
      rw [hk] at hv
      obtain ⟨h1, h2, _⟩ := nilEq_inv hv
      cases x <;> first | (cases h1; done) | skip
      all_goals (cases hx; rw [eqGuard_at_slice]; rfl)
    | map =>
      rw [hk] at hv
      obtain ⟨h1, h2, _⟩ := nilEq_inv hv
      cases x <;> first | (cases h1; done) | skip
      all_goals (cases hx; rw [eqGuard_at_map]; rfl)
    | func =>
      rw [hk] at hv
      obtain ⟨h1, h2, _⟩ := nilEq_inv hv
      cases x <;> first | (cases h1; done) | skip
      all_goals (cases hx; first | (rw [eqGuard_at_func]; rfl) | (rw [eqGuard_at_nilFunc]; rfl))
  · cases x <;> first | (cases hv; done) | skip
    · cases hx; rw [eqGuard_at_string]; rfl
    · cases hx; rw [eqGuard_at_int]; rfl

theorem binV_eqV {op : BinOp} (ho : op = .eql ∨ op = .neq) {k : EqK} {x y : AV} {h h' : Hp} {v : AV} (hrun : binV op k x y h = .ok v h') : (∃ b, eqV k x y = some b) ∨ notIntStr x = false := by
  by_cases hn : notIntStr x = true
  · rw [binV_rest hn] at hrun
    obtain ⟨_, hrun⟩ := onB_ok hrun
    rcases ho with rfl | rfl
    · obtain ⟨b, hb, _⟩ := onO_ok hrun; exact .inl ⟨b, hb⟩
    · obtain ⟨b, hb, _⟩ := onO_ok hrun; exact .inl ⟨b, hb⟩
  · exact .inr (by simpa using hn)

theorem binV_same {op : BinOp} {k : EqK} {x y : AV} {h h' : Hp} {v : AV} (hrun : binV op k x y h = .ok v h') : h' = h := by
  by_cases hn : notIntStr x = true
  · rw [binV_rest hn] at hrun
    obtain ⟨_, hrun⟩ := onB_ok hrun
    split at hrun
    · obtain ⟨b, hb, hrun⟩ := onO_ok hrun
      rw [mkB_eq] at hrun; cases hrun; rfl
    · obtain ⟨b, hb, hrun⟩ := onO_ok hrun
      rw [mkB_eq] at hrun; cases hrun; rfl
    · cases hrun
  · cases x <;> first | exact absurd rfl hn | skip
    · rename_i s
      change (match y with | .str b => binS op s b h | _ => .fail 6) = _ at hrun
      cases y <;> first | (cases hrun; done) | skip
      cases op <;> simp only [binS, mkB_eq] at hrun <;> first | (cases hrun; done) | (cases hrun; rfl) | (obtain ⟨_, hrun⟩ := onB_ok hrun; cases hrun; rfl)
    · cases y <;> first | (cases hrun; done) | skip
      exact (binV_int (P := default) hrun 0 default (fun _ => none)).1

theorem ok_binOp (S : Setup P T E N0 w0 Dk) (op : BinOp) (t : TypeId) (x y : Operand) (z : _) {cx : Ctx} {a : Act} (h : opC T E cx (.binOp op t x y z) some none = some a) : ActOk P Dk N0 w0 cx (.binOp op t x y z) a := by
  simp only [opC] at h
  obtain ⟨g, hg, h⟩ := opn1 h
  obtain ⟨g', hg', h⟩ := opn1 h
  have key : ∃ k, a = aBin op k g g' ∧ (k = eqK T t ∨ k = .none) ∧ ((op = .eql ∨ op = .neq) → k = eqK T t ∧ (eqK T t = .iface → (isConst x || isConst y) = true)) := by
    split at h
    · split at h
      · rename_i hk
        obtain ⟨hc, h⟩ := onB1 h
        cases h
        exact ⟨_, rfl, .inl hk.symm, fun _ => ⟨hk.symm, fun _ => hc⟩⟩
      · rename_i hk
        cases h
        exact ⟨_, rfl, .inl rfl, fun _ => ⟨rfl, fun h => absurd h hk⟩⟩
    · split at h
      · rename_i hk
        obtain ⟨hc, h⟩ := onB1 h
        cases h
        exact ⟨_, rfl, .inl hk.symm, fun _ => ⟨hk.symm, fun _ => hc⟩⟩
      · rename_i hk
        cases h
        exact ⟨_, rfl, .inl rfl, fun _ => ⟨rfl, fun h => absurd h hk⟩⟩
    · rename_i h1 h2
      cases h
      exact ⟨_, rfl, .inr rfl, fun h => h.elim (fun h => absurd h h1) (fun h => absurd h h2)⟩
  obtain ⟨k, rfl, hk, hke⟩ := key
  refine pure_ok fun ih loc tm hp v hp' hrun => ?_
  simp only [aBin] at hrun
  obtain ⟨av, hav, hrun⟩ := onO_ok hrun
  obtain ⟨bv, hbv, hrun⟩ := onO_ok hrun
  have heq : hp' = hp := binV_same hrun
  refine ⟨heq, fun π w ρ o ho hops hr => ?_⟩
  have hx := hops x (by simp [Op.operands]) g hg _ hav
  have hy := hops y (by simp [Op.operands]) g' hg' _ hbv
  obtain ⟨_, v', h1, h2⟩ := binV_ok S hk hrun hx hy w
  have hG : (eqGuard op t x y (ρ x) (ρ y)).run P w = .ok () w := by
    by_cases he : op = .eql ∨ op = .neq
    · obtain ⟨rfl, hc⟩ := hke he
      rcases binV_eqV he hrun with ⟨b, hb⟩ | hb
      · exact eqGuard_ok S x y hx hy (.inl hb) hc w
      · exact eqGuard_ok (b := true) S x y hx hy (.inr hb) hc w
    · rw [eqGuard_none (fun h => he (.inl h)) (fun h => he (.inr h))]; rfl
  exact ⟨v', by simp [execOp, ho, hG, h1], h2⟩

theorem ok_unOp (op : UnOp) (t : TypeId) (x : Operand) {cx : Ctx} {a : Act} (h : opC T E cx (.unOp op t x) some none = some a) : ActOk P Dk N0 w0 cx (.unOp op t x) a := by
  simp only [opC] at h
  obtain ⟨g, hg, h⟩ := opn1 h
  cases h
  refine pure_ok fun ih loc tm hp v hp' hrun => ?_
  simp only [aUn] at hrun
  obtain ⟨av, hav, hrun⟩ := onO_ok hrun
  unfold unV at hrun
  split at hrun
  · rw [mkI_eq] at hrun; cases hrun
    refine ⟨rfl, fun π w ρ o ho hops hr => ?_⟩
    have hx := hops x (by simp [Op.operands]) g hg _ hav
    cases hρ : ρ x <;> rw [hρ] at hx <;> cases hx
    exact ⟨_, by simp [execOp, ho, hρ, Op.unary, Op.intArith] <;> rfl, .int _ _⟩
  · rw [mkB_eq] at hrun; cases hrun
    refine ⟨rfl, fun π w ρ o ho hops hr => ?_⟩
    have hx := hops x (by simp [Op.operands]) g hg _ hav
    cases hρ : ρ x <;> rw [hρ] at hx <;> cases hx
    exact ⟨_, by simp [execOp, ho, hρ, Op.unary] <;> rfl, .bool _⟩
  · rw [mkI_eq] at hrun; cases hrun
    refine ⟨rfl, fun π w ρ o ho hops hr => ?_⟩
    have hx := hops x (by simp [Op.operands]) g hg _ hav
    cases hρ : ρ x <;> rw [hρ] at hx <;> cases hx
    exact ⟨_, by simp only [execOp, ho, hρ, Op.unary, Op.intBits]; rfl, .int _ _⟩
  · cases hrun

end
end Go.Sx
