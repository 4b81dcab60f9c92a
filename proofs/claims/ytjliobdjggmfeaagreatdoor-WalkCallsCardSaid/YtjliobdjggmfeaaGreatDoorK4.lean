/-
  The executor's literals and appends answer as the model's do, for every program.
-/
import Derived.Test.YtjliobdjggmfeaaGreatDoorK3
import Derived.Laws.Tables
import Derived.Great.BuildSlice
import Derived.Deep.AppendSrc
import Derived.Laws.AppendOwn
set_option linter.unusedVariables false
set_option linter.unusedSimpArgs false
namespace Go.Sx
section
variable {P : Program} {T : Nat → Option TypeInfo} {E : Env} {N0 : Nat} {w0 : World} {Dk : Deferred → Prop}

/-- the parts of a literal: where they go, and their closures -/
inductive Pl (cx : Ctx) (place : Nat → Option (Nat × Nat)) : List (Nat × Operand) → List (Nat × Nat × Get) → Prop
  | nil : Pl cx place [] []
  | cons {i : Nat} {x : Operand} {ps : List (Nat × Operand)} {off n : Nat} {g : Get} {qs : List (Nat × Nat × Get)} : place i = some (off, n) → opG cx x = some g → Pl cx place ps qs → Pl cx place ((i, x) :: ps) ((off, n, g) :: qs)

theorem placesK_ok {cx : Ctx} {fields : List Field} {place : Nat → Option (Nat × Nat)} (hp : ∀ (i : Nat) (f : Field) (n : Nat), fields[i]? = some f → szOf T f.type = some n → place i = some (f.offset, n)) :
    ∀ {ps : List (Nat × Operand)} {β : Type} {K : List (Nat × Nat × Get) → Option β} {a : β}, placesK T cx K none fields ps = some a → ∃ qs, Pl cx place ps qs ∧ K qs = some a
  | [], β, K, a, h => ⟨[], .nil, h⟩
  | (i, x) :: ps, β, K, a, h => by
    unfold placesK at h
    split at h
    · rename_i f hf
      split at h
      · rename_i n hn
        obtain ⟨g, hg, h⟩ := opn1 h
        obtain ⟨qs, h1, h2⟩ := placesK_ok hp h
        rw [nth_eq] at hf
        exact ⟨_, .cons (hp i f n hf hn) hg h1, h2⟩
      · cases h
    · cases h
theorem partsK_ok {cx : Ctx} {n : Nat} : ∀ {ps : List (Nat × Operand)} {β : Type} {K : List (Nat × Nat × Get) → Option β} {a : β}, partsK cx K none n ps = some a → ∃ qs, Pl cx (fun i => some (i * n, n)) ps qs ∧ K qs = some a
  | [], β, K, a, h => ⟨[], .nil, h⟩
  | (i, x) :: ps, β, K, a, h => by
    unfold partsK at h
    obtain ⟨g, hg, h⟩ := opn1 h
    rw [natK_eq] at h
    obtain ⟨qs, h1, h2⟩ := partsK_ok h
    exact ⟨_, .cons rfl hg h1, h2⟩

theorem foldl_over (off : Nat) (l cs : List Value) (h : off + l.length ≤ cs.length) :
    (l.zipIdx.foldl (fun (cs : Array Value) (x : Value × Nat) => cs.setIfInBounds (off + x.2) x.1) cs.toArray) = (cs.take off ++ l ++ cs.drop (off + l.length)).toArray := by
  obtain ⟨h1, h2⟩ := Go.Great.foldl_set off l 0 cs.toArray
  apply Array.ext_getElem?
  intro k
  rw [h2 k]
  simp only [Nat.add_zero, List.size_toArray, List.getElem?_toArray]
  by_cases hk : off ≤ k ∧ k < off + l.length
  · rw [if_pos ⟨hk.1, hk.2, by omega⟩, List.append_assoc, List.getElem?_append_right (by simp; omega), List.getElem?_append_left (by simp; omega)]
    simp [Nat.min_eq_left (show off ≤ cs.length by omega)]
  · rw [if_neg (by omega)]
    by_cases hlt : k < off
    · rw [List.append_assoc, List.getElem?_append_left (by simp; omega), List.getElem?_take]
      simp [hlt]
    · rw [List.getElem?_append_right (by simp; omega), List.getElem?_drop]
      congr 1
      simp; omega

theorem VRs.over {π : Pm} {cs vs : List AV} {cs' vs' : List Value} (h : VRs π cs cs') (hv : VRs π vs vs') (off : Nat) : VRs π (cs.take off ++ vs ++ cs.drop (off + vs.length)) (cs'.take off ++ vs' ++ cs'.drop (off + vs'.length)) := by
  have h1 := h.part 0 off
  simp only [List.drop_zero] at h1
  refine (h1.append hv).append ?_
  have h2 := h.part (off + vs.length) cs.length
  rw [List.take_of_length_le (by simp)] at h2
  rw [List.take_of_length_le (by simp [h.1]), hv.1] at h2
  rw [hv.1]
  exact h2

theorem fill_ok {cx : Ctx} {π : Pm} {loc : List AV} {tm : Tm} {ρ : Operand → Value} {place : Nat → Option (Nat × Nat)} : ∀ {ps : List (Nat × Operand)} {qs : List (Nat × Nat × Get)} {cs r : List AV} {cs' : List Value},
    Pl cx place ps qs → (∀ p ∈ ps, OpOk cx π loc tm ρ p.2) → fillAll loc tm qs cs = some r → VRs π cs cs' → (∀ x ∈ cs', x.oneCell' = true) →
    ∃ r' : List Value, Instr.fill place cs'.toArray (ps.map fun p => (p.1, ρ p.2)) = some r'.toArray ∧ VRs π r r' ∧ ∀ x ∈ r', x.oneCell' = true
  | _, _, cs, r, cs', .nil, _, hf, hv, h1 => by cases hf; exact ⟨cs', rfl, hv, h1⟩
  | _, _, cs, r, cs', .cons (i := i) (x := x) (off := off) (n := n) (g := g) hp hg hrest, ho, hf, hv, h1 => by
    unfold fillAll at hf
    split at hf
    · rename_i v hgv
      split at hf
      · rename_i vs hvs
        obtain ⟨hb, hf⟩ := onB1 hf
        simp only [Bool.and_eq_true, Nat.beq_eq, lenL_eq, Nat.ble_eq] at hb
        obtain ⟨hb1, hb2⟩ := hb
        rw [fillK_eq _ _ _ _ (by omega)] at hf
        obtain ⟨vs', c1, c2, c3⟩ := clO_some (ho (i, x) (by simp) g hg v hgv) hvs
        have hl1 := c2.1
        have hl2 := hv.1
        obtain ⟨r', k1, k2, k3⟩ := fill_ok hrest (fun p hp => ho p (by simp [hp])) hf (hv.over c2 off) (by
          intro x hx
          simp only [List.mem_append] at hx
          rcases hx with (hx | hx) | hx
          · exact h1 x (List.mem_of_mem_take hx)
          · exact c3 x hx
          · exact h1 x (List.mem_of_mem_drop hx))
        refine ⟨r', ?_, k2, k3⟩
        simp only [List.map_cons, Instr.fill, hp, c1]
        rw [if_neg (by simp; omega)]
        have := foldl_over off vs' cs' (by omega)
        rw [show vs'.toArray.zipIdx = vs'.zipIdx.toArray by simp]
        simp only [List.foldl_toArray]
        rw [this]
        exact k1
      · cases hf
    · cases hf

theorem places_ok (S : Setup P T E N0 w0 Dk) : ∀ (fs : List Field), (∀ f ∈ fs, ∃ i, T f.type = some i) → ∃ places, fs.mapM (fun f => (P.info? f.type).map fun i => (f.offset, i.size)) = some places ∧
    ∀ (i : Nat) (f : Field) (n : Nat), fs[i]? = some f → szOf T f.type = some n → places[i]? = some (f.offset, n)
  | [], _ => ⟨[], rfl, fun i f n h => by simp at h⟩
  | f :: fs, h => by
    obtain ⟨i, hi⟩ := h f (by simp)
    obtain ⟨pl, h1, h2⟩ := places_ok S fs (fun g hg => h g (by simp [hg]))
    refine ⟨(f.offset, i.size) :: pl, ?_, fun j g n hj hn => ?_⟩
    · simp [List.mapM_cons, S.ty _ i hi, h1]
    · cases j with
      | zero =>
        simp at hj
        subst hj
        have : i.size = n := by unfold szOf at hn; rw [hi] at hn; cases hn; rfl
        simp [this]
      | succ j => simpa using h2 j g n (by simpa using hj) hn

theorem partsOps {ps : Array (Nat × Operand)} {Q : Operand → Prop} {t : TypeId} (h : ∀ y ∈ (Op.build t ps).operands.toList, Q y) : ∀ p ∈ ps.toList, Q p.2 := by
  have e : (Op.build t ps).operands = (ps.toList.map (·.2)).toArray := rfl
  rw [e] at h
  exact fun p hp => h p.2 (by simp only [List.mem_map]; exact ⟨p, hp, rfl⟩)

theorem ok_build (S : Setup P T E N0 w0 Dk) (t : TypeId) (parts : Array (Nat × Operand)) {cx : Ctx} {a : Act} (h : opC T E cx (.build t parts) some none = some a) : ActOk P Dk N0 w0 cx (.build t parts) a := by
  simp only [opC] at h
  obtain ⟨i, z, zv, hT, hz, hzv, h⟩ := zero1 h
  obtain ⟨zs, hzs, h⟩ := onO1 h
  have fin : ∀ (place : Nat → Option (Nat × Nat)) (qs : List (Nat × Nat × Get)), Pl cx place parts.toList qs →
      (∀ w (l : List (Nat × Value)) (cells : Array Value), Instr.fill place z.cells l = some cells → (Instr.build t l.toArray).run P w = .ok (.agg cells) w) → ActOk P Dk N0 w0 cx (.build t parts) (aBuild zs qs) := by
    intro place qs hpl hbuild
    refine pure_ok fun ih loc tm hp v hp' hrun => ?_
    simp only [aBuild] at hrun
    obtain ⟨cs, hcs, hrun⟩ := onO_ok hrun
    cases hrun
    refine ⟨rfl, fun π w ρ o ho hops hr => ?_⟩
    obtain ⟨zs', hc', hv, h1⟩ := clO_some (ofVal_VR hzv π) hzs
    obtain ⟨r', k1, k2, k3⟩ := fill_ok hpl (partsOps hops) hcs hv h1
    rw [← hc'] at k1
    have := hbuild w _ _ k1
    refine ⟨.agg r'.toArray, ?_, VR.agg_mk k2 k3⟩
    have e : parts.map (fun (x : Nat × Operand) => (x.1, ρ x.2)) = (parts.toList.map fun p => (p.1, ρ p.2)).toArray := by cases parts; simp
    simp only [execOp, ho, Sem.run_bind, e, this, Result.andThen_ok, Sem.run_pure]
  split at h
  · rename_i fs hu
    obtain ⟨pl, p1, p2⟩ := places_ok S fs.toList (S.fld t fs hu)
    obtain ⟨qs, hq, h⟩ := placesK_ok (place := (pl.toArray[·]?)) (fun i f n h1 h2 => by simpa using p2 i f n h1 h2) h
    cases h
    refine fin _ _ hq fun w l cells hf => run_build w t _ cells ?_
    simp only [Program.built, S.ty t i hT, und_ok S hu, hz, p1]
    simpa using hf
  · rename_i len e hu
    split at h
    · rename_i n hn
      obtain ⟨qs, hq, h⟩ := partsK_ok h
      cases h
      obtain ⟨ie, hie, hsz⟩ := szOf_ok S hn
      refine fin _ _ hq fun w l cells hf => run_build w t _ cells ?_
      simp only [Program.built, S.ty t i hT, und_ok S hu, hz, hie, hsz]
      simpa using hf
    · cases h
  · cases h

theorem ok_buildSlice (S : Setup P T E N0 w0 Dk) (t : TypeId) (len : Nat) (parts : Array (Nat × Operand)) {cx : Ctx} {a : Act} (h : opC T E cx (.buildSlice t len parts) some none = some a) : ActOk P Dk N0 w0 cx (.buildSlice t len parts) a := by
  simp only [opC] at h
  split at h
  · rename_i e hu
    split at h
    · rename_i n hn
      obtain ⟨hle, h⟩ := onB1 h
      obtain ⟨i, z, zv, hT, hz, hzv, h⟩ := zero1 h
      obtain ⟨zs, hzs, h⟩ := onO1 h
      obtain ⟨qs, hq, h⟩ := partsK_ok h
      cases h
      obtain ⟨i', z', hT', hz', hsz, hpos, hbytes⟩ := S.el t e hu
      rw [hT] at hT'; cases hT'
      rw [hz] at hz'; cases hz'
      have hn' : i.size = n := by unfold szOf at hn; rw [hT] at hn; cases hn; rfl
      have hle' : len * n ≤ 10000 := Nat.le_of_ble_eq_true hle
      intro ih _ loc tm hp v hp' hrun
      simp only [aBslice] at hrun
      obtain ⟨cs, hcs, hrun⟩ := onO_ok hrun
      simp only [newSlice] at hrun
      obtain ⟨own, nx, o, rfl, ho', hrun⟩ := made_ok hrun
      cases hrun
      refine ⟨by simp [nextOf], fun π w ρ oo ho hops hr hf => ?_⟩
      have free := hf nx (by simp [nextOf]) (by simp [nextOf])
      obtain ⟨zs', hc', hv, h1⟩ := clO_some (ofVal_VR hzv π) hzs
      obtain ⟨r', k1, k2, k3⟩ := fill_ok hq (partsOps (t := t) hops) hcs (hv.repeat len) (fun x hx => h1 x (mem_repeat _ _ _ hx))
      have hzl : z.cells.toList = zs' := by rw [hc']
      have hrow : (Array.range (len * n)).map (z.cells[· % z.cells.size]!) = (repeatL zs' len).toArray := by
        rw [← hn', ← hsz, ← hzl]; exact made_repeat z.cells (by omega) len
      have hb : (Instr.buildSlice t len (parts.map fun (x : Nat × Operand) => (x.1, ρ x.2))).run P w = .ok (.slice (some ⟨w.heap.size, 0, none⟩) len len) (w.alloc (.cells r'.toArray e)) := by
        have e0 : parts.map (fun (x : Nat × Operand) => (x.1, ρ x.2)) = (parts.toList.map fun p => (p.1, ρ p.2)).toArray := by cases parts; simp
        rw [e0]
        by_cases h0 : len * n = 0
        · have hl0 : len = 0 := by
            rcases Nat.mul_eq_zero.1 h0 with h | h
            · exact h
            · omega
          subst hl0
          have hk : Instr.fill (fun i => some (i * n, n)) #[] (parts.toList.map fun p => (p.1, ρ p.2)) = some r'.toArray := by
            have : (repeatL zs' 0).toArray = #[] := rfl
            rw [← this]; exact k1
          simp [Instr.buildSlice, run_underlying (und_ok S hu), sizeOf, typeInfo, S.ty e i hT, hn', hk, newRow, show Array.range 0 = #[] from rfl]
        · exact run_buildSlice w t e len _ r'.toArray i z (und_ok S hu) (S.ty e i hT) hz (by rw [hn']; omega) (by rw [hn']; exact h0) (by rw [hn', hrow]; exact k1)
      obtain ⟨k4, k5⟩ := newRow_ok hr free k2 k3 ho' r'.toArray e (fun i v h => by simpa using h) (by simp)
      refine .value (w' := w.alloc (.cells r'.toArray e)) (v := .slice (some ⟨w.heap.size, 0, none⟩) len len) ?_ ⟨_, ?_, k4, k5⟩
      · simp only [execOp, ho, Sem.run_bind, hb, Result.andThen_ok, Sem.run_pure]
      · exact VR.slice (p := ⟨w.heap.size, 0, _⟩) nx 0 len len 0 (upd_same _ _ _) ⟨Nat.le_refl _, fun _ => rfl, fun h => absurd rfl h⟩
    · cases h
  · cases h
end
end Go.Sx

namespace Go.Sx
section
variable {P : Program} {T : Nat → Option TypeInfo} {E : Env} {N0 : Nat} {w0 : World} {Dk : Deferred → Prop}

theorem growBy_le (m : Nat) : ∀ (r c : Nat), c ≤ m + (m + 768) / 4 → Builtin.growBy m r c ≤ m + (m + 768) / 4
  | 0, c, h => by simpa [Builtin.growBy] using h
  | r + 1, c, h => by
    simp only [Builtin.growBy]
    split
    · exact h
    · exact growBy_le m r _ (by omega)
theorem next_le (m c : Nat) (h : c < m) : Builtin.nextslicecap m c ≤ 2 * m + 512 := by
  unfold Builtin.nextslicecap
  split
  · omega
  · split
    · omega
    · have := growBy_le m 4 c (by omega)
      omega

/-- what an append does, of what is appended: n elements -/
structure AppOk (P : Program) (A : Value → Sem Value) (e : TypeId) (i : TypeInfo) (z : Value) (n : Nat) (news : List Value) (w : World) : Prop where
  room : ∀ b off sLen sCap, sLen + n ≤ sCap → (∀ j, j < news.length → (w.cell? ⟨b, off + sLen * i.size + j, none⟩).isSome = true) → (∀ j, j < news.length → w.frozen? ⟨b, off + sLen * i.size + j, none⟩ = false) →
    (A (.slice (some ⟨b, off, none⟩) sLen sCap)).run P w = .ok (.slice (some ⟨b, off, none⟩) (sLen + n) sCap) (w.setCells b (off + sLen * i.size) news)
  grow : ∀ base sLen sCap (olds : List Value), (Builtin.firstCells i.size sLen (.slice base sLen sCap)).run P w.drew = .ok olds.toArray w.drew → sCap < sLen + n → ((sLen + n : Nat) : Int) ≤ 9223372036854775807 →
    Builtin.nextslicecap (sLen + n) sCap * i.bytes ≤ 281474976710656 → (A (.slice base sLen sCap)).run P w =
      .ok (.slice (some ⟨w.heap.size, 0, none⟩) (sLen + n) (grownCap w (sLen + n) sCap e)) (w.drew.alloc (.cells ((olds ++ news).toArray ++ Builtin.zeroCells z.cells (grownCap w (sLen + n) sCap e - (sLen + n))) e))
  none0 : n = 0 → (A (.slice none 0 0)).run P w = .ok (.slice none 0 0) w

/-- an object's cells, beside the model's -/
def ObjCells (π : Pm) (o : AObj) (cs' : List Value) : Prop := match o with
  | .row cs m => cs.length = m ∧ m ≤ cs'.length ∧ ∀ (i : Nat) (v : AV), cs[i]? = some v → ∃ v', cs'[i]? = some v' ∧ VR π v v' ∧ v'.oneCell' = true
  | .cells t m => m ≤ cs'.length ∧ ∀ (i : Nat) (v : AV), getN 7 t i = some v → i < m ∧ ∃ v', cs'[i]? = some v' ∧ VR π v v' ∧ v'.oneCell' = true
  | .map _ => False

theorem ObjCells.rel {π π' : Pm} {o : AObj} {cs' : List Value} (h : ObjCells π o cs') (hle : π.le π') {p : PI} {w : World} (hb : Blk w p) (hl : p.base + cs'.length ≤ p.room) (hc : ∀ (i : Nat) (v' : Value), cs'[i]? = some v' → w.cell? ⟨p.blk, p.base + i, none⟩ = some v') : ObjRel π' o p w := by
  cases o with
  | map es => exact h.elim
  | row cs m =>
    refine ⟨hb, by have := h.2.1; omega, h.1, fun i v hv => ?_⟩
    obtain ⟨v', h1, h2, h3⟩ := h.2.2 i v hv
    exact ⟨v', hc i v' h1, h2.mono hle, h3⟩
  | cells t m =>
    refine ⟨hb, by have := h.1; omega, fun i v hv => ?_⟩
    obtain ⟨h0, v', h1, h2, h3⟩ := h.2 i v hv
    exact ⟨h0, v', hc i v' h1, h2.mono hle, h3⟩
theorem ObjCells.mk {π : Pm} {cs : List AV} {o : AObj} (ho : NewObj cs o) {cs' : List Value} (hv : VRs π cs cs') (h1 : ∀ x ∈ cs', x.oneCell' = true) : ObjCells π o cs' := by
  have key : ∀ (i : Nat) (v : AV), cs[i]? = some v → ∃ v', cs'[i]? = some v' ∧ VR π v v' ∧ v'.oneCell' = true := fun i v hi => by
    obtain ⟨v', h2, h3⟩ := hv.get hi
    exact ⟨v', h2, h3, h1 _ (List.mem_iff_getElem?.2 ⟨i, h2⟩)⟩
  rcases ho with rfl | rfl
  · exact ⟨rfl, by rw [hv.1]; exact Nat.le_refl _, key⟩
  · refine ⟨by rw [hv.1]; exact Nat.le_refl _, fun i v hi => ?_⟩
    rcases get_setL _ _ _ _ _ _ hi with ⟨_, h2⟩ | ⟨_, h2⟩
    · exact ⟨(List.getElem?_eq_some_iff.1 (by simpa using h2)).1, key i v (by simpa using h2)⟩
    · rw [show e7 = emp AV 7 from rfl, get_emp] at h2; cases h2

theorem Step.drew {π π' : Pm} {h h' : Hp} {w w' : World} (s : Step π π' h h' w.drew w') : Step π π' h h' w w' := ⟨s.le, s.fresh, s.next, s.size, s.keep, s.ghost, s.img⟩

theorem size_zeroCells (z : Array Value) (n : Nat) : (Builtin.zeroCells z n).size = n * z.size := by simp [Builtin.zeroCells]

/-- a new row, grown -/
theorem grow_core {π : Pm} {own : TyL AObj 8} {nx : Nat} {w : World} (hr : HRel N0 w0 π (.mk own nx) w) (free : π nx = none) {o : AObj} {cs' : List Value} (ho : ObjCells π o cs') {need cap' sz : Nat} (hs0 : 0 < sz) (hcs : cs'.length = need * sz) (hcap : need ≤ cap') (z : Array Value) (hz : z.size = sz) (e : TypeId) :
    Post N0 w0 π (.mk own nx) w (.slice nx 0 need need sz) (.mk (setP (some o) 8 own nx) (nx + 1)) (.slice (some ⟨w.heap.size, 0, none⟩) need cap') (w.alloc (.cells (cs'.toArray ++ Builtin.zeroCells z (cap' - need)) e)) := by
  have hsz : (cs'.toArray ++ Builtin.zeroCells z (cap' - need)).size = cap' * sz := by
    rw [Array.size_append, size_zeroCells, hz, List.size_toArray, hcs, ← Nat.add_mul]; congr 1; omega
  generalize hA : cs'.toArray ++ Builtin.zeroCells z (cap' - need) = A at hsz ⊢
  have hle := upd_le (π := π) (b := nx) ⟨w.heap.size, 0, cap' * sz⟩ free
  have hblk : Blk (w.alloc (.cells A e)) ⟨w.heap.size, 0, cap' * sz⟩ := fun i hi => by
    have hi' : i < A.size := by rw [hsz]; exact hi
    exact ⟨by simp [hi'], by simp⟩
  have hrel := ho.rel hle hblk (by simp only [hcs, Nat.zero_add]; exact Nat.mul_le_mul_right _ hcap) (fun i v' hv => by
    have hlt := (List.getElem?_eq_some_iff.1 hv).1
    have hA' : A[i]? = some v' := by
      rw [← hA, Array.getElem?_append, if_pos (by simpa using hlt)]
      simpa using hv
    simp [hA'])
  obtain ⟨k1, k2⟩ := hr.alloc free o (.cells A e) (cap' * sz) hrel
  refine ⟨_, ?_, k1, k2⟩
  exact VR.slice (p := ⟨w.heap.size, 0, cap' * sz⟩) nx 0 need need sz (upd_same _ _ _) ⟨hcap, fun h => by omega, fun _ => by simp⟩
theorem grow_post {π : Pm} {own : TyL AObj 8} {nx : Nat} {w : World} (hr : HRel N0 w0 π (.mk own nx) w) (free : π nx = none) {o : AObj} {cs' : List Value} (ho : ObjCells π o cs') {need cap' sz : Nat} (hs0 : 0 < sz) (hcs : cs'.length = need * sz) (hcap : need ≤ cap') (z : Array Value) (hz : z.size = sz) (e : TypeId) :
    Post N0 w0 π (.mk own nx) w (.slice nx 0 need need sz) (.mk (setP (some o) 8 own nx) (nx + 1)) (.slice (some ⟨w.heap.size, 0, none⟩) need cap') (w.drew.alloc (.cells (cs'.toArray ++ Builtin.zeroCells z (cap' - need)) e)) := by
  have hr' : HRel N0 w0 π (.mk own nx) w.drew := hr.drawn _
  obtain ⟨π', h1, h2, h3⟩ := grow_core hr' free ho hs0 hcs hcap z hz e
  exact ⟨π', h1, h2, h3.drew⟩

/-- the cells of a new row are those of the old one, and the new ones -/
def OldCells (ob o : AObj) (off m : Nat) (new : List AV) : Prop := ∀ (π : Pm) (p : PI) (w : World) (news : List Value), ObjRel π ob p w → VRs π new news → (∀ x ∈ news, x.oneCell' = true) →
  Blk w p ∧ ∃ olds : List Value, olds.length = m ∧ (∀ (i : Nat) (v : Value), olds[i]? = some v → w.cell? ⟨p.blk, p.base + off + i, none⟩ = some v) ∧ ObjCells π o (olds ++ news)

theorem old_slow {ob o : AObj} {off m : Nat} {old new : List AV} (hc : cellsOf ob off m = some old) (ho : NewObj (old ++ new) o) : OldCells ob o off m new := by
  intro π p w news hr hv h1
  obtain ⟨k1, k2⟩ := objCells_ok hr hc
  obtain ⟨olds, k3, k4, k5⟩ := cells_list (o := p.base + off) k1 (fun j v hj => k2 j v hj)
  have hb : Blk w p := by
    cases ob with
    | row => exact hr.1
    | cells => exact hr.1
    | map => cases hc
  refine ⟨hb, olds, by rw [← k3.1, k1], fun i v hv => ?_, ObjCells.mk ho (k3.append hv) (fun x hx => (List.mem_append.1 hx).elim (k5 x) (h1 x))⟩
  have := k4 i v hv
  rwa [Addr.add_lit] at this

theorem blk_list {w : World} {p : PI} (hb : Blk w p) : ∀ (n off : Nat), off + n ≤ p.room → ∃ l : List Value, l.length = n ∧ ∀ (i : Nat) (v : Value), l[i]? = some v → w.cell? ⟨p.blk, off + i, none⟩ = some v
  | 0, off, _ => ⟨[], rfl, fun i v h => by simp at h⟩
  | n + 1, off, h => by
    obtain ⟨l, h1, h2⟩ := blk_list hb n (off + 1) (by omega)
    have h0 := (hb off (by omega)).1
    cases hv : w.cell? ⟨p.blk, off, none⟩ with
    | none => rw [hv] at h0; cases h0
    | some v =>
      refine ⟨v :: l, by simp [h1], fun i x hi => ?_⟩
      cases i with
      | zero => simp at hi; subst hi; exact hv
      | succ i =>
        have := h2 i x (by simpa using hi)
        rwa [show off + (i + 1) = off + 1 + i by omega]

theorem old_fast {t : TyL AV 7} {m : Nat} {new : List AV} (m' : Nat) (hm : m' = m + new.length) : OldCells (.cells t m) (.cells (setLP 7 new m t) m') 0 m new := by
  intro π p w news hr hv h1
  obtain ⟨olds, k1, k2⟩ := blk_list hr.1 m p.base hr.2.1
  refine ⟨hr.1, olds, k1, fun i v hi => by simpa using k2 i v hi, ?_, fun i v hi => ?_⟩
  · simp [k1, hm, hv.1]
  · rcases get_setL _ _ _ _ _ _ hi with ⟨h2, h3⟩ | ⟨h2, h3⟩
    · obtain ⟨v', h4, h5⟩ := hv.get h3
      have hlt := (List.getElem?_eq_some_iff.1 h3).1
      refine ⟨by omega, v', ?_, h5, h1 _ (List.mem_iff_getElem?.2 ⟨_, h4⟩)⟩
      rw [List.getElem?_append_right (by omega), k1]; exact h4
    · obtain ⟨h4, v', h5, h6, h7⟩ := hr.2.2 i v h3
      refine ⟨by omega, v', ?_, h6, h7⟩
      have hi' : i < olds.length := by omega
      rw [List.getElem?_append_left hi', List.getElem?_eq_getElem hi']
      have := k2 i _ (List.getElem?_eq_getElem hi')
      rw [h5] at this
      exact this.symm

/-- an append of elements to a slice of ours that is full as far as is known -/
theorem appendG_ok {sz n need b off len z : Nat} {new : List AV} {own : TyL AObj 8} {nx : Nat} {v : AV} {h' : Hp} (hn : need = len + n)
    (hrun : onO (.fail 11) (fun o => onB (Nat.beq z 0)
            (onO (.fail 11) (fun old => appK old new (fun cs => newSlice (.mk own nx) sz cs need)) (cellsOf o off (len * sz)))
            (onB (Nat.beq z sz) (match o with
              | .cells t m => onB (Nat.beq off 0 && Nat.beq (len * sz) m)
                (setL 7 new (len * sz) t (fun t => setN none 8 own b (fun own =>
                  natK (need * sz) (fun m => newObjK (.mk own nx) (.cells t m) (fun b h => .ok (.slice b 0 need need sz) h)))))
                (onO (.fail 11) (fun old => setN none 8 own b (fun own => appK old new (fun cs => newSlice (.mk own nx) sz cs need))) (cellsOf (.cells t m) off (len * sz)))
              | o => onO (.fail 11) (fun old => setN none 8 own b (fun own => appK old new (fun cs => newSlice (.mk own nx) sz cs need))) (cellsOf o off (len * sz)))
              (.fail 11))) (getN 8 own b) = .ok v h') :
    ∃ ob o, getN 8 own b = some ob ∧ v = .slice nx 0 need need sz ∧ (new.length = n * sz → OldCells ob o off (len * sz) new) ∧
      ((z = 0 ∧ h' = .mk (setP (some o) 8 own nx) (nx + 1)) ∨ (z = sz ∧ h' = .mk (setP (some o) 8 (setP none 8 own b) nx) (nx + 1))) := by
  obtain ⟨ob, hob, hrun'⟩ := onO_ok hrun
  clear hrun
  have hrun := hrun'
  clear hrun'
  have slow : ∀ {own' : TyL AObj 8} {old : List AV}, cellsOf ob off (len * sz) = some old → newSlice (.mk own' nx) sz (old ++ new) need = .ok v h' →
      ∃ o, v = .slice nx 0 need need sz ∧ (new.length = n * sz → OldCells ob o off (len * sz) new) ∧ h' = .mk (setP (some o) 8 own' nx) (nx + 1) := by
    intro own' old hc hr
    simp only [newSlice] at hr
    obtain ⟨own2, n2, o, he, ho, hr⟩ := made_ok hr
    cases he
    cases hr
    exact ⟨o, rfl, fun _ => old_slow hc ho, rfl⟩
  rw [onB_eq] at hrun
  split at hrun
  · rename_i hz
    obtain ⟨old, hold, hrun⟩ := onO_ok hrun
    rw [appK_eq] at hrun
    obtain ⟨o, h1, h2, h3⟩ := slow hold hrun
    exact ⟨ob, o, hob, h1, h2, .inl ⟨Nat.eq_of_beq_eq_true hz, h3⟩⟩
  · obtain ⟨hz, hrun'⟩ := onB_ok hrun
    clear hrun
    have hrun := hrun'
    clear hrun'
    have hz' := Nat.eq_of_beq_eq_true hz
    have slow2 : onO (.fail 11) (fun old => setN none 8 own b (fun own => appK old new (fun cs => newSlice (.mk own nx) sz cs need))) (cellsOf ob off (len * sz)) = .ok v h' →
        ∃ ob o, getN 8 own b = some ob ∧ v = .slice nx 0 need need sz ∧ (new.length = n * sz → OldCells ob o off (len * sz) new) ∧
      ((z = 0 ∧ h' = .mk (setP (some o) 8 own nx) (nx + 1)) ∨ (z = sz ∧ h' = .mk (setP (some o) 8 (setP none 8 own b) nx) (nx + 1))) := by
      intro hr
      obtain ⟨old, hold, hr⟩ := onO_ok hr
      rw [setN_eq, appK_eq] at hr
      obtain ⟨o, h1, h2, h3⟩ := slow hold hr
      exact ⟨ob, o, hob, h1, h2, .inr ⟨hz', h3⟩⟩
    split at hrun
    · rename_i t m
      rw [onB_eq] at hrun
      split at hrun
      · rename_i hb
        simp only [Bool.and_eq_true, Nat.beq_eq] at hb
        obtain ⟨rfl, rfl⟩ := hb
        simp only [setL_eq, setN_eq, natK_eq, newObjK] at hrun
        cases hrun
        exact ⟨_, _, hob, rfl, fun hnew => old_fast _ (by rw [hn, hnew, Nat.add_mul]), .inr ⟨hz', rfl⟩⟩
      · exact slow2 hrun
    · exact slow2 hrun
end
end Go.Sx

namespace Go.Sx
section
variable {P : Program} {T : Nat → Option TypeInfo} {E : Env} {N0 : Nat} {w0 : World} {Dk : Deferred → Prop}

theorem Blk.setCells {w : World} {p : PI} (hb : Blk w p) (o : Nat) (vs : List Value) (h : o + vs.length ≤ p.room) : Blk (w.setCells p.blk o vs) p := fun i hi => by
  refine ⟨?_, by rw [World.frozen?_setCells]; exact (hb i hi).2⟩
  by_cases hr : o ≤ i ∧ i < o + vs.length
  · have := World.cell?_setCells_in p.blk vs o w (fun j hj => (hb (o + j) (by omega)).1) (i - o) (by omega)
    rw [show o + (i - o) = i by omega] at this
    rw [this]; rfl
  · rw [World.cell?_setCells_out _ _ _ _ _ (fun _ _ => by simp only; omega)]; exact (hb i hi).1

theorem fit_ok {need cap bytes : Nat} (h : cap < need) (hb : need * bytes < 1073741824) : Builtin.nextslicecap need cap * bytes ≤ 281474976710656 := by
  have h1 := next_le need cap h
  have h2 : Builtin.nextslicecap need cap * bytes ≤ (2 * need + 512) * bytes := Nat.mul_le_mul_right _ h1
  have h3 : (2 * need + 512) * bytes = 2 * (need * bytes) + 512 * bytes := by rw [Nat.add_mul, Nat.mul_assoc]
  have h4 : bytes ≤ need * bytes := Nat.le_mul_of_pos_left _ (by omega)
  omega

theorem appendC_ok (S : Setup P T E N0 w0 Dk) {e : Nat} {i : TypeInfo} {z : Value} (hsz : z.cells.size = i.size) (hpos : 0 < i.size) (hbytes : 0 < i.bytes) {x : AV} {n : Nat} {new : List AV} {h h' : Hp} {v : AV}
    (hrun : appendC E i.size i.bytes x n new h = .ok v h') : nextOf h ≤ nextOf h' ∧ (new.length = n * i.size → ∀ π w x' news A, HRel N0 w0 π h w → Free π (nextOf h) (nextOf h') → VR π x x' → VRs π new news → (∀ y ∈ news, y.oneCell' = true) → AppOk P A e i z n news w →
      ∃ v' w', (A x').run P w = .ok v' w' ∧ Post N0 w0 π h w v h' v' w') := by
  unfold appendC at hrun
  rw [onB_eq, if_neg (by simp; omega)] at hrun
  cases n with
  | zero =>
    simp only at hrun
    have hn0 : new.length = 0 * i.size → ∀ {π : Pm} {news : List Value}, VRs π new news → news = [] := fun hnew _ _ hv => by
      have := hv.1; rw [hnew, Nat.zero_mul] at this; exact List.eq_nil_of_length_eq_zero this.symm
    split at hrun
    · cases hrun
      refine ⟨Nat.le_refl _, fun hnew π w x' news A hr _ hx hv h1 hA => ?_⟩
      cases hx
      exact ⟨_, _, hA.none0 rfl, .same hr .nilSlice⟩
    · rename_i b off len cap zz
      obtain ⟨hb, hrun'⟩ := onB_ok hrun
      cases hrun'
      refine ⟨Nat.le_refl _, fun hnew π w x' news A hr _ hx hv h1 hA => ?_⟩
      cases hn0 hnew hv
      have hx0 := hx
      cases hx with
      | slice _ _ _ _ _ hq hc =>
        rename_i p cap'
        have := hA.room p.blk (p.base + off) len cap' (Nat.le_trans (Nat.le_of_ble_eq_true hb) hc.1) (fun j hj => by cases hj) (fun j hj => by cases hj)
        exact ⟨_, _, this, .same hr hx0⟩
    · rename_i b off len cap
      obtain ⟨hb, hrun'⟩ := onB_ok hrun
      cases hrun'
      refine ⟨Nat.le_refl _, fun hnew π w x' news A hr _ hx hv h1 hA => ?_⟩
      cases hn0 hnew hv
      have hx0 := hx
      cases hx
      have := hA.room b off len cap (Nat.le_of_ble_eq_true hb) (fun j hj => by cases hj) (fun j hj => by cases hj)
      exact ⟨_, _, this, .same hr hx0⟩
    · cases hrun
  | succ m =>
    simp only at hrun
    generalize hn : m + 1 = n at *
    split at hrun
    · obtain ⟨hb, hrun'⟩ := onB_ok hrun
      rw [blt_eq, decide_eq_true_eq] at hb
      simp only [newSlice] at hrun'
      obtain ⟨own, nx, o, rfl, ho, hrun''⟩ := made_ok hrun'
      cases hrun''
      refine ⟨by simp [nextOf], fun hnew π w x' news A hr hf hx hv h1 hA => ?_⟩
      have free := hf nx (by simp [nextOf]) (by simp [nextOf])
      cases hx
      have h63 : n ≤ n * i.bytes := Nat.le_mul_of_pos_right _ hbytes
      have hg := hA.grow none 0 0 [] (run_firstCells_none w.drew i.size 0 0 0) (by omega) (by omega) (fit_ok (by omega) (by simpa using hb))
      have hp := grow_post hr free (ObjCells.mk ho hv h1) (need := 0 + n) hpos (by rw [Nat.zero_add, ← hv.1, hnew]) (grownCap_ge w (0 + n) 0 e) z.cells hsz e
      refine ⟨_, _, hg, ?_⟩
      simpa using hp
    · rename_i b off len cap
      obtain ⟨hb, hrun'⟩ := onB_ok hrun
      simp only [Bool.and_eq_true, blt_eq, decide_eq_true_eq] at hb
      obtain ⟨hb1, hb2⟩ := hb
      split at hrun'
      · rename_i old hold
        rw [appK_eq] at hrun'
        simp only [newSlice] at hrun'
        obtain ⟨own, nx, o, rfl, ho, hrun''⟩ := made_ok hrun'
        cases hrun''
        refine ⟨by simp [nextOf], fun hnew π w x' news A hr hf hx hv h1 hA => ?_⟩
        have free := hf nx (by simp [nextOf]) (by simp [nextOf])
        cases hx
        obtain ⟨b', o', vs', k1, k2, k3, k4, k5⟩ := cellsAt_ok S hr (.gptr b off) hold
        cases k1
        have hl : vs'.length = len * i.size := by rw [← k3.1, k2]
        have h63 : len + n ≤ (len + n) * i.bytes := Nat.le_mul_of_pos_right _ hbytes
        have hg := hA.grow (some ⟨b, off, none⟩) len cap vs' (run_firstCells_some w.drew i.size len ⟨b, off, none⟩ len cap vs' hl (by simpa using k4)) hb1 (by omega) (fit_ok hb1 hb2)
        have hp := grow_post hr free (ObjCells.mk ho (k3.append hv) (fun x hx => (List.mem_append.1 hx).elim (k5 x) (h1 x))) (need := len + n) hpos (by rw [List.length_append, hl, ← hv.1, hnew, Nat.add_mul]) (grownCap_ge w (len + n) cap e) z.cells hsz e
        exact ⟨_, _, hg, hp⟩
      · cases hrun'
    · rename_i b off len cap zz
      rw [natK_eq, onB_eq] at hrun
      split at hrun
      · rename_i hle
        have hle' := Nat.le_of_ble_eq_true hle
        obtain ⟨own, nx, ob, o', rfl, hob, hrun', hst⟩ := storeAt_ok hrun
        cases hrun'
        refine ⟨Nat.le_refl _, fun hnew π w x' news A hr hf hx hv h1 hA => ?_⟩
        cases hx with
        | slice _ _ _ _ _ hq hc =>
          rename_i p cap'
          obtain ⟨k1, k2⟩ := hst π p w news (hr.objs b ob p hob hq) hv h1
          have hroom := hA.room p.blk (p.base + off) len cap' (by have := hc.1; omega) (fun j hj => by have := (k1 j hj).1; rwa [← Nat.add_assoc] at this) (fun j hj => by have := (k1 j hj).2; rwa [← Nat.add_assoc] at this)
          obtain ⟨k3, k4⟩ := hr.put hob hq o' (w.setCells p.blk (p.base + (off + len * i.size)) news) (size_setCells _ _ _ _) (fun c hc => heap_setCells_other _ _ _ _ _ hc) (same_setCells _ _ _ _) k2
          rw [← Nat.add_assoc] at k3 k4
          exact ⟨_, _, hroom, π, VR.slice _ _ _ _ _ hq hc, k3, k4⟩
      · rename_i hle
        have hle' : cap < len + n := by
          rcases Nat.lt_or_ge cap (len + n) with h | h
          · exact h
          · exact absurd (by rw [Nat.ble_eq]; exact h) hle
        obtain ⟨hb2, hrun'⟩ := onB_ok hrun
        rw [blt_eq, decide_eq_true_eq] at hb2
        obtain ⟨own, nx⟩ := h
        obtain ⟨ob, o, hob, rfl, hold, hh'⟩ := appendG_ok rfl hrun'
        have hnx : nextOf h' = nx + 1 := by rcases hh' with ⟨_, rfl⟩ | ⟨_, rfl⟩ <;> rfl
        refine ⟨by rw [hnx]; simp [nextOf], fun hnew π w x' news A hr hf hx hv h1 hA => ?_⟩
        have free := hf nx (by simp [nextOf]) (by rw [hnx]; omega)
        cases hx with
        | slice _ _ _ _ _ hq hc =>
          rename_i p cap'
          obtain ⟨c1, c2, c3⟩ := hc
          have hobj := hr.objs b ob p hob hq
          obtain ⟨hblk, olds, o1, o2, o3⟩ := hold hnew π p w news hobj hv h1
          have hlen : (olds ++ news).length = (len + n) * i.size := by rw [List.length_append, o1, ← hv.1, hnew, Nat.add_mul]
          by_cases hcap : len + n ≤ cap'
          · -- there is room after all
            have hzz : zz = i.size := by
              rcases hh' with ⟨h0, _⟩ | ⟨h0, _⟩
              · have := c2 h0; omega
              · exact h0
            have hh : h' = .mk (setP (some o) 8 (setP none 8 own b) nx) (nx + 1) := by
              rcases hh' with ⟨h0, _⟩ | ⟨_, h0⟩
              · omega
              · exact h0
            subst hh
            have hc3 := c3 (by omega)
            rw [hzz] at hc3
            have hmul : (len + n) * i.size ≤ cap' * i.size := Nat.mul_le_mul_right _ hcap
            have hadd : (len + n) * i.size = len * i.size + n * i.size := Nat.add_mul _ _ _
            have hnl : news.length = n * i.size := by rw [← hv.1, hnew]
            have hin : ∀ j, j < news.length → (w.cell? ⟨p.blk, p.base + off + len * i.size + j, none⟩).isSome = true := fun j hj => (hblk _ (by omega)).1
            have hroom := hA.room p.blk (p.base + off) len cap' hcap hin (fun j hj => (hblk _ (by omega)).2)
            have hblk' : Blk (w.setCells p.blk (p.base + off + len * i.size) news) p := hblk.setCells _ _ (by omega)
            have hrel : ObjRel (upd π nx ⟨p.blk, p.base + off, p.room⟩) o ⟨p.blk, p.base + off, p.room⟩ (w.setCells p.blk (p.base + off + len * i.size) news) := by
              refine o3.rel (upd_le _ free) (p := ⟨p.blk, p.base + off, p.room⟩) hblk' (by simp only; omega) (fun k v' hk => ?_)
              simp only
              by_cases hlt : k < olds.length
              · rw [List.getElem?_append_left hlt] at hk
                rw [World.cell?_setCells_out _ _ _ _ _ (fun _ _ => by simp only; omega)]
                exact o2 k v' hk
              · rw [List.getElem?_append_right (by omega), o1] at hk
                have hkl := (List.getElem?_eq_some_iff.1 hk).1
                have := World.cell?_setCells_in p.blk news (p.base + off + len * i.size) w hin (k - len * i.size) hkl
                rw [show p.base + off + len * i.size + (k - len * i.size) = p.base + off + k by omega] at this
                rw [this]
                rw [List.getElem?_eq_getElem hkl] at hk
                exact hk
            obtain ⟨k3, k4⟩ := hr.reuse hob hq free o _ (p.base + off) (size_setCells _ _ _ _) (fun c hc => heap_setCells_other _ _ _ _ _ hc) (same_setCells _ _ _ _) hrel
            refine ⟨_, _, hroom, _, ?_, k3, k4⟩
            exact VR.slice (p := ⟨p.blk, p.base + off, p.room⟩) nx 0 (len + n) (len + n) i.size (upd_same _ _ _) ⟨hcap, fun h => by omega, fun _ => by simpa using hc3⟩
          · have hcap' : cap' < len + n := by omega
            have h63 : len + n ≤ (len + n) * i.bytes := Nat.le_mul_of_pos_right _ hbytes
            have hg := hA.grow (some ⟨p.blk, p.base + off, none⟩) len cap' olds (run_firstCells_some w.drew i.size len _ len cap' olds o1 (fun j v hj => by rw [Addr.add_lit]; simpa using o2 j v hj)) hcap' (by omega) (fit_ok hcap' hb2)
            rcases hh' with ⟨_, rfl⟩ | ⟨_, rfl⟩
            · exact ⟨_, _, hg, grow_post hr free o3 hpos hlen (grownCap_ge w (len + n) cap' e) z.cells hsz e⟩
            · obtain ⟨d1, d2⟩ := hr.del hq
              obtain ⟨π', q1, q2, q3⟩ := grow_post d1 free o3 hpos hlen (grownCap_ge w (len + n) cap' e) z.cells hsz e
              exact ⟨_, _, hg, π', q1, q2, d2.trans q3⟩
    · cases hrun
end
end Go.Sx

namespace Go.Sx
section
variable {P : Program} {T : Nat → Option TypeInfo} {E : Env} {N0 : Nat} {w0 : World} {Dk : Deferred → Prop}

theorem Doo.congr {s s' : Sem Next} {w : World} {R : Value → World → Prop} (h : s.run P w = s'.run P w) (hd : Doo P Dk s' w R) : Doo P Dk s w R := by
  unfold Doo at *; rw [h]; exact hd

theorem run_builtin {ρ : Operand → Value} {o : Oper} {c : Call} {b : Builtin} (ho : o.op = .call c) (hb : c.callee = .builtin b) : ∃ consts, ∀ w, (execOp ρ o).run P w = (builtin b c.argTypes o.type consts (c.args.map ρ)).run P w := by
  refine ⟨c.args.map (fun | .const _ => true | _ => false), fun w => ?_⟩
  simp only [execOp, ho, resolve, hb, Sem.run_bind, Sem.run_pure, Result.andThen_ok, invoke]
  rfl

theorem callArgs {c : Call} {Q : Operand → Prop} (h : ∀ y ∈ (Op.call c).operands.toList, Q y) : (∀ x ∈ c.args.toList, Q x) ∧ ∀ f, c.callee = .value f → Q f := by
  have e : (Op.call c).operands = (match c.callee with | .value f => #[f] | .invoke r _ => #[r] | .builtin _ => #[]) ++ c.args := rfl
  rw [e] at h
  refine ⟨fun x hx => h x (by rw [Array.toList_append, List.mem_append]; exact .inr hx), fun f hf => h f ?_⟩
  rw [hf]; simp

theorem args_map {c : Call} {ρ : Operand → Value} : c.args.map ρ = (c.args.toList.map ρ).toArray := by
  obtain ⟨_, ⟨l⟩, _⟩ := c; simp

theorem call_static {f : Nat} {c : Call} {cx : Ctx} {gs : List Get} (hc : c.callee = .value (.func f)) (hg : opGs cx c.args.toList = some gs) : ActOk P Dk N0 w0 cx (.call c) (aCall f gs) := by
  intro ih hih loc tm h v h' hrun
  simp only [aCall] at hrun
  obtain ⟨vs, hvs, hrun⟩ := onO_ok hrun
  obtain ⟨h1, h2⟩ := hih f vs h v h' hrun
  refine ⟨h1, fun π w ρ o ho hops hr hf => ?_⟩
  obtain ⟨oa, of⟩ := callArgs hops
  have hv := evs_ok (ρ := ρ) (π := π) hg oa hvs
  have hfv : ρ (.func f) = .func (.func f) #[] #[] := by
    have := of _ hc (gConst (.func f [] [])) rfl (.func f [] []) rfl
    obtain ⟨xs', ys', e, k1, k2⟩ := this.func_iff
    have := k1.1; have := k2.1
    cases xs' <;> cases ys' <;> simp_all
  refine Doo.congr ?_ (h2 π w _ hv hr hf)
  simp only [execOp, ho, resolve, hc, hfv, Deferred.ofValue, Sem.run_bind, Sem.run_pure, Result.andThen_ok, invoke]
  rw [args_map]
  simp

theorem call_value {x : Operand} {c : Call} {cx : Ctx} {g : Get} {gs : List Get} (hc : c.callee = .value x) (hx : opG cx x = some g) (hg : opGs cx c.args.toList = some gs) : ActOk P Dk N0 w0 cx (.call c) (aCallV g gs) := by
  intro ih hih loc tm h v h' hrun
  simp only [aCallV] at hrun
  split at hrun
  · rename_i f first captured hfv
    obtain ⟨vs, hvs, hrun'⟩ := onO_ok hrun
    obtain ⟨h1, h2⟩ := hih f _ h v h' hrun'
    refine ⟨h1, fun π w ρ o ho hops hr hf => ?_⟩
    obtain ⟨oa, of⟩ := callArgs hops
    have hv := evs_ok (ρ := ρ) (π := π) hg oa hvs
    obtain ⟨xs', ys', e, k1, k2⟩ := (of _ hc g hx _ hfv).func_iff
    refine Doo.congr ?_ (h2 π w _ (k1.append (hv.append k2)) hr hf)
    simp only [execOp, ho, resolve, hc, e, Deferred.ofValue, Sem.run_bind, Sem.run_pure, Result.andThen_ok, invoke]
    rw [args_map]
    simp
  · cases hrun

theorem minmax_ok {mx : Bool} {π : Pm} {w : World} : ∀ {vs : List AV} {vs' : List Value} {v r : AV} {v' : Value}, VRs π vs vs' → VR π v v' → minmaxV mx v vs = some r →
    ∃ r', (vs'.foldlM (if mx = true then Builtin.max2 else Builtin.min2) v').run P w = .ok r' w ∧ VR π r r'
  | [], vs', v, r, v', h, hv, hr => by
    have : vs' = [] := List.eq_nil_of_length_eq_zero (by rw [← h.1]; rfl)
    subst this
    have : r = v := by unfold minmaxV at hr; cases hr; rfl
    subst this
    exact ⟨v', by simp, hv⟩
  | y :: vs, [], v, r, v', h, hv, hr => by have := h.1; simp at this
  | y :: vs, y' :: vs', v, r, v', h, hv, hr => by
    have hy : VR π y y' := h.2 0 y y' rfl rfl
    have ht : VRs π vs vs' := ⟨by simpa using h.1, fun i a b h1 h2 => h.2 (i + 1) a b (by simpa using h1) (by simpa using h2)⟩
    have e : ∃ k x k' y0, v = .int k x ∧ y = .int k' y0 ∧ onB (kindEq k k') (minmaxV mx (.int k (onB mx (onB (ilt x y0) y0 x) (onB (ilt y0 x) y0 x))) vs) none = some r := by
      unfold minmaxV at hr
      split at hr
      · rename_i h; cases h
      · rename_i h; cases h; exact ⟨_, _, _, _, rfl, rfl, hr⟩
      · cases hr
    clear hr
    obtain ⟨k, x, k', y, rfl, rfl, hr⟩ := e
    obtain ⟨hk, hr'⟩ := onB1 hr
    cases hv; cases hy
    cases mx with
    | true =>
      obtain ⟨r', h1, h2⟩ := minmax_ok ht (VR.int k _) hr'
      refine ⟨r', ?_, h2⟩
      simp only [if_true] at h1 ⊢
      rw [List.foldlM_cons, Sem.run_bind]
      simp only [Builtin.max2, Sem.run_pure, Result.andThen_ok]
      have e : onB true (onB (ilt x y) y x) (onB (ilt y x) y x) = (if y > x then y else x) := by
        simp only [onB_true, ilt_eq, onB_eq, decide_eq_true_eq]; rfl
      rw [e] at h1; exact h1
    | false =>
      obtain ⟨r', h1, h2⟩ := minmax_ok ht (VR.int k _) hr'
      refine ⟨r', ?_, h2⟩
      simp only [Bool.false_eq_true, if_false] at h1 ⊢
      rw [List.foldlM_cons, Sem.run_bind]
      simp only [Builtin.min2, Sem.run_pure, Result.andThen_ok]
      have e : onB false (onB (ilt x y) y x) (onB (ilt y x) y x) = (if y < x then y else x) := by
        rw [onB_false, ilt_eq, onB_eq]; simp only [decide_eq_true_eq]
      rw [e] at h1; exact h1

theorem call_minmax {mx : Bool} {c : Call} {cx : Ctx} {gs : List Get} (hc : c.callee = .builtin (if mx = true then .max else .min)) (hg : opGs cx c.args.toList = some gs) : ActOk P Dk N0 w0 cx (.call c) (aMinmax mx gs) := by
  refine pure_ok fun ih loc tm hp v hp' hrun => ?_
  simp only [aMinmax] at hrun
  split at hrun
  · rename_i v0 vs hvs
    obtain ⟨r, hr0, hrun'⟩ := onO_ok hrun
    cases hrun'
    refine ⟨rfl, fun π w ρ o ho hops hr => ?_⟩
    obtain ⟨oa, _⟩ := callArgs hops
    have hv := evs_ok (ρ := ρ) (π := π) hg oa hvs
    cases hm : c.args.toList.map ρ with
    | nil => rw [hm] at hv; have := hv.1; simp at this
    | cons v0' vs' =>
      rw [hm] at hv
      have h0 : VR π v0 v0' := hv.2 0 _ _ rfl rfl
      have ht : VRs π vs vs' := ⟨by simpa using hv.1, fun i a b h1 h2 => hv.2 (i + 1) a b (by simpa using h1) (by simpa using h2)⟩
      obtain ⟨r', h1, h2⟩ := minmax_ok (P := P) (w := w) ht h0 hr0
      refine ⟨r', ?_, h2⟩
      obtain ⟨consts, hb⟩ := run_builtin (P := P) (ρ := ρ) ho hc
      rw [hb, args_map, hm]
      clear hb
      cases mx with
      | true => simp only [if_true] at h1 ⊢; simp only [builtin, Builtin.max_, Sem.run_bind, h1, Result.andThen_ok, Sem.run_pure]
      | false => simp only [Bool.false_eq_true, if_false] at h1 ⊢; simp only [builtin, Builtin.min_, Sem.run_bind, h1, Result.andThen_ok, Sem.run_pure]
  · cases hrun

theorem lenStr {π : Pm} {l : List Nat} {v : Value} (h : VR π (.str l) v) : ∃ s : ByteArray, v = .string s ∧ s.size = l.length := by
  cases h; exact ⟨_, rfl, by simp⟩

theorem call_len (S : Setup P T E N0 w0 Dk) {c : Call} {cx : Ctx} {t : Nat} {x : Operand} {ts : List Nat} {xs : List Operand} {g : Get} {a : Act} (hc : c.callee = .builtin .len) (hts : c.argTypes.toList = t :: ts) (hxs : c.args.toList = x :: xs) (hg : opG cx x = some g)
    (ha : (match und T t with
        | some .string => some (aLenS g)
        | some (.slice _) => some (aLenL g)
        | some (.map ..) => some (aLenM g)
        | _ => none) = some a) : ActOk P Dk N0 w0 cx (.call c) a := by
  have ht0 : c.argTypes[0]? = some t := by rw [← Array.getElem?_toList, hts]; rfl
  have key : ∀ (ρ : Operand → Value) (o : Oper), o.op = .call c → ∀ w v', (Builtin.len_ c.argTypes o.type (c.args.map ρ)).run P w = .ok v' w → (execOp ρ o).run P w = .ok (.value v') w := by
    intro ρ o ho w v' h
    obtain ⟨consts, hb⟩ := run_builtin (P := P) (ρ := ρ) ho hc
    rw [hb]
    simp only [builtin, Sem.run_bind, h, Result.andThen_ok, Sem.run_pure]
  have hx0 : ∀ ρ : Operand → Value, (c.args.map ρ)[0]? = some (ρ x) := fun ρ => by rw [args_map, hxs]; rfl
  have hmem : x ∈ c.args.toList := by rw [hxs]; simp
  split at ha
  · rename_i hu
    cases ha
    refine pure_ok fun ih loc tm hp v hp' hrun => ?_
    simp only [aLenS] at hrun
    split at hrun
    · rename_i s hs
      simp only [natK_eq] at hrun
      cases hrun
      refine ⟨rfl, fun π w ρ o ho hops hr => ?_⟩
      obtain ⟨s', e, hl⟩ := lenStr ((callArgs hops).1 x hmem g hg _ hs)
      refine ⟨.int .i64 (s.length : Int), key ρ o ho w _ ?_, by rw [lenL_eq]; exact .int _ _⟩
      simp [Builtin.len_, ht0, hx0, e, run_underlying (und_ok S hu), goInt, hl]
    · cases hrun
  · rename_i hu
    cases ha
    refine pure_ok fun ih loc tm hp v hp' hrun => ?_
    simp only [aLenL] at hrun
    have fin : ∀ (n : Nat), (∀ π (v' : Value), (∃ y, g loc tm = some y ∧ VR π y v') → ∃ a cp, v' = .slice a n cp) → hp' = hp ∧ v = .int .i64 (.ofNat n) → hp' = hp ∧ ∀ π w (ρ : Operand → Value) (o : Oper), o.op = .call c → (∀ x ∈ (Op.call c).operands.toList, OpOk cx π loc tm ρ x) → HRel N0 w0 π hp w →
        ∃ v', (execOp ρ o).run P w = .ok (.value v') w ∧ VR π v v' := by
      rintro n h ⟨rfl, rfl⟩
      refine ⟨rfl, fun π w ρ o ho hops hr => ?_⟩
      have hox := (callArgs hops).1 x hmem g hg
      cases hy : g loc tm with
      | none => rw [hy] at hrun; cases hrun
      | some y =>
        obtain ⟨a, cp, e⟩ := h π (ρ x) ⟨y, hy, hox y hy⟩
        refine ⟨.int .i64 (n : Int), key ρ o ho w _ ?_, .int _ _⟩
        simp [Builtin.len_, ht0, hx0, e, run_underlying (und_ok S hu), goInt]
    split at hrun
    · rename_i hs
      cases hrun
      exact fin _ (fun π v' ⟨y, h1, h2⟩ => by rw [hs] at h1; cases h1; cases h2; exact ⟨_, _, rfl⟩) ⟨rfl, rfl⟩
    · rename_i hs
      cases hrun
      exact fin _ (fun π v' ⟨y, h1, h2⟩ => by rw [hs] at h1; cases h1; cases h2; exact ⟨_, _, rfl⟩) ⟨rfl, rfl⟩
    · rename_i hs
      cases hrun
      exact fin 0 (fun π v' ⟨y, h1, h2⟩ => by rw [hs] at h1; cases h1; cases h2; exact ⟨_, _, rfl⟩) ⟨rfl, rfl⟩
    · cases hrun
  · rename_i hu
    cases ha
    refine pure_ok fun ih loc tm hp v hp' hrun => ?_
    simp only [aLenM] at hrun
    obtain ⟨m, hm, hrun1⟩ := onO_ok hrun
    obtain ⟨es, hes, hrun2⟩ := onO_ok hrun1
    simp only [natK_eq, lenL_eq] at hrun2
    cases hrun2
    refine ⟨rfl, fun π w ρ o ho hops hr => ?_⟩
    have hox := (callArgs hops).1 x hmem g hg _ hm
    refine ⟨.int .i64 (es.length : Int), key ρ o ho w _ ?_, .int _ _⟩
    rcases mapOf_ok hr hox hes with ⟨h1, rfl⟩ | ⟨r0, entries, clock, h1, h2, h3⟩
    · simp [Builtin.len_, ht0, hx0, h1, run_underlying (und_ok S hu), goInt]
    · have hl : entries.size = es.length := by simpa using h3.1
      simp [Builtin.len_, ht0, hx0, h1, run_underlying (und_ok S hu), goInt, Go.MapKept.run_getObj_map h2, hl]
  · cases ha
end
end Go.Sx

namespace Go.Sx
section
variable {P : Program} {T : Nat → Option TypeInfo} {E : Env} {N0 : Nat} {w0 : World} {Dk : Deferred → Prop}

theorem append_args {ts : Array TypeId} {t u : Nat} (h0 : ts[0]? = some t) (h1 : ts[1]? = some u) (ty : TypeId) (args : Array Value) : Builtin.append_ ts ty args = Builtin.append_ #[t, u] ty args := by
  unfold Builtin.append_
  rw [h0, h1]
  rfl

theorem AppOk.src {t tx ty e : Nat} {i : TypeInfo} {z : Value} (ht : P.underlying t = some (.slice e)) (hi : P.info? e = some i) (hz : i.zero = some z) {x : Value} {n : Nat} {news : List Value} {w : World} (hs : Src P i.size tx x n news w) :
    AppOk P (fun s => Builtin.append_ #[t, tx] ty #[s, x]) e i z n news w where
  room := fun b off sLen sCap hroom hc hf => run_append_room_src w t tx ty e i ht hi b off sLen sCap x n news hs hroom hc hf
  grow := fun base sLen sCap olds hold hg h63 hfit => run_append_grow_src w t tx ty e i z ht hi hz base sLen sCap olds hold x n news hs hg h63 hfit
  none0 := fun h0 => by
    subst h0
    have := hs.newsLen
    have hn : news = [] := List.eq_nil_of_length_eq_zero (by omega)
    subst hn
    have hc := hs.cells
    have hl := hs.len
    rcases hs.kind with ⟨e', hk⟩ | hk <;> simp [Builtin.append_, run_underlying ht, run_underlying hk, sizeOf, typeInfo, hi, hl, hc]

theorem srcCells_ok (S : Setup P T E N0 w0 Dk) {π : Pm} {h : Hp} {w : World} (hr : HRel N0 w0 π h w) {tx : Nat} (hk : (∃ e', P.underlying tx = some (.slice e')) ∨ P.underlying tx = some .string) {sz : Nat} {y : AV} {y' : Value} (hy : VR π y y') {n : Nat} {new : List AV} (hc : srcCells E h sz y = some (n, new)) :
    new.length = n * sz ∧ ∃ news, VRs π new news ∧ (∀ u ∈ news, u.oneCell' = true) ∧ Src P sz tx y' n news w := by
  unfold srcCells at hc
  split at hc
  · cases hc
    cases hy
    exact ⟨by simp, [], .nil, fun _ h => (by cases h), ⟨hk, fun _ => rfl, run_firstCells_none w sz 0 0 0, run_firstCells_none w.drew sz 0 0 0, by simp, fun _ h => (by cases h)⟩⟩
  · rename_i b off m c z
    split at hc
    · rename_i cs hcs
      cases hc
      cases hy with
      | slice _ _ _ _ _ hq hcap =>
        rename_i p cap'
        obtain ⟨b', o', vs', k1, k2, k3, k4, k5⟩ := cellsAt_ok S hr (.ptr b off hq) hcs
        cases k1
        have hl : vs'.length = n * sz := by rw [← k3.1, k2]
        exact ⟨k2, vs', k3, k5, ⟨hk, fun _ => rfl, run_firstCells_some w sz n _ n cap' vs' hl k4, run_firstCells_some w.drew sz n _ n cap' vs' hl (by simpa using k4), hl, k5⟩⟩
    · cases hc
  · rename_i b off m c
    split at hc
    · rename_i cs hcs
      cases hc
      cases hy
      obtain ⟨b', o', vs', k1, k2, k3, k4, k5⟩ := cellsAt_ok S hr (.gptr b off) hcs
      cases k1
      have hl : vs'.length = n * sz := by rw [← k3.1, k2]
      exact ⟨k2, vs', k3, k5, ⟨hk, fun _ => rfl, run_firstCells_some w sz n _ n c vs' hl k4, run_firstCells_some w.drew sz n _ n c vs' hl (by simpa using k4), hl, k5⟩⟩
    · cases hc
  · rename_i s
    obtain ⟨hsz, hc⟩ := onB1 hc
    have hsz' := Nat.eq_of_beq_eq_true hsz
    subst hsz'
    cases hc
    generalize hs : s = s0 at hy
    cases hy
    subst hs
    rename_i bs
    have hl : bs.data.toList.length = bs.size := by simp
    refine ⟨by simp, byteCells bs, ⟨by simp [byteCells], fun i v v' h1 h2 => ?_⟩, fun u hu => ?_, ⟨hk, fun _ => ?_, ?_, ?_, ?_, fun u hu => ?_⟩⟩
    · simp only [byteCells, List.getElem?_map, Option.map_eq_some_iff] at h1 h2
      obtain ⟨a, ⟨c, h3, rfl⟩, rfl⟩ := h1
      obtain ⟨d, h4, rfl⟩ := h2
      rw [h3] at h4; cases h4
      exact .int _ _
    · obtain ⟨_, _, rfl⟩ := List.mem_map.1 hu; rfl
    · simp [Builtin.lenOf]
    · have := firstCells_string (P := P) bs w
      simpa using this
    · have := firstCells_string (P := P) bs w.drew
      simpa using this
    · rw [byteCells_length]; simp
    · obtain ⟨_, _, rfl⟩ := List.mem_map.1 hu; rfl
  · cases hc

theorem elInfo (S : Setup P T E N0 w0 Dk) {t e n b : Nat} (hu : und T t = some (.slice e)) (hn : szOf T e = some n) (hb : bytesOf T e = some b) : ∃ i z, T e = some i ∧ i.zero = some z ∧ z.cells.size = i.size ∧ 0 < i.size ∧ 0 < i.bytes ∧ i.size = n ∧ i.bytes = b := by
  obtain ⟨i, z, h1, h2, h3, h4, h5⟩ := S.el t e hu
  refine ⟨i, z, h1, h2, h3, h4, h5, ?_, ?_⟩
  · unfold szOf at hn; rw [h1] at hn; cases hn; rfl
  · unfold bytesOf at hb; rw [h1] at hb; cases hb; rfl

theorem call_append (S : Setup P T E N0 w0 Dk) {c : Call} {cx : Ctx} {t u : Nat} {ts : List Nat} {x y : Operand} {g g' : Get} {e n b : Nat} (hc : c.callee = .builtin .append) (hts : c.argTypes.toList = t :: u :: ts) (hxs : c.args.toList = [x, y])
    (hg : opG cx x = some g) (hg' : opG cx y = some g') (hu : und T t = some (.slice e)) (hk : (∃ e', P.underlying u = some (.slice e')) ∨ P.underlying u = some .string) (hn : szOf T e = some n) (hb : bytesOf T e = some b) : ActOk P Dk N0 w0 cx (.call c) (aAppend E n b g g') := by
  obtain ⟨i, z, hT, hz, hsz, hpos, hbytes, rfl, rfl⟩ := elInfo S hu hn hb
  have h0 : c.argTypes[0]? = some t := by rw [← Array.getElem?_toList, hts]; rfl
  have h1 : c.argTypes[1]? = some u := by rw [← Array.getElem?_toList, hts]; rfl
  intro ih _ loc tm h v h' hrun
  simp only [aAppend] at hrun
  split at hrun
  · rename_i a bb ha hbb
    split at hrun
    · rename_i m new hsrc
      obtain ⟨hnext, hok⟩ := appendC_ok S (e := e) hsz hpos hbytes hrun
      refine ⟨hnext, fun π w ρ o ho hops hr hf => ?_⟩
      obtain ⟨oa, _⟩ := callArgs hops
      have hx := oa x (by rw [hxs]; simp) g hg _ ha
      have hy := oa y (by rw [hxs]; simp) g' hg' _ hbb
      obtain ⟨hlen, news, k1, k2, k3⟩ := srcCells_ok S hr hk hy hsrc
      obtain ⟨v', w', r1, r2⟩ := hok hlen π w _ news _ hr hf hx k1 k2 (AppOk.src (ty := o.type) (und_ok S hu) (S.ty e i hT) hz k3)
      refine .value (w' := w') (v := v') ?_ r2
      obtain ⟨consts, hb⟩ := run_builtin (P := P) (ρ := ρ) ho hc
      have ea : c.args.map ρ = #[ρ x, ρ y] := by rw [args_map, hxs]; rfl
      rw [hb, ea]
      simp only [builtin, append_args h0 h1, Sem.run_bind, r1, Result.andThen_ok, Sem.run_pure]
    · cases hrun
  · cases hrun
end
end Go.Sx
