/-
  Functions outside of the text, package variables, deferred calls and tables: what a program must show, for every program.
-/
import Derived.Test.YtjliobdjggmfeaaGreatDoorSx
import Derived.Test.YtjliobdjggmfeaaGreatDoorK9
import Derived.Laws.Externs
import Derived.Lib.Bytealg
import Derived.MapKept
import Derived.LaidLaws
import Derived.ChangeArms
import Derived.Lib.LaidTab
import Derived.Recover
set_option linter.unusedVariables false
set_option linter.unusedSimpArgs false
namespace Go.Sx
/-! functions outside of the text -/
noncomputable def countB (c : Nat) : List Nat → Nat
  | [] => 0
  | b :: bs => onB (Nat.beq b c) (Nat.succ (countB c bs)) (countB c bs)
noncomputable def indexB (c : Nat) : List Nat → Nat → Option Nat
  | [], _ => none
  | b :: bs, i => onB (Nat.beq b c) (some i) (indexB c bs (Nat.succ i))
noncomputable def xCount : List AV → Hp → Sr := fun args h => match args with
  | [.str bs, .int .u8 (.ofNat c)] => onB (Nat.blt c 256) (natK (countB c bs) (fun n => .ok (.int .i64 (.ofNat n)) h)) (.fail 50)
  | _ => .fail 50
noncomputable def xIndex : List AV → Hp → Sr := fun args h => match args with
  | [.str bs, .int .u8 (.ofNat c)] => onB (Nat.blt c 256) (match indexB c bs 0 with | some i => natK i (fun i => .ok (.int .i64 (.ofNat i)) h) | none => .ok (.int .i64 (.negSucc 0)) h) (.fail 50)
  | _ => .fail 50
noncomputable def xClone : List AV → Hp → Sr := fun args h => match args with
  | [.iface t (.map r)] => match h with
    | .mk own next => match getN 8 own r with
      | some (.map es) => setN (some (.map es)) 8 own next (fun own => natK (Nat.succ next) (fun n' => .ok (.iface t (.map next)) (.mk own n')))
      | _ => .fail 50
  | _ => .fail 50
end Go.Sx

namespace Go.Sx
section
variable {P : Program} {N0 : Nat} {w0 : World} {Dk : Deferred → Prop}

/-- a function whose text is the model's own: how it is called -/
def IsExt (P : Program) (f : Nat) (e : Array Value → Sem Value) : Prop := ∀ (args : Array Value) (w : World), (callFunc f args).run P w = ((e args).run P w).andThen fun v w' => .ok (.value v) w'

theorem VR.str_iff {π : Pm} {bs : List Nat} {x : Value} (h : VR π (.str bs) x) : ∃ s : ByteArray, x = .string s ∧ bs = s.data.toList.map UInt8.toNat := by
  cases h; exact ⟨_, rfl, rfl⟩
theorem VR.int_iff {π : Pm} {k : IntKind} {n : Int} {x : Value} (h : VR π (.int k n) x) : x = .int k n := by cases h; rfl
theorem VR.bool_iff {π : Pm} {b : Bool} {x : Value} (h : VR π (.bool b) x) : x = .bool b := by cases h; rfl
theorem VR.iface_iff {π : Pm} {t : Nat} {v : AV} {x : Value} (h : VR π (.iface t v) x) : ∃ y, x = .iface t y ∧ VR π v y := by
  cases h; rename_i y h; exact ⟨y, rfl, h⟩
theorem VR.map_iff {π : Pm} {r : Nat} {x : Value} (h : VR π (.map r) x) : ∃ p, π r = some p ∧ x = .map (some p.blk) := by
  cases h; rename_i p h; exact ⟨p, h, rfl⟩
theorem VRs.one {π : Pm} {a : AV} {l : List Value} (h : VRs π [a] l) : ∃ x, l = [x] ∧ VR π a x := by
  obtain ⟨h1, h2⟩ := h
  match l, h1, h2 with
  | [x], _, h2 => exact ⟨x, rfl, h2 0 a x rfl rfl⟩
theorem VRs.two {π : Pm} {a b : AV} {l : List Value} (h : VRs π [a, b] l) : ∃ x y, l = [x, y] ∧ VR π a x ∧ VR π b y := by
  obtain ⟨h1, h2⟩ := h
  match l, h1, h2 with
  | [x, y], _, h2 => exact ⟨x, y, rfl, h2 0 a x rfl rfl, h2 1 b y rfl rfl⟩

theorem countB_eq (c : UInt8) (l : List UInt8) : countB c.toNat (l.map UInt8.toNat) = l.count c := by
  induction l with
  | nil => rfl
  | cons b l ih =>
    show onB (Nat.beq b.toNat c.toNat) (Nat.succ (countB c.toNat (l.map UInt8.toNat))) (countB c.toNat (l.map UInt8.toNat)) = _
    rw [onB_eq, ih, List.count_cons]
    by_cases hb : b = c
    · subst hb; simp
    · have hn : Nat.beq b.toNat c.toNat = false := by
        cases h : Nat.beq b.toNat c.toNat with
        | false => rfl
        | true => exact absurd (UInt8.toNat_inj.1 (Nat.eq_of_beq_eq_true h)) hb
      rw [hn]
      simp [hb]

theorem indexB_eq (c : UInt8) : ∀ (l : List UInt8) (i : Nat), (match indexB c.toNat (l.map UInt8.toNat) i with | some j => (j : Int) - i | none => -1) = Lib.indexByte l c ∧ ∀ j, indexB c.toNat (l.map UInt8.toNat) i = some j → i ≤ j
  | [], i => ⟨rfl, fun j h => by cases h⟩
  | b :: l, i => by
    obtain ⟨h1, h2⟩ := indexB_eq c l (i + 1)
    have e : indexB c.toNat ((b :: l).map UInt8.toNat) i = onB (Nat.beq b.toNat c.toNat) (some i) (indexB c.toNat (l.map UInt8.toNat) (i + 1)) := rfl
    rw [e, onB_eq]
    unfold Lib.indexByte
    by_cases hb : b = c
    · subst hb
      have hbe : Nat.beq b.toNat b.toNat = true := Nat.beq_refl _
      rw [if_pos hbe]
      refine ⟨by simp, fun j h => by cases h; exact Nat.le_refl _⟩
    · have hn : ¬ Nat.beq b.toNat c.toNat = true := fun h => hb (UInt8.toNat_inj.1 (Nat.eq_of_beq_eq_true h))
      rw [if_neg hn, ← h1]
      have hbc : (b == c) = false := by simpa using hb
      rw [hbc]
      simp only [Bool.false_eq_true, if_false]
      cases hi : indexB c.toNat (l.map UInt8.toNat) (i + 1) with
      | none => exact ⟨by simp, fun j h => by cases h⟩
      | some j =>
        have := h2 j hi
        refine ⟨?_, fun k h => by cases h; omega⟩
        have hne : ((((j : Nat) : Int) - ((i + 1 : Nat) : Int)) == -1) = false := by
          rw [beq_eq_false_iff_ne]; omega
        simp only [hne, Bool.false_eq_true, if_false]
        omega

theorem ext_count {f : Nat} (hx : IsExt P f Extern.BytealgCount.count) : ExtOk P Dk N0 w0 f xCount := by
  intro args h v h' hrun
  unfold xCount at hrun
  split at hrun
  · rename_i bs c
    obtain ⟨hc, hrun⟩ := onB_ok hrun
    rw [natK_eq] at hrun
    cases hrun
    rw [blt_eq] at hc
    have hc := of_decide_eq_true hc
    refine ⟨Nat.le_refl _, fun π w args' hv hr _ => ?_⟩
    obtain ⟨x, y, rfl, h1, h2⟩ := hv.two
    obtain ⟨s, rfl, rfl⟩ := h1.str_iff
    obtain rfl := h2.int_iff
    · skip
      refine .value (w' := w) (v := .int .i64 (Lib.countByte s.data.toList (Int.toNat (Int.ofNat c)).toUInt8)) ?_ (Post.same hr ?_)
      · show (callFunc f #[.string s, .int .u8 (Int.ofNat c)]).run P w = _
        rw [hx, Lib.run_countString]
        rfl
      · have e : countB c (s.data.toList.map UInt8.toNat) = Lib.countByte s.data.toList (Int.toNat (Int.ofNat c)).toUInt8 := by
          have hcc : c = (c.toUInt8).toNat := by simp; omega
          unfold Lib.countByte
          show countB c _ = List.count c.toUInt8 _
          rw [← countB_eq, ← hcc]
        rw [e]
        exact .int _ _
  · cases hrun

theorem ext_index {f : Nat} (hx : IsExt P f Extern.BytealgIndexByte.indexByte) : ExtOk P Dk N0 w0 f xIndex := by
  intro args h v h' hrun
  unfold xIndex at hrun
  split at hrun
  · rename_i bs c
    obtain ⟨hc, hrun⟩ := onB_ok hrun
    rw [blt_eq] at hc
    have hc := of_decide_eq_true hc
    have key : h' = h ∧ v = .int .i64 (match indexB c bs 0 with | some i => (i : Int) | none => -1) := by
      cases hi : indexB c bs 0 with
      | none => rw [hi] at hrun; cases hrun; exact ⟨rfl, rfl⟩
      | some i => rw [hi] at hrun; simp only [natK_eq] at hrun; cases hrun; exact ⟨rfl, rfl⟩
    obtain ⟨rfl, rfl⟩ := key
    clear hrun
    refine ⟨Nat.le_refl _, fun π w args' hv hr _ => ?_⟩
    obtain ⟨x, y, rfl, h1, h2⟩ := hv.two
    obtain ⟨s, rfl, rfl⟩ := h1.str_iff
    obtain rfl := h2.int_iff
    · skip
      refine .value (w' := w) (v := .int .i64 (Lib.indexByte s.data.toList (Int.toNat (Int.ofNat c)).toUInt8)) ?_ (Post.same hr ?_)
      · show (callFunc f #[.string s, .int .u8 (Int.ofNat c)]).run P w = _
        rw [hx, Lib.run_indexByteString]
        rfl
      · have hcc : c = (c.toUInt8).toNat := by simp; omega
        have e := (indexB_eq c.toUInt8 s.data.toList 0).1
        rw [← hcc] at e
        show VR π _ (.int .i64 (Lib.indexByte s.data.toList c.toUInt8))
        rw [← e]
        have : (match indexB c (s.data.toList.map UInt8.toNat) 0 with | some i => (i : Int) | none => -1) = (match indexB c (s.data.toList.map UInt8.toNat) 0 with | some j => (j : Int) - ((0 : Nat) : Int) | none => -1) := by
          cases indexB c (s.data.toList.map UInt8.toNat) 0 <;> simp
        rw [this]
        exact .int _ _
  · cases hrun

theorem run_clone {r : Nat} {es : Array MapEntry} {clock : Nat} (t : TypeId) (w : World) (hb : w.heap[r]? = some (.map es clock)) :
    (Extern.MapsClone.clone #[.iface t (.map (some r))]).run P w = .ok (.iface t (.map (some w.heap.size))) (w.alloc (.map es clock)) := by
  have e : Extern.MapsClone.clone #[.iface t (.map (some r))] = (getObj r >>= fun o => match o with
      | .map entries clock => (newObj (.map entries clock) >>= fun n => pure (.iface t (.map (some n))))
      | _ => stuck "maps.clone: a map expected") := rfl
  rw [e]
  simp [MapKept.run_getObj_map hb, Result.andThen, go_sem]

theorem ext_clone {f : Nat} (hx : IsExt P f Extern.MapsClone.clone) : ExtOk P Dk N0 w0 f xClone := by
  intro args h v h' hrun
  unfold xClone at hrun
  split at hrun
  · rename_i t r
    cases h with
    | mk own next =>
      simp only at hrun
      split at hrun
      · rename_i es ho
        rw [setN_eq, natK_eq] at hrun
        cases hrun
        refine ⟨by simp [nextOf], fun π w args' hv hr hf => ?_⟩
        have free := hf next (by simp [nextOf]) (by simp [nextOf])
        obtain ⟨x, rfl, h1⟩ := hv.one
        obtain ⟨y, rfl, h2⟩ := h1.iface_iff
        obtain ⟨p, hp, rfl⟩ := h2.map_iff
        · skip
          obtain ⟨entries, clock, k1, k2, k3⟩ := hr.objs r _ p ho hp
          have hle := upd_le (π := π) (b := next) ⟨w.heap.size, 0, 0⟩ free
          obtain ⟨q1, q2⟩ := hr.alloc free (.map es) (.map entries clock) 0 ⟨entries, clock, heap_alloc_at w _, k2, fun i k v e a b => ⟨(k3 i k v e a b).1.mono hle, (k3 i k v e a b).2.mono hle⟩⟩
          refine .value (w' := w.alloc (.map entries clock)) (v := .iface t (.map (some w.heap.size))) ?_ ⟨_, .iface t (.map (p := ⟨w.heap.size, 0, 0⟩) next (upd_same _ _ _)), q1, q2⟩
          show (callFunc f #[.iface t (.map (some p.blk))]).run P w = _
          rw [hx, run_clone t w k1]
          rfl
      · cases hrun
  · cases hrun
end
end Go.Sx

namespace Go.Sx

/-! package variables of integers, bools and strings -/
def okOffs (P : Program) : List Field → Nat → Option Nat
  | [], o => some o
  | f :: fs, o => if f.offset = o then okOffs P fs (o + P.cellsOf f.type) else none
def flatTy (P : Program) : Nat → TypeId → Bool
  | 0, _ => false
  | n + 1, t => match P.underlying t with
    | some .bool => true
    | some (.int _) => true
    | some .string => true
    | some (.struct fs) => (match okOffs P fs.toList 0 with | some k => Nat.beq k (P.cellsOf t) | none => false) && fs.toList.all (fun f => flatTy P n f.type)
    | some (.array len e) => Nat.beq (P.cellsOf t) (len * P.cellsOf e) && flatTy P n e
    | _ => false

mutual
def flatD {H : Type} : DataW H → Option (List Value)
  | .lit (.bool b) => some [.bool b]
  | .lit (.int k n) => some [.int k n]
  | .lit (.string l) => some [.string ⟨l.toArray⟩]
  | .agg ds => flatDs ds
  | _ => none
def flatDs {H : Type} : List (DataW H) → Option (List Value)
  | [] => some []
  | d :: ds => match flatD d with
    | some x => match flatDs ds with
      | some y => some (x ++ y)
      | none => none
    | none => none
end

theorem okOffs_le {P : Program} : ∀ (fs : List Field) (o k : Nat), okOffs P fs o = some k → o ≤ k
  | [], o, k, h => by cases h; exact Nat.le_refl _
  | f :: fs, o, k, h => by
    unfold okOffs at h
    split at h
    · have := okOffs_le fs _ _ h; omega
    · cases h

theorem flat_ok {H : Type} {enc : TypeId × Value → H} {P : Program} {w : World} {base : Nat} {sp : Nat → Bool} {held : Bool} : ∀ (n : Nat) (t : TypeId), flatTy P n t = true → ∀ (fuel : Nat) (cs : List Value) (d : DataW H) (p : List MemPlace),
    DataW.trod enc P w base sp held fuel t cs = some (d, p) → flatD d = some cs
  | 0, _, h, _, _, _, _, _ => by cases h
  | n + 1, t, h, 0, cs, d, p, hd => by simp [DataW.trod] at hd
  | n + 1, t, h, fuel + 1, cs, d, p, hd => by
    unfold flatTy at h
    cases hu : P.underlying t with
    | none => rw [hu] at h; cases h
    | some u =>
      rw [hu] at h
      have structs : ∀ (fs : List Field) (o k : Nat) (xs : List (DataW H × List MemPlace)), okOffs P fs o = some k → (∀ f ∈ fs, flatTy P n f.type = true) →
          fs.mapM (fun f => DataW.trod enc P w base sp held fuel f.type ((cs.drop f.offset).take (P.cellsOf f.type))) = some xs → flatDs (xs.map (·.1)) = some ((cs.drop o).take (k - o)) := by
        intro fs
        induction fs with
        | nil =>
          intro o k xs hk _ hx
          cases hk
          simp only [List.mapM_nil, Option.pure_def, Option.some.injEq] at hx
          subst hx
          simp [flatDs]
        | cons f fs ih =>
          intro o k xs hk hall hx
          unfold okOffs at hk
          split at hk
          · rename_i ho
            simp only [List.mapM_cons, Option.bind_eq_bind, Option.bind_eq_some_iff, Option.pure_def, Option.some.injEq] at hx
            obtain ⟨x, hx1, xs', hx2, rfl⟩ := hx
            obtain ⟨d1, p1⟩ := x
            have h1 := flat_ok n f.type (hall f (by simp)) fuel _ d1 p1 hx1
            have h2 := ih _ _ _ hk (fun g hg => hall g (by simp [hg])) hx2
            have hle := okOffs_le fs _ _ hk
            simp only [List.map_cons, flatDs, h1, h2]
            rw [ho]
            have e : k - o = P.cellsOf f.type + (k - (o + P.cellsOf f.type)) := by omega
            rw [e, List.take_add, List.drop_drop]
          · cases hk
      have arrays : ∀ (e : TypeId), flatTy P n e = true → ∀ (m i : Nat) (xs : List (DataW H × List MemPlace)),
          (List.range' i m).mapM (fun j => DataW.trod enc P w base sp held fuel e ((cs.drop (j * P.cellsOf e)).take (P.cellsOf e))) = some xs → flatDs (xs.map (·.1)) = some ((cs.drop (i * P.cellsOf e)).take (m * P.cellsOf e)) := by
        intro e he m
        induction m with
        | zero =>
          intro i xs hx
          simp only [List.range'_zero, List.mapM_nil, Option.pure_def, Option.some.injEq] at hx
          subst hx
          simp [flatDs]
        | succ m ih =>
          intro i xs hx
          rw [List.range'_succ] at hx
          simp only [List.mapM_cons, Option.bind_eq_bind, Option.bind_eq_some_iff, Option.pure_def, Option.some.injEq] at hx
          obtain ⟨x, hx1, xs', hx2, rfl⟩ := hx
          obtain ⟨d1, p1⟩ := x
          have h1 := flat_ok n e he fuel _ d1 p1 hx1
          have h2 := ih _ _ hx2
          simp only [List.map_cons, flatDs, h1, h2]
          have e1 : (m + 1) * P.cellsOf e = P.cellsOf e + m * P.cellsOf e := by rw [Nat.add_mul]; omega
          have e2 : (i + 1) * P.cellsOf e = i * P.cellsOf e + P.cellsOf e := by rw [Nat.add_mul]; omega
          rw [e1, e2, List.take_add, List.drop_drop]
      cases u with
      | bool =>
        obtain ⟨b, rfl, hx⟩ := DataW.trod_bool hu hd
        cases hx; rfl
      | int k =>
        obtain ⟨z, rfl, hx, _⟩ := DataW.trod_int hu hd
        cases hx; rfl
      | string =>
        obtain ⟨z, rfl, hx, _⟩ := DataW.trod_string hu hd
        cases hx
        simp [flatD]
      | struct fs =>
        simp only [DataW.trod, hu] at hd
        simp only [Bool.and_eq_true] at h
        obtain ⟨h1, h2⟩ := h
        split at hd
        · rename_i hl
          obtain ⟨xs, hm, hx⟩ := Option.map_eq_some_iff.1 hd
          cases hx
          cases hk : okOffs P fs.toList 0 with
          | none => rw [hk] at h1; cases h1
          | some k =>
            rw [hk] at h1
            have := Nat.eq_of_beq_eq_true h1
            subst this
            have := structs fs.toList 0 _ xs hk (fun f hf => List.all_eq_true.1 h2 f hf) hm
            simp only [flatD, this]
            rw [List.drop_zero, Nat.sub_zero, ← hl, List.take_length]
        · cases hd
      | array len e =>
        simp only [DataW.trod, hu] at hd
        simp only [Bool.and_eq_true] at h
        obtain ⟨h1, h2⟩ := h
        have h1 := Nat.eq_of_beq_eq_true h1
        split at hd
        · rename_i hl
          obtain ⟨xs, hm, hx⟩ := Option.map_eq_some_iff.1 hd
          cases hx
          rw [List.range_eq_range'] at hm
          have := arrays e h2 len 0 xs hm
          simp only [flatD, this]
          rw [Nat.zero_mul, List.drop_zero, ← h1, ← hl, List.take_length]
        · cases hd
      | _ => cases h

theorem laid_mem {P : Program} {w : World} {name : String} {d : DataW Unit} : ∀ (l : List (String × DataW Unit)) (ps : List MemPlace), DataW.LaidVars P w l ps → (name, d) ∈ l →
    ∃ g t cs fuel p, P.globalNamed name = some g ∧ (P.globals[g]?).map (·.type) = some t ∧ w.var? P name = some cs ∧ DataW.trod (fun _ => ()) P w 0 (fun _ => true) false fuel t cs.toList = some (d, p)
  | [], _, _, hm => by cases hm
  | (n, x) :: r, ps, h, hm => by
    obtain ⟨g, t, cs, fuel, p, q, h1, h2, h3, h4, h5, _⟩ := h
    cases hm with
    | head => exact ⟨g, t, cs, fuel, p, h1, h2, h3, h4⟩
    | tail _ hm => exact laid_mem r q h5 hm

theorem laid_met {P : Program} {w : World} {l : List (String × DataW Unit)} (h : laidMetH P l w) (hn : (l.filter fun x => x.2.handleName?.isSome) = []) : laidMet P l w := by
  unfold laidMetH at h
  rw [hn] at h
  exact h

/-- a package variable's cells, as the row has them -/
theorem glob_cells {P : Program} {w : World} {l : List (String × DataW Unit)} (h : laidMet P l w) {name : String} {d : DataW Unit} (hm : (name, d) ∈ l) {g t : Nat} (hg : P.globalNamed name = some g) (ht : (P.globals[g]?).map (·.type) = some t) (n : Nat) (hf : flatTy P n t = true)
    {vs : List Value} (hd : flatD d = some vs) {as : List AV} (ha : ofSs some none vs = some as) :
    ∀ off v, as[off]? = some v → g < w.heap.size ∧ ∃ v', w.cell? ⟨g, off, none⟩ = some v' ∧ (∀ π, VR π v v') ∧ v'.oneCell' = true := by
  intro off v hv
  obtain ⟨ps, hl, _⟩ := h
  obtain ⟨g', t', cs, fuel, p, h1, h2, h3, h4⟩ := laid_mem l ps hl hm
  rw [hg] at h1; cases h1
  rw [ht] at h2; cases h2
  have h5 := flat_ok n t hf fuel cs.toList d p h4
  rw [hd] at h5
  have h5 : cs.toList = vs := (Option.some.inj h5).symm
  have hcell := World.var?_cell hg h3 off
  have hvr : ∀ π, VRs π as vs ∧ ∀ x ∈ vs, x.oneCell' = true := fun π => ofSs_VR ha π
  obtain ⟨v', k1, _⟩ := (hvr (fun _ => none)).1.get hv
  have k2 : cs[off]? = some v' := by rw [← Array.getElem?_toList, h5]; exact k1
  rw [k2] at hcell
  refine ⟨?_, v', hcell, fun π => (hvr π).1.2 off v v' hv k1, (hvr (fun _ => none)).2 v' (List.mem_of_getElem? k1)⟩
  rcases Nat.lt_or_ge g w.heap.size with h | h
  · exact h
  · simp [World.cell?, Array.getElem?_eq_none h] at hcell
end Go.Sx

namespace Go.Sx

/-- a deferred function that asks whether the call gives up, and does nothing where it doesn't -/
structure Recovers (P : Program) (fn : Func) : Prop where
  ex : ∃ (i0 i1 : Nat) (o0 o1 o2 o3 : Oper) (x : Code) (t u : TypeId) (ms : _), fn.body = some (.seq (.region i0 #[o0, o1] false) (.seq (.region i1 #[o2, o3] false) (.cond (.tmp 9) x .skip))) ∧
    (o0.dst = some 7 ∧ o0.op = .call { callee := .builtin .recover, args := #[], argTypes := #[] } ∧ o0.guard = none) ∧
    (o1.dst = some 4 ∧ o1.op = .assign (.tmp 7) ∧ o1.guard = none) ∧
    (o2.dst = some 8 ∧ o2.op = .move (.tmp 4) ∧ o2.guard = none) ∧
    (o3.dst = some 9 ∧ o3.op = .binOp .neq t (.tmp 8) (.const .nilIface) u ∧ o3.guard = none) ∧ P.underlying t = some (.interface ms)
  res : fn.results = #[]
  tmps : 10 ≤ fn.ntmps

section
variable {P : Program}

theorem run_recover {ρ : Operand → Value} {o : Oper} (h : o.op = .call { callee := .builtin .recover, args := #[], argTypes := #[] }) (w : World) : (execOp ρ o).run P w = .ok .recover w := by
  simp [execOp, h, resolve, invoke, builtin]

theorem eval_put_same {a : Go.Act} {d : Nat} {v : Value} (h : d < a.tmps.size) : (a.put (some d) v).eval (.tmp d) = v := by
  simp [Act.eval, Act.put, h]

theorem opsS_recover {ops : Array Oper} {Q : Exit → Go.Act → List Frame → World → Prop} {i : Nat} {rest : List Nat} {o : Oper} {a : Go.Act} {cs : List Frame} {w : World} (ho : ops[i]? = some o) (hg : o.guard = none) (hr : (execOp a.eval o).run P w = .ok .recover w) (hrec : recoverD cs = none)
    (h : wpOpsS P ops Q rest (a.put o.dst .nilIface) cs w) : wpOpsS P ops Q (i :: rest) a cs w := by
  have hw : Region.wanted o (yielded ops a.tmps) = true := by simp [Region.wanted, hg]
  unfold wpOpsS
  simp only [ho, hw, if_true, hr, hrec]
  exact h
theorem opsS_value {ops : Array Oper} {Q : Exit → Go.Act → List Frame → World → Prop} {i : Nat} {rest : List Nat} {o : Oper} {a : Go.Act} {cs : List Frame} {w : World} {v : Value} (ho : ops[i]? = some o) (hg : o.guard = none) (hr : (execOp a.eval o).run P w = .ok (.value v) w)
    (h : wpOpsS P ops Q rest (a.put o.dst v) cs w) : wpOpsS P ops Q (i :: rest) a cs w := by
  have hw : Region.wanted o (yielded ops a.tmps) = true := by simp [Region.wanted, hg]
  unfold wpOpsS
  simp only [ho, hw, if_true, hr]
  exact h

theorem recovers_ok {f : Nat} {fn : Func} (hf : P.funcs[f]? = some fn) (h : Recovers P fn) (args : Array Value) (w : World) :
    CallsD P f args .returning w fun e u' w' => (∃ v, e = .returned v) ∧ settle u' = .returning ∧ w' = w := by
  obtain ⟨⟨i0, i1, o0, o1, o2, o3, x, t, u, ms, hb, ⟨d0, p0, g0⟩, ⟨d1, p1, g1⟩, ⟨d2, p2, g2⟩, ⟨d3, p3, g3⟩, hu⟩, hres, htm⟩ := h
  refine callsD_of_wpS hf hb fun c₀ cs hc => ?_
  have hrec : recoverD (c₀ :: cs) = none := by simp [recoverD, hc]
  generalize ha : ({ tmps := args ++ Array.replicate (fn.ntmps - args.size) undef, defers := [] } : Go.Act) = a
  have hs : 10 ≤ a.tmps.size := by rw [← ha]; simp; omega
  have hd : a.defers = [] := by rw [← ha]
  clear ha
  refine wpS_seq (wpS_region ?_)
  show wpOpsS P #[o0, o1] _ [0, 1] a _ w
  refine opsS_recover (o := o0) rfl g0 (run_recover p0 w) hrec ?_
  rw [d0]
  have s1 : (a.put (some 7) .nilIface).eval (.tmp 7) = .nilIface := eval_put_same (by omega)
  refine opsS_value (o := o1) (v := .nilIface) rfl g1 (by simp [execOp, p1, s1]) ?_
  rw [d1]
  show Exit.thenS _ _ .normal _ _ _
  unfold Exit.thenS
  refine wpS_seq (wpS_region ?_)
  have hs2 : ((a.put (some 7) .nilIface).put (some 4) .nilIface).tmps.size = a.tmps.size := by simp [Act.put]
  have s2 : ((a.put (some 7) .nilIface).put (some 4) .nilIface).eval (.tmp 4) = .nilIface := eval_put_same (by simp [Act.put]; omega)
  have hbd : ((a.put (some 7) .nilIface).put (some 4) .nilIface).defers = [] := hd
  generalize (a.put (some 7) .nilIface).put (some 4) .nilIface = b at s2 hs2 hbd
  show wpOpsS P #[o2, o3] _ [0, 1] b _ w
  refine opsS_value (o := o2) (v := .nilIface) rfl g2 (by simp [execOp, p2, s2]) ?_
  rw [d2]
  have s3 : (b.put (some 8) .nilIface).eval (.tmp 8) = .nilIface := eval_put_same (by omega)
  have e0 : ∀ w, (Op.equal t .nilIface .nilIface).run P w = .ok true w := fun w => eqn_if0 w 9999 t hu
  have e1 : (b.put (some 8) .nilIface).eval (.const .nilIface) = .nilIface := rfl
  refine opsS_value (o := o3) (v := .bool false) rfl g3 (by simp [execOp, p3, s3, e1, eqGuard, binOp, e0]) ?_
  rw [d3]
  show Exit.thenS _ _ .normal _ _ _
  unfold Exit.thenS
  refine wpS_cond (t := false) (eval_put_same (by simp [Act.put]; omega)) ?_
  simp only [Bool.false_eq_true, if_false]
  refine wpS_of_wp (wp_skip ?_)
  refine ⟨hbd, .returning, by rw [← hc], .tuple #[], by rw [results_none hres], ⟨_, rfl⟩, rfl, rfl⟩

/-- what the deferred calls of a program are -/
def DkOf (nop : Nat → Bool) (d : Deferred) : Prop := ∃ f captured first, nop f = true ∧ d = ⟨.fn (.func f) captured, first⟩

theorem dk_ok {nop : Nat → Bool} (h : ∀ f, nop f = true → ∃ fn, P.funcs[f]? = some fn ∧ Recovers P fn ∧ (fn.name == "runtime.NumGoroutine") = false) : DkOk P (DkOf nop) := by
  rintro d ⟨f, captured, first, hn, rfl⟩ w
  obtain ⟨fn, h1, h2, h3⟩ := h f hn
  have hb : ∃ c, fn.body = some c := by
    obtain ⟨⟨i0, i1, o0, o1, o2, o3, x, t, u, ms, hb, _⟩, _, _⟩ := h2
    exact ⟨_, hb⟩
  obtain ⟨c, hb⟩ := hb
  refine ⟨.func f, captured, f, first ++ captured, rfl, ?_, recovers_ok h1 h2 _ w⟩
  exact run_callFunc h1 h3 hb
end
end Go.Sx

namespace Go.Sx

/-! tables, checked once -/
noncomputable def trOf {α : Type} : (n : Nat) → (Nat → Option α) → TyL α n
  | 0, _ => ()
  | n + 1, g => (⟨g 0, trOf n (fun k => g (4 * k + 1)), trOf n (fun k => g (4 * k + 2)), trOf n (fun k => g (4 * k + 3)), trOf n (fun k => g (4 * k + 4))⟩ : Nd α (TyL α n))

theorem get_trOf {α : Type} : ∀ (n : Nat) (g : Nat → Option α) (k : Nat) (x : α), getN n (trOf n g) k = some x → g k = some x
  | 0, g, k, x, h => by cases h
  | n + 1, g, 0, x, h => h
  | n + 1, g, m + 1, x, h => by
    rw [getN_on] at h
    rcases mod4 m with hm | hm | hm | hm
    · rw [hm, sel4_0] at h
      have := get_trOf n _ _ x h
      have e : 4 * (m / 4) + 1 = m + 1 := by omega
      rwa [e] at this
    · rw [hm, sel4_1] at h
      have := get_trOf n _ _ x h
      have e : 4 * (m / 4) + 2 = m + 1 := by omega
      rwa [e] at this
    · rw [hm, sel4_2] at h
      have := get_trOf n _ _ x h
      have e : 4 * (m / 4) + 3 = m + 1 := by omega
      rwa [e] at this
    · rw [hm, sel4_3] at h
      have := get_trOf n _ _ x h
      have e : 4 * (m / 4) + 4 = m + 1 := by omega
      rwa [e] at this

/-- a printed function is what the compiler makes -/
structure FnGood (P : Program) (T : Nat → Option TypeInfo) (E : Env) (f : Nat) (fn : Func) (F : IFn) : Prop where
  at_ : P.funcs[f]? = some fn
  eq : fnOf T E fn = some F
  dst : fnDsts fn = true
  name : (fn.name == "runtime.NumGoroutine") = false

def AllGood (P : Program) (T : Nat → Option TypeInfo) (E : Env) : Nat → List (Option IFn) → Prop
  | _, [] => True
  | i, none :: l => AllGood P T E (i + 1) l
  | i, some F :: l => (∃ fn, FnGood P T E i fn F) ∧ AllGood P T E (i + 1) l

theorem AllGood.get {P : Program} {T : Nat → Option TypeInfo} {E : Env} : ∀ (l : List (Option IFn)) (i : Nat), AllGood P T E i l → ∀ k F, l[k]? = some (some F) → ∃ fn, FnGood P T E (i + k) fn F
  | [], _, _, k, F, h => by simp at h
  | none :: l, i, hg, k, F, h => by
    cases k with
    | zero => simp at h
    | succ k =>
      have := AllGood.get l (i + 1) hg k F (by simpa using h)
      have e : i + (k + 1) = i + 1 + k := by omega
      rw [e]; exact this
  | some G :: l, i, hg, k, F, h => by
    cases k with
    | zero => simp at h; subst h; exact hg.1
    | succ k =>
      have := AllGood.get l (i + 1) hg.2 k F (by simpa using h)
      have e : i + (k + 1) = i + 1 + k := by omega
      rw [e]; exact this

noncomputable def joinO : Option (Option IFn) → Option IFn
  | some (some F) => some F
  | _ => none

/-! types, looked through once -/
noncomputable def stC (P : Program) (T : Nat → Option TypeInfo) (t : Nat) : Bool := match eqK T t with
  | .struct _ => !(P.stoodInHeld t) && !(P.eqGuardType P.depth t)
  | _ => true
noncomputable def elC (T : Nat → Option TypeInfo) (t : Nat) : Bool := match und T t with
  | some (.slice e) => (match T e with
    | some i => (match i.zero with
      | some z => Nat.beq z.cells.size i.size && Nat.blt 0 i.size && Nat.blt 0 i.bytes
      | none => false)
    | none => false)
  | _ => true
noncomputable def fldC (T : Nat → Option TypeInfo) (t : Nat) : Bool := match und T t with
  | some (.struct fs) => fs.toList.all (fun f => (T f.type).isSome)
  | _ => true
noncomputable def allC (p : Nat → Bool) : Nat → Bool
  | 0 => true
  | n + 1 => p n && allC p n
theorem allC_ok {p : Nat → Bool} : ∀ (n : Nat), allC p n = true → ∀ t, t < n → p t = true
  | 0, _, t, ht => by omega
  | n + 1, h, t, ht => by
    simp only [allC, Bool.and_eq_true] at h
    by_cases hn : t = n
    · subst hn; exact h.1
    · exact allC_ok n h.2 t (by omega)

theorem setup_of {P : Program} {T : Nat → Option TypeInfo} {E : Env} {N0 : Nat} {w0 : World} {n : Nat} (hT : ∀ t i, T t = some i → t < n ∧ P.info? t = some i)
    (hs : allC (stC P T) n = true) (he : allC (elC T) n = true) (hf : allC (fldC T) n = true)
    (hg : ∀ b off v, E.glob b off = some v → b < N0 ∧ ∃ v', w0.cell? ⟨b, off, none⟩ = some v' ∧ (∀ π, VR π v v') ∧ v'.oneCell' = true) : Setup P T E N0 w0 (DkOf E.nop) := by
  have hund : ∀ t d, und T t = some d → t < n := fun t d h => by
    unfold und at h
    cases ht : T t with
    | none => rw [ht] at h; cases h
    | some i => exact (hT t i ht).1
  refine ⟨fun t i h => (hT t i h).2, hg, fun t os h => ?_, fun t e h => ?_, fun t fs h f hm => ?_, fun f h first captured => ⟨f, captured, first, h, rfl⟩⟩
  · have hlt : t < n := by
      unfold eqK at h
      cases hu : und T t with
      | none => rw [hu] at h; cases h
      | some d => exact hund t d hu
    have := allC_ok n hs t hlt
    unfold stC at this
    rw [h] at this
    simpa using this
  · have := allC_ok n he t (hund t _ h)
    unfold elC at this
    rw [h] at this
    simp only at this
    cases hi : T e with
    | none => rw [hi] at this; cases this
    | some i =>
      rw [hi] at this
      simp only at this
      cases hz : i.zero with
      | none => rw [hz] at this; cases this
      | some z =>
        rw [hz] at this
        simp only [Bool.and_eq_true] at this
        obtain ⟨⟨h1, h2⟩, h3⟩ := this
        rw [blt_eq] at h2 h3
        exact ⟨i, z, rfl, hz, Nat.eq_of_beq_eq_true h1, of_decide_eq_true h2, of_decide_eq_true h3⟩
  · have := allC_ok n hf t (hund t _ h)
    unfold fldC at this
    rw [h] at this
    have := List.all_eq_true.1 this f hm
    exact Option.isSome_iff_exists.1 this
end Go.Sx
