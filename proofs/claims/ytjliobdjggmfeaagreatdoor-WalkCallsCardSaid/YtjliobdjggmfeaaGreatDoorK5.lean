/-
  Every operation that the executor compiles answers as the model's does, for every program.
-/
import Derived.Test.YtjliobdjggmfeaaGreatDoorK4
import Derived.Laws.IdiomStrings
import Derived.Calls
set_option linter.unusedVariables false
set_option linter.unusedSimpArgs false
namespace Go.Sx
section
variable {P : Program} {T : Nat → Option TypeInfo} {E : Env} {N0 : Nat} {w0 : World} {Dk : Deferred → Prop}

theorem zeroCells_repeat (z : Array Value) (hz : 0 < z.size) (n : Nat) : Builtin.zeroCells z n = (repeatL z.toList n).toArray := by
  unfold Builtin.zeroCells
  exact made_repeat z hz n

theorem AppOk.zeros {t tx ty e : Nat} {i : TypeInfo} {z : Value} {kk : IntKind} (ht : P.underlying t = some (.slice e)) (htx : P.underlying tx = some (.int kk)) (hi : P.info? e = some i) (hz : i.zero = some z) (hsz : z.cells.size = i.size) (hpos : 0 < i.size) {k : IntKind} {n : Nat} (hn : (n : Int) ≤ 9223372036854775807) (hb : n * i.bytes < 1073741824) (h1 : ∀ x ∈ z.cells.toList, x.oneCell' = true) {w : World} :
    AppOk P (fun s => Builtin.append_ #[t, tx] ty #[s, .int k (n : Int)]) e i z n (repeatL z.cells.toList n) w := by
  have hw : IntKind.i64.wrap (n : Int) = n := by rw [IntKind.wrap_i64]; omega
  have h48 : ¬ ((281474976710656 : Int) < (n : Int) * (i.bytes : Int)) := by
    have : ((n * i.bytes : Nat) : Int) < 1073741824 := by omega
    rw [Int.natCast_mul] at this; omega
  have h0 : ¬ ((n : Int) < 0) := by omega
  have hw0 : IntKind.i64.wrap 0 = 0 := by rw [IntKind.wrap_i64]; omega
  have hpos' : i.size ≠ 0 := by omega
  have hl : (repeatL z.cells.toList n).length = n * i.size := by rw [len_repeat]; simp [hsz]
  have hone : ∀ x ∈ repeatL z.cells.toList n, x.oneCell' = true := fun x hx => h1 x (mem_repeat _ _ _ hx)
  refine ⟨fun b off sLen sCap hroom hc hf => ?_, fun base sLen sCap olds hold hg h63 hfit => ?_, fun hn0 => ?_⟩
  · have hst := run_storeCells_cells (P := P) b (off + sLen * i.size) (repeatL z.cells.toList n) 0 w (by simpa using hc) (by simpa using hf) hone
    simp only [Nat.add_zero] at hst
    by_cases hn0 : n = 0
    · subst hn0
      simp only [repeatL] at hst
      have hroom' : sLen ≤ sCap := hroom
      simp [Builtin.append_, run_underlying ht, run_underlying htx, sizeOf, typeInfo, hi, asInt, asIntOf, hw0, hroom', Addr.add_lit, repeatL, hst]
    · have hns : n * i.size ≠ 0 := Nat.mul_ne_zero hn0 (by omega)
      simp [Builtin.append_, run_underlying ht, run_underlying htx, sizeOf, typeInfo, hi, asInt, asIntOf, hw, h0, h48, hroom, hn0, hpos', zeroValue, hz, zeroCells_repeat z.cells (by omega), Addr.add_lit, hst]
      exact fun h => absurd h hns
  · have hnle : ¬ (sLen + n ≤ sCap) := by omega
    have h63' : ¬ (9223372036854775807 < ((sLen : Int) + (n : Int))) := by omega
    have h48' : ¬ (281474976710656 < Builtin.nextslicecap (sLen + n) sCap * i.bytes) := by omega
    by_cases hn0 : n = 0
    · subst hn0
      have hg' : ¬ sLen ≤ sCap := by omega
      have h63'' : ¬ (9223372036854775807 < (sLen : Int)) := by omega
      have h48'' : ¬ (281474976710656 < Builtin.nextslicecap sLen sCap * i.bytes) := by simpa using h48'
      simp [Builtin.append_, run_underlying ht, run_underlying htx, sizeOf, typeInfo, zeroValue, hi, hz, asInt, asIntOf, hw0, hg', h63'', h48'', Question.forced, hold, newRow, grownCap, repeatL]
    · have hns : n * i.size ≠ 0 := Nat.mul_ne_zero hn0 (by omega)
      simp [Builtin.append_, run_underlying ht, run_underlying htx, sizeOf, typeInfo, zeroValue, hi, hz, asInt, asIntOf, hw, h0, h48, hnle, h63', h48', Question.forced, hold, newRow, grownCap, hn0, hpos', zeroCells_repeat z.cells (by omega)]
      exact fun h => absurd h hns
  · subst hn0
    simp [Builtin.append_, run_underlying ht, run_underlying htx, sizeOf, typeInfo, hi, asInt, asIntOf, hw0]

theorem ok_cap (S : Setup P T E N0 w0 Dk) {c : Call} {cx : Ctx} {t : Nat} {ts : List Nat} {x : Operand} {xs : List Operand} {g : Get} {e : Nat} (hc : c.callee = .builtin .cap) (hts : c.argTypes.toList = t :: ts) (hxs : c.args.toList = x :: xs) (hg : opG cx x = some g) (hu : und T t = some (.slice e)) : ActOk P Dk N0 w0 cx (.call c) (aCap g) := by
  have ht0 : c.argTypes[0]? = some t := by rw [← Array.getElem?_toList, hts]; rfl
  refine pure_ok fun ih loc tm hp v hp' hrun => ?_
  simp only [aCap] at hrun
  split at hrun
  · rename_i hs
    cases hrun
    refine ⟨rfl, fun π w ρ o ho hops hr => ?_⟩
    have hx := (callArgs hops).1 x (by rw [hxs]; simp) g hg _ hs
    have hx0 : (c.args.map ρ)[0]? = some (ρ x) := by rw [args_map, hxs]; rfl
    have e : ρ x = .slice none 0 0 := by cases hρ : ρ x <;> rw [hρ] at hx <;> cases hx; rfl
    refine ⟨.int .i64 0, ?_, .int _ _⟩
    obtain ⟨consts, hb⟩ := run_builtin (P := P) (ρ := ρ) ho hc
    rw [hb]
    simp [builtin, Builtin.cap_, ht0, hx0, e, run_underlying (und_ok S hu), goInt]
  · cases hrun

theorem ok_defer (S : Setup P T E N0 w0 Dk) (c : Call) {cx : Ctx} {a : Act} (h : opC T E cx (.defer c) some none = some a) : ActOk P Dk N0 w0 cx (.defer c) a := by
  simp only [opC] at h
  split at h
  · rename_i x hc
    split at h
    · rename_i hargs
      obtain ⟨g, hg, h⟩ := opn1 h
      cases h
      intro ih _ loc tm hp v hp' hrun
      simp only [aDefer] at hrun
      split at hrun
      · rename_i f first captured hf
        obtain ⟨hn, hrun'⟩ := onB_ok hrun
        cases hrun'
        refine ⟨Nat.le_refl _, fun π w ρ o ho hops hr _ => ?_⟩
        have hmem : x ∈ (Op.defer c).operands.toList := by
          show x ∈ ((match c.callee with | .value f => #[f] | .invoke r _ => #[r] | .builtin _ => #[]) ++ c.args).toList
          rw [hc]; simp
        obtain ⟨xs', ys', e, k1, k2⟩ := (hops x hmem g hg _ hf).func_iff
        have ea : c.args.map ρ = #[] := by rw [args_map, hargs]; rfl
        have hrun2 : (execOp ρ o).run P w = .ok (.defer ⟨.fn (.func f) ys'.toArray, xs'.toArray⟩) w := by
          simp [execOp, ho, resolve, hc, e, ea, Deferred.ofValue]
        unfold Doo
        rw [hrun2]
        exact ⟨S.nop f hn _ _, π, VR.tup_mk .nil, hr, Step.refl _ _ _⟩
      · cases hrun
    · cases h
  · cases h
end
end Go.Sx

namespace Go.Sx
section
variable {P : Program} {T : Nat → Option TypeInfo} {E : Env} {N0 : Nat} {w0 : World} {Dk : Deferred → Prop}

theorem call_appendZ (S : Setup P T E N0 w0 Dk) {c : Call} {cx : Ctx} {t u : Nat} {ts : List Nat} {x y : Operand} {g g' : Get} {e b : Nat} {kk : IntKind} {i : TypeInfo} {z : Value} {zv : AV} {zs : List AV} (hc : c.callee = .builtin .append) (hts : c.argTypes.toList = t :: u :: ts) (hxs : c.args.toList = [x, y])
    (hg : opG cx x = some g) (hg' : opG cx y = some g') (hu : und T t = some (.slice e)) (hk : und T u = some (.int kk)) (hb : bytesOf T e = some b) (hT : T e = some i) (hz : i.zero = some z) (hzv : ofVal z some none = some zv) (hzs : clO zv = some zs) : ActOk P Dk N0 w0 cx (.call c) (aAppendZ E b zs g g') := by
  obtain ⟨i', z', hT', hz', hsz, hpos, hbytes⟩ := S.el t e hu
  rw [hT] at hT'; cases hT'
  rw [hz] at hz'; cases hz'
  have hb' : i.bytes = b := by unfold bytesOf at hb; rw [hT] at hb; cases hb; rfl
  subst hb'
  have h0 : c.argTypes[0]? = some t := by rw [← Array.getElem?_toList, hts]; rfl
  have h1 : c.argTypes[1]? = some u := by rw [← Array.getElem?_toList, hts]; rfl
  have hzl : zs.length = i.size := by
    obtain ⟨zs', hc', hv, _⟩ := clO_some (ofVal_VR hzv (fun _ => none)) hzs
    rw [← hsz, hc', hv.1]; simp
  intro ih _ loc tm h v h' hrun
  simp only [aAppendZ] at hrun
  split at hrun
  · rename_i a j n ha hn
    obtain ⟨hlt, hrun'⟩ := onB_ok hrun
    rw [blt_eq, decide_eq_true_eq] at hlt
    rw [lenL_eq, hzl] at hrun'
    obtain ⟨hnext, hok⟩ := appendC_ok S (e := e) hsz hpos hbytes hrun'
    refine ⟨hnext, fun π w ρ o ho hops hr hf => ?_⟩
    obtain ⟨oa, _⟩ := callArgs hops
    have hx := oa x (by rw [hxs]; simp) g hg _ ha
    have hy := indexInt (oa y (by rw [hxs]; simp) g' hg' _ hn)
    obtain ⟨zs', hc', hv, hone⟩ := clO_some (ofVal_VR hzv π) hzs
    have hzs' : z.cells.toList = zs' := by rw [hc']
    have hn63 : n ≤ n * i.bytes := Nat.le_mul_of_pos_right _ hbytes
    obtain ⟨v', w', r1, r2⟩ := hok (by rw [len_repeat, hzl]) π w _ (repeatL zs' n) _ hr hf hx (hv.repeat n) (fun y hy => hone y (mem_repeat _ _ _ hy))
      (by rw [← hzs']; exact AppOk.zeros (ty := o.type) (k := j) (und_ok S hu) (und_ok S hk) (S.ty e i hT) hz hsz hpos (by omega) hlt (by rw [hzs']; exact hone))
    refine .value (w' := w') (v := v') ?_ r2
    obtain ⟨consts, hb⟩ := run_builtin (P := P) (ρ := ρ) ho hc
    have ea : c.args.map ρ = #[ρ x, .int j (n : Int)] := by rw [args_map, hxs, ← hy]; rfl
    rw [hb, ea]
    simp only [builtin, append_args h0 h1, Sem.run_bind, r1, Result.andThen_ok, Sem.run_pure]
  · cases hrun

theorem ok_call (S : Setup P T E N0 w0 Dk) (c : Call) {cx : Ctx} {a : Act} (h : opC T E cx (.call c) some none = some a) : ActOk P Dk N0 w0 cx (.call c) a := by
  simp only [opC] at h
  split at h
  · rename_i hc
    obtain ⟨gs, hgs, h⟩ := opns1 h
    cases h
    exact call_static hc hgs
  · rename_i x _ hc
    obtain ⟨g, hg, h⟩ := opn1 h
    obtain ⟨gs, hgs, h⟩ := opns1 h
    cases h
    exact call_value hc hg hgs
  · rename_i hc
    split at h
    · rename_i t u ts x y hts hxs
      obtain ⟨g, hg, h⟩ := opn1 h
      obtain ⟨g', hg', h⟩ := opn1 h
      split at h
      · rename_i hu1 hu2
        split at h
        · rename_i hn hb
          cases h
          exact call_append S hc hts hxs hg hg' hu1 (.inl ⟨_, und_ok S hu2⟩) hn hb
        · cases h
      · rename_i hu1 hu2
        split at h
        · rename_i hn hb
          cases h
          exact call_append S hc hts hxs hg hg' hu1 (.inr (und_ok S hu2)) hn hb
        · cases h
      · rename_i hu1 hu2
        split at h
        · rename_i hb
          obtain ⟨i, z, zv, hT, hz, hzv, h⟩ := zero1 h
          obtain ⟨zs, hzs, h⟩ := onO1 h
          cases h
          exact call_appendZ S hc hts hxs hg hg' hu1 hu2 hb hT hz hzv hzs
        · cases h
      · cases h
    · cases h
  · rename_i hc
    split at h
    · rename_i hts hxs
      obtain ⟨g, hg, h⟩ := opn1 h
      exact call_len S hc hts hxs hg h
    · cases h
  · rename_i hc
    split at h
    · rename_i hts hxs
      obtain ⟨g, hg, h⟩ := opn1 h
      split at h
      · rename_i hu
        cases h
        exact ok_cap S hc hts hxs hg hu
      · cases h
    · cases h
  · rename_i hc
    obtain ⟨gs, hgs, h⟩ := opns1 h
    cases h
    exact call_minmax (mx := false) hc hgs
  · rename_i hc
    obtain ⟨gs, hgs, h⟩ := opns1 h
    cases h
    exact call_minmax (mx := true) hc hgs
  · cases h
end
end Go.Sx

namespace Go.Sx
section
variable {P : Program} {T : Nat → Option TypeInfo} {E : Env} {N0 : Nat} {w0 : World} {Dk : Deferred → Prop}

theorem ok_convert0 (S : Setup P T E N0 w0 Dk) (s d : TypeId) (x : Operand) {cx : Ctx} {a : Act} (h : opC T E cx (.convert s d x) some none = some a) (hSB : ∀ e g, opG cx x = some g → und T s = some .string → und T d = some (.slice e) → und T e = some (.int .u8) → ActOk P Dk N0 w0 cx (.convert s d x) (aSBytes g)) : ActOk P Dk N0 w0 cx (.convert s d x) a := by
  simp only [opC] at h
  split at h
  · rename_i h1 h2
    obtain ⟨g, hg, h⟩ := opn1 h
    cases h
    exact ok_convInt S s d _ g x hg h2 h1
  · rename_i h1 h2
    obtain ⟨g, hg, h⟩ := opn1 h
    cases h
    exact ok_convStr S s d g x hg h2 h1
  · rename_i h1 h2
    split at h
    · rename_i h3
      obtain ⟨g, hg, h⟩ := opn1 h
      cases h
      exact ok_convBytes S s d _ g x hg h2 h1 h3
    · cases h
  · rename_i h1 h2
    split at h
    · rename_i h3
      obtain ⟨g, hg, h⟩ := opn1 h
      cases h
      exact hSB _ g hg h1 h2 h3
    · cases h
  · cases h

/-- every operation that is compiled is sound -/
theorem ok_op0 (S : Setup P T E N0 w0 Dk) (op : Op) {cx : Ctx} {a : Act} (h : opC T E cx op some none = some a) (hSB : ∀ s d x e g, opG cx x = some g → und T s = some .string → und T d = some (.slice e) → und T e = some (.int .u8) → ActOk P Dk N0 w0 cx (.convert s d x) (aSBytes g)) : ActOk P Dk N0 w0 cx op a := by
  cases op with
  | move x => exact ok_move x h
  | assign x => exact ok_assign x h
  | pick c x y => exact ok_pick c x y h
  | alloc t => exact ok_alloc S t h
  | box t x => exact ok_box t x h
  | build t ps => exact ok_build S t ps h
  | buildSlice t n ps => exact ok_buildSlice S t n ps h
  | load t x => exact ok_load S t x h
  | store t x y => exact ok_store S t x y h
  | nilCheck x => exact ok_nilCheck x h
  | binOp op t x y z => exact ok_binOp S op t x y z h
  | unOp op t x => exact ok_unOp op t x h
  | convert s d x => exact ok_convert0 S s d x h (hSB s d x)
  | makeInterface t x => exact ok_makeInterface S t x h
  | makeFunc fn first captured =>
    cases fn with
    | func f => exact ok_makeFunc f first captured h
    | _ => cases h
  | makeMap t r =>
    cases r with
    | none => exact ok_makeMap t h
    | some _ => cases h
  | makeSlice t l c => exact ok_makeSlice S t l c h
  | slice t x lo hi mx => exact ok_slice S t x lo hi mx h
  | fieldAddr s x f => exact ok_fieldAddr S s x f h
  | field s x f => exact ok_field S s x f h
  | indexAddr t x i => exact ok_indexAddr S t x i h
  | index t x i => exact ok_index S t x i h
  | lookup t x i ok => exact ok_lookup S t x i ok h
  | mapUpdate t m k v => exact ok_mapUpdate S t m k v h
  | insert t m k v => exact ok_insert S t m k v h
  | typeAssert x u t ok => exact ok_typeAssert S x u t ok h
  | extract x i => exact ok_extract x i h
  | call c => exact ok_call S c h
  | defer c => exact ok_defer S c h
  | _ => cases h
end
end Go.Sx

namespace Go.Sx
section
variable {P : Program} {T : Nat → Option TypeInfo} {E : Env} {N0 : Nat} {w0 : World} {Dk : Deferred → Prop}

/-- a new row whose end is marked -/
theorem mark_core {π : Pm} {own : TyL AObj 8} {nx : Nat} {w : World} (hr : HRel N0 w0 π (.mk own nx) w) (free : π nx = none) {o : AObj} {cs' : List Value} (ho : ObjCells π o cs') {need cap' : Nat} (hcs : cs'.length = need) (hcap : need ≤ cap') (A : Array Value) (hA : A.size = cap') (hget : ∀ (i : Nat) (v : Value), cs'[i]? = some v → A[i]? = some v) (e : TypeId) :
    Post N0 w0 π (.mk own nx) w (.slice nx 0 need need 1) (.mk (setP (some o) 8 own nx) (nx + 1)) (.slice (some ⟨w.heap.size, 0, none⟩) need cap') (w.alloc (.cells A e (A.size, A.size + 1))) := by
  have hle := upd_le (π := π) (b := nx) ⟨w.heap.size, 0, cap'⟩ free
  have hblk : Blk (w.alloc (.cells A e (A.size, A.size + 1))) ⟨w.heap.size, 0, cap'⟩ := fun i hi => by
    have hi' : i < A.size := by rw [hA]; exact hi
    refine ⟨by rw [World.cell?_alloc_mark]; simp [hi'], ?_⟩
    rw [World.frozen?_alloc_mark]
    simp; omega
  have hrel := ho.rel hle hblk (by simp only [hcs, Nat.zero_add]; exact hcap) (fun i v' hv => by
    simp only [Nat.zero_add]
    rw [World.cell?_alloc_mark]; exact hget i v' hv)
  obtain ⟨k1, k2⟩ := hr.alloc free o (.cells A e (A.size, A.size + 1)) cap' hrel
  refine ⟨_, ?_, k1, k2⟩
  exact VR.slice (p := ⟨w.heap.size, 0, cap'⟩) nx 0 need need 1 (upd_same _ _ _) ⟨hcap, fun h => by omega, fun _ => by simp⟩

theorem ok_sBytes (S : Setup P T E N0 w0 Dk) (s d e : TypeId) (x : Operand) {cx : Ctx} {g : Get} (hg : opG cx x = some g) (hs : und T s = some .string) (hd : und T d = some (.slice e)) (he : und T e = some (.int .u8)) : ActOk P Dk N0 w0 cx (.convert s d x) (aSBytes g) := by
  intro ih _ loc tm hp v hp' hrun
  simp only [aSBytes] at hrun
  split at hrun
  · rename_i str hstr
    simp only [natK_eq, lenL_eq, newSlice] at hrun
    obtain ⟨own, nx, o, rfl, hn, hrun'⟩ := made_ok hrun
    cases hrun'
    refine ⟨by simp [nextOf], fun π w ρ o' ho hops hr hf => ?_⟩
    have free := hf nx (by simp [nextOf]) (by simp [nextOf])
    have hx := hops x (by simp [Op.operands]) g hg _ hstr
    cases hρ : ρ x <;> rw [hρ] at hx <;> first | (cases hx; done) | skip
    rename_i bs
    generalize hsb : str = str' at hx
    cases hx
    subst hsb
    have hlen : (bs.data.toList.map UInt8.toNat).length = bs.size := by simp
    have hv : VRs π ((bs.data.toList.map UInt8.toNat).map fun b => AV.int .u8 (.ofNat b)) (byteCells bs) := ⟨by simp [byteCells], fun i v v' h1 h2 => by
      simp only [byteCells, List.getElem?_map, Option.map_eq_some_iff] at h1 h2
      obtain ⟨a, ⟨c, h3, rfl⟩, rfl⟩ := h1
      obtain ⟨d, h4, rfl⟩ := h2
      rw [h3] at h4; cases h4
      exact .int _ _⟩
    have h1 : ∀ u ∈ byteCells bs, u.oneCell' = true := fun u hu => by obtain ⟨_, _, rfl⟩ := List.mem_map.1 hu; rfl
    have hcap := grownCap_ge w bs.size 0 e
    have hsize : (bytesRow bs (grownCap w bs.size 0 e)).size = grownCap w bs.size 0 e := by
      have : bs.data.size = bs.size := rfl
      simp [bytesRow]; omega
    have hr' : HRel N0 w0 π (.mk own nx) w.drew := hr.drawn _
    obtain ⟨π', q1, q2, q3⟩ := mark_core hr' free (ObjCells.mk hn hv h1) (by rw [byteCells_length, ← hlen]) (by rw [hlen]; exact hcap) (bytesRow bs (grownCap w bs.size 0 e)) hsize (fun i v hi => by
      have hlt := (List.getElem?_eq_some_iff.1 hi).1
      have hlt' : i < (bs.data.map (fun b => Value.int .u8 b.toNat)).size := by
        rw [byteCells_length] at hlt; simpa using hlt
      unfold bytesRow
      rw [Array.getElem?_append, if_pos hlt']
      simpa [byteCells] using hi) e
    have hc := run_bytes_of_string (P := P) w s d e bs (und_ok S hs) (und_ok S hd) (und_ok S he)
    refine .value (w' := _) (v := _) ?_ ⟨π', q1, q2, q3.drew⟩
    simp only [execOp, ho, hρ, Sem.run_bind, hc, Result.andThen_ok, Sem.run_pure, hlen]
    rfl
  · cases hrun

theorem ok_op (S : Setup P T E N0 w0 Dk) (op : Op) {cx : Ctx} {a : Act} (h : opC T E cx op some none = some a) : ActOk P Dk N0 w0 cx op a :=
  ok_op0 S op h fun s d x e _ hg hs hd he => ok_sBytes S s d e x hg hs hd he
end
end Go.Sx

namespace Go.Sx
section
variable {P : Program} {T : Nat → Option TypeInfo} {E : Env} {N0 : Nat} {w0 : World} {Dk : Deferred → Prop}

theorem ixOfO_succ (t : Nat) : ∀ (xs : List (Option Nat)) (i : Nat), ixOfO t xs (i + 1) = (ixOfO t xs i).map (· + 1)
  | [], _ => rfl
  | none :: xs, i => ixOfO_succ t xs (i + 1)
  | some x :: xs, i => by
    show onB (Nat.beq x t) (some (i + 1)) (ixOfO t xs (i + 1 + 1)) = (onB (Nat.beq x t) (some i) (ixOfO t xs (i + 1))).map (· + 1)
    cases Nat.beq x t with
    | true => rfl
    | false => exact ixOfO_succ t xs (i + 1)

/-- a frame's temporaries, beside ours -/
structure StRel (Dk : Deferred → Prop) (n xm : Nat) (ds : List (Option Nat)) (π : Pm) (loc : List AV) (tm : Tm) (a : Go.Act) : Prop where
  size : n ≤ a.tmps.size
  kept : ∀ t v, Nat.testBit xm t = true → getN 5 tm t = some v → ∃ v', a.tmps[t]? = some v' ∧ VR π v v'
  here : ∀ i t v, ixOfO t ds 0 = some i → loc[i]? = some v → ∃ v', a.tmps[t]? = some v' ∧ VR π v v'
  defs : ∀ d ∈ a.defers, Dk d

theorem StRel.mono {n xm : Nat} {ds : List (Option Nat)} {π π' : Pm} {loc : List AV} {tm : Tm} {a : Go.Act} (h : StRel Dk n xm ds π loc tm a) (hle : π.le π') : StRel Dk n xm ds π' loc tm a where
  size := h.size
  kept := fun t v h1 h2 => let ⟨v', k1, k2⟩ := h.kept t v h1 h2; ⟨v', k1, k2.mono hle⟩
  here := fun i t v h1 h2 => let ⟨v', k1, k2⟩ := h.here i t v h1 h2; ⟨v', k1, k2.mono hle⟩
  defs := h.defs

/-- a temporary that is read -/
theorem StRel.tmp {n xm : Nat} {ds : List (Option Nat)} {π : Pm} {loc : List AV} {tm : Tm} {a : Go.Act} (h : StRel Dk n xm ds π loc tm a) {t : Nat} {g : Get} (hg : opG ⟨xm, ds⟩ (.tmp t) = some g) {v : AV} (hv : g loc tm = some v) :
    ∃ v', a.tmps[t]? = some v' ∧ VR π v v' := by
  unfold opG opnC at hg
  simp only at hg
  split at hg
  · rename_i i hi
    rw [locC_all] at hg
    cases hg
    rw [locC_get] at hv
    exact h.here i t v hi hv
  · obtain ⟨hb, hg⟩ := onB1 hg
    rw [getC_all] at hg
    cases hg
    refine h.kept t v hb ?_
    exact (getC_get 5 t tm).symm.trans hv

theorem StRel.opOk {n xm : Nat} {ds : List (Option Nat)} {π : Pm} {loc : List AV} {tm : Tm} {a : Go.Act} (h : StRel Dk n xm ds π loc tm a) (x : Operand) : OpOk ⟨xm, ds⟩ π loc tm a.eval x := by
  intro g hg v hv
  cases x with
  | tmp t =>
    obtain ⟨v', h1, h2⟩ := h.tmp hg hv
    have : a.eval (.tmp t) = v' := by simp [Act.eval, Array.getD_eq_getD_getElem?, h1]
    rw [this]; exact h2
  | const c =>
    change ofVal c (fun a => some (gConst a)) none = some g at hg
    rw [ofVal_nat] at hg
    obtain ⟨av, h1, h2⟩ := onO1 hg
    cases h2
    cases hv
    exact ofVal_VR h1 π
  | global b =>
    cases hg; cases hv
    exact .gptr b 0
  | func f =>
    cases hg; cases hv
    exact VR.func_mk (xs' := []) (ys' := []) .nil .nil

/-- what a closure that keeps a value is -/
def PutOk (xm : Nat) (dst : Option Nat) (p : Option Put) : Prop := match dst with
  | none => p = none
  | some t => (Nat.testBit xm t = true ∧ p = some (putC 5 t id)) ∨ (Nat.testBit xm t = false ∧ p = none)

theorem dstC_ok {xm : Nat} {dst : Option Nat} {β : Type} (K : Option Put → β) : ∃ p, PutOk xm dst p ∧ dstC xm dst K = K p := by
  cases dst with
  | none => exact ⟨none, rfl, rfl⟩
  | some t =>
    unfold dstC
    simp only
    cases hb : Nat.testBit xm t with
    | true => exact ⟨some (putC 5 t id), .inl ⟨hb, rfl⟩, by rw [onB_true, putC_all]⟩
    | false => exact ⟨none, .inr ⟨hb, rfl⟩, rfl⟩

/-- the temporaries kept, after a put -/
noncomputable def putTm (p : Option Put) (dst : Option Nat) (v : AV) (tm : Tm) : Tm := match p, dst with
  | some _, some t => setP (some v) 5 tm t
  | _, _ => tm

theorem StRel.put {n xm : Nat} {ds : List (Option Nat)} {π : Pm} {loc : List AV} {tm : Tm} {a : Go.Act} (h : StRel Dk n xm ds π loc tm a) {dst : Option Nat} {p : Option Put} (hp : PutOk xm dst p) (hd : ∀ t, dst = some t → t < n) {v : AV} {v' : Value} (hv : VR π v v') :
    StRel Dk n xm (dst :: ds) π (v :: loc) (putTm p dst v tm) (a.put dst v') := by
  cases dst with
  | none =>
    refine ⟨h.size, fun t x h1 h2 => ?_, fun i t x h1 h2 => ?_, h.defs⟩
    · refine h.kept t x h1 ?_
      cases p <;> exact h2
    · change ixOfO t ds (0 + 1) = some i at h1
      rw [ixOfO_succ] at h1
      cases hi : ixOfO t ds 0 with
      | none => rw [hi] at h1; cases h1
      | some j => rw [hi] at h1; cases h1; exact h.here j t x hi (by simpa using h2)
  | some d =>
    have hdn := hd d rfl
    have hsz := h.size
    have hput : ∀ t, (a.put (some d) v').tmps[t]? = if t = d then some v' else a.tmps[t]? := fun t => by
      simp only [Act.put]
      by_cases ht : t = d
      · subst ht; simp [show t < a.tmps.size by omega]
      · rw [Array.getElem?_setIfInBounds_ne (Ne.symm ht)]; simp [ht]
    refine ⟨by simp only [Act.put, Array.size_setIfInBounds]; exact h.size, fun t x h1 h2 => ?_, fun i t x h1 h2 => ?_, h.defs⟩
    · rw [hput]
      by_cases ht : t = d
      · subst ht
        rcases hp with ⟨_, rfl⟩ | ⟨hb, rfl⟩
        · simp only [putTm] at h2
          rw [get_set_same] at h2
          split at h2
          · cases h2; exact ⟨v', by simp, hv⟩
          · cases h2
        · rw [hb] at h1; cases h1
      · simp only [ht, if_false]
        refine h.kept t x h1 ?_
        rcases hp with ⟨_, rfl⟩ | ⟨_, rfl⟩
        · simp only [putTm] at h2
          rwa [get_set_other _ _ _ _ _ ht] at h2
        · exact h2
    · rw [hput]
      change onB (Nat.beq d t) (some 0) (ixOfO t ds (0 + 1)) = some i at h1
      by_cases ht : t = d
      · subst ht
        rw [Nat.beq_refl, onB_true] at h1
        cases h1
        cases h2
        exact ⟨v', by simp, hv⟩
      · have hb : Nat.beq d t = false := by
          cases hb : Nat.beq d t with
          | false => rfl
          | true => exact absurd (Nat.eq_of_beq_eq_true hb).symm ht
        rw [hb, onB_false, ixOfO_succ] at h1
        simp only [ht, if_false]
        cases hi : ixOfO t ds 0 with
        | none => rw [hi] at h1; cases h1
        | some j => rw [hi] at h1; cases h1; exact h.here j t x hi (by simpa using h2)
end
end Go.Sx

namespace Go.Sx
section
variable {P : Program} {T : Nat → Option TypeInfo} {E : Env} {N0 : Nat} {w0 : World} {Dk : Deferred → Prop}

theorem StRel.defer {n xm : Nat} {ds : List (Option Nat)} {π : Pm} {loc : List AV} {tm : Tm} {a : Go.Act} (h : StRel Dk n xm ds π loc tm a) {d : Deferred} (hd : Dk d) : StRel Dk n xm ds π loc tm { a with defers := d :: a.defers } :=
  ⟨h.size, h.kept, h.here, fun x hx => by
    cases hx with
    | head => exact hd
    | tail _ hx => exact h.defs x hx⟩

/-- one operation -/
theorem act_step {xm n : Nat} {ds : List (Option Nat)} {o : Oper} {act : Act} (hA : ActOk P Dk N0 w0 ⟨xm, ds⟩ o.op act) {ih : Ih} (hih : IhOk P Dk N0 w0 ih) {loc : List AV} {tm : Tm} {h h1 : Hp} {v : AV} (hrun : act ih loc tm h = .ok v h1) :
    nextOf h ≤ nextOf h1 ∧ ∀ {π : Pm} {w : World} {a : Go.Act}, StRel Dk n xm ds π loc tm a → HRel N0 w0 π h w → Free π (nextOf h) (nextOf h1) → ∀ (next : Go.Act → World → Prop) (Q : Exit → Go.Act → World → Prop),
      (∀ π1 v' w1 a1, VR π1 v v' → HRel N0 w0 π1 h1 w1 → Step π π1 h h1 w w1 → StRel Dk n xm ds π1 loc tm a1 → next (a1.put o.dst v') w1) → o.wp P a w next Q := by
  obtain ⟨k1, k2⟩ := hA ih hih loc tm h v h1 hrun
  refine ⟨k1, fun {π w a} hs hr hf next Q hn => ?_⟩
  have hd := k2 π w a.eval o rfl (fun x _ => hs.opOk x) hr hf
  unfold Oper.wp
  unfold Doo at hd
  split at hd
  · rename_i v' w' he
    obtain ⟨π', p1, p2, p3⟩ := hd
    rw [he, Oper.upon_value]
    exact hn π' v' w' a p1 p2 p3 (hs.mono p3.le)
  · rename_i w' he
    obtain ⟨π', p1, p2, p3⟩ := hd
    rw [he, Oper.upon_skip]
    exact hn π' undef w' a p1 p2 p3 (hs.mono p3.le)
  · rename_i d w' he
    obtain ⟨hdk, π', p1, p2, p3⟩ := hd
    rw [he, Oper.upon_defer]
    exact hn π' undef w' { a with defers := d :: a.defers } p1 p2 p3 ((hs.mono p3.le).defer hdk)
  · rename_i f args w' he
    rw [he, Oper.upon_enter]
    refine Calls.mono hd fun e w'' hR => ?_
    obtain ⟨v', rfl, π', p1, p2, p3⟩ := hR
    exact hn π' v' w'' a p1 p2 p3 (hs.mono p3.le)
  · exact hd.elim

/-- a step that is passed over -/
theorem VR.undef {π : Pm} : VR π (.tup []) undef := VR.tup_mk (xs' := []) .nil

/-- the rounds of a region, in order -/
theorem mkOp_run {act : Act} {p : Option Put} {g : Option (Get × Bool)} {r : Rg} {xm : Nat} {dst : Option Nat} (hp : PutOk xm dst p) {ih : Ih} {loc : List AV} {tm tm' : Tm} {h h' : Hp} (hrun : (mkOp act p g r).r ih loc tm h = .norm tm' h') :
    (gWanted loc tm g = some true ∧ ∃ v h1, act ih loc tm h = .ok v h1 ∧ r ih (v :: loc) (putTm p dst v tm) h1 = .norm tm' h') ∨
      (gWanted loc tm g = some false ∧ r ih (.tup [] :: loc) (putTm p dst (.tup []) tm) h = .norm tm' h') := by
  have hput : ∀ (v : AV) (K : Tm → Res), (onO pNone (fun p => p) p) v tm K = K (putTm p dst v tm) := fun v K => by
    cases dst with
    | none => have : p = none := hp; subst this; rfl
    | some t =>
      rcases hp with ⟨_, rfl⟩ | ⟨_, rfl⟩
      · exact putC_put 5 t v tm K
      · rfl
  have hact : ∀ (F : AV → Hp → Res), onS (act ih loc tm h) .fail F = .norm tm' h' → ∃ v h1, act ih loc tm h = .ok v h1 ∧ F v h1 = .norm tm' h' := fun F hF => by
    cases ha : act ih loc tm h with
    | fail n => rw [ha] at hF; cases hF
    | ok v h1 => rw [ha] at hF; exact ⟨v, h1, rfl, hF⟩
  cases g with
  | none =>
    refine .inl ⟨rfl, ?_⟩
    cases p with
    | none =>
      obtain ⟨v, h1, h2, h3⟩ := hact _ hrun
      refine ⟨v, h1, h2, ?_⟩
      cases dst <;> exact h3
    | some p =>
      obtain ⟨v, h1, h2, h3⟩ := hact _ hrun
      exact ⟨v, h1, h2, by rw [← hput v (fun tm => r ih (v :: loc) tm h1)]; exact h3⟩
  | some gw =>
    obtain ⟨g, want⟩ := gw
    have key : rGuard g want act (onO pNone (fun p => p) p) r ih loc tm h = .norm tm' h' := by
      cases p <;> exact hrun
    unfold rGuard at key
    unfold gWanted
    split at key
    · rename_i b hb
      simp only [hb]
      rw [onB_eq] at key
      split at key
      · rename_i hw
        refine .inl ⟨by rw [hw], ?_⟩
        obtain ⟨v, h1, h2, h3⟩ := hact _ key
        exact ⟨v, h1, h2, by rw [← hput v (fun tm => r ih (v :: loc) tm h1)]; exact h3⟩
      · rename_i hw
        refine .inr ⟨by simpa using hw, ?_⟩
        rw [← hput (.tup []) (fun tm => r ih (.tup [] :: loc) tm h)]; exact key
    · rename_i v hv hb
      refine .inr ⟨?_, by rw [← hput (.tup []) (fun tm => r ih (.tup [] :: loc) tm h)]; exact key⟩
      cases v <;> simp_all
    · cases key
end
end Go.Sx
