/-
  The executor's conversions, slices, fields, indexes and maps answer as the model's do, for every program.
-/
import Derived.Test.YtjliobdjggmfeaaGreatDoorK2
import Derived.Laws.MakeOwn
import Derived.Laws.BytesString
import Derived.Laws.Slices
import Derived.MapKept
set_option linter.unusedVariables false
set_option linter.unusedSimpArgs false
namespace Go.Sx
section
variable {P : Program} {T : Nat → Option TypeInfo} {E : Env} {N0 : Nat} {w0 : World} {Dk : Deferred → Prop}

theorem isInt_ok {v : AV} {k : IntKind → Int → Sr} {r : AV} {h' : Hp} (h : isInt v k = .ok r h') : ∃ j n, v = .int j n ∧ k j n = .ok r h' := by
  cases v <;> first | (cases h; done) | exact ⟨_, _, rfl, h⟩

theorem bytesOfCells_ok : ∀ {cs : List AV} {bs : List Nat}, bytesOfCells cs = some bs → cs = bs.map (fun (n : Nat) => AV.int .u8 (Int.ofNat n)) ∧ ∀ b ∈ bs, b < 256
  | [], bs, h => by cases h; simp
  | v :: vs, bs, h => by
    unfold bytesOfCells at h
    split at h
    · rename_i he; cases he
    · rename_i n vs' he
      cases he
      obtain ⟨hn, h⟩ := onB1 h
      split at h
      · rename_i r hr
        cases h
        obtain ⟨h1, h2⟩ := bytesOfCells_ok hr
        rw [blt_eq] at hn
        simp only [decide_eq_true_eq] at hn
        refine ⟨by rw [h1]; rfl, fun b hb => ?_⟩
        cases hb with
        | head => exact hn
        | tail _ hb => exact h2 b hb
      · cases h
    · cases h

theorem push_foldl (ns : List Nat) (r : ByteArray) : (ns.foldl (fun (r : ByteArray) n => r.push (UInt8.ofNat n)) r).data.toList = r.data.toList ++ ns.map UInt8.ofNat := by
  induction ns generalizing r with
  | nil => simp
  | cons n ns ih => rw [List.foldl_cons, ih]; simp [ByteArray.push]

/-- bytes that are read make a string -/
theorem bytes_run {π : Pm} {cs : List AV} {bs : List Nat} (h : bytesOfCells cs = some bs) {cs' : List Value} (hv : VRs π cs cs') {w : World} {a : Addr} {n cap : Nat} (hr : (loadCells a n).run P w = .ok cs'.toArray w) :
    ∃ s : ByteArray, (Conv.bytesToString (.slice (some a) n cap)).run P w = .ok (.string s) w ∧ VR π (.str bs) (.string s) := by
  obtain ⟨rfl, h2⟩ := bytesOfCells_ok h
  have hc : cs' = (bs.map Int.ofNat).map (Value.int .u8) := by
    apply List.ext_getElem?
    intro i
    by_cases hi : i < bs.length
    · have h1 : (bs.map (fun (n : Nat) => AV.int .u8 (Int.ofNat n)))[i]? = some (.int .u8 (Int.ofNat bs[i])) := by simp [hi]
      obtain ⟨v', h3, h4⟩ := hv.get h1
      cases h4
      rw [h3]; simp [hi]
    · have hl := hv.1
      simp only [List.length_map] at hl
      rw [List.getElem?_eq_none (by omega), List.getElem?_eq_none (by simp; omega)]
  subst hc
  have := run_bytesToString (P := P) w a n cap (bs.map Int.ofNat) hr
  refine ⟨_, this, ?_⟩
  have e : (List.foldl (fun (r : ByteArray) (n : Int) => r.push (UInt8.ofNat n.toNat)) ByteArray.empty (bs.map Int.ofNat)).data.toList.map UInt8.toNat = bs := by
    rw [List.foldl_map]
    have := push_foldl bs ByteArray.empty
    simp only [Int.ofNat_eq_natCast, Int.toNat_natCast]
    rw [this]
    simp only [ByteArray.empty, List.map_append, List.map_map]
    have : (bs.map (UInt8.toNat ∘ UInt8.ofNat)) = bs := by
      conv => rhs; rw [← List.map_id bs]
      exact List.map_congr_left fun b hb => by simp [Nat.mod_eq_of_lt (h2 b hb)]
    rw [this]; rfl
  have k := VR.str (π := π) (List.foldl (fun (r : ByteArray) (n : Int) => r.push (UInt8.ofNat n.toNat)) ByteArray.empty (bs.map Int.ofNat))
  rwa [e] at k

theorem ok_makeFunc (f : Nat) (first captured : Array Operand) {cx : Ctx} {a : Act} (h : opC T E cx (.makeFunc (.func f) first captured) some none = some a) : ActOk P Dk N0 w0 cx (.makeFunc (.func f) first captured) a := by
  simp only [opC] at h
  obtain ⟨gs, hgs, h⟩ := opns1 h
  obtain ⟨gs', hgs', h⟩ := opns1 h
  cases h
  refine pure_ok fun ih loc tm hp v hp' hrun => ?_
  simp only [aFunc] at hrun
  obtain ⟨xs, hxs, hrun⟩ := onO_ok hrun
  obtain ⟨ys, hys, hrun⟩ := onO_ok hrun
  cases hrun
  refine ⟨rfl, fun π w ρ o ho hops hr => ?_⟩
  have h1 := evs_ok (ρ := ρ) (π := π) hgs (fun x hx => hops x (by show x ∈ (first ++ captured).toList; rw [Array.toList_append, List.mem_append]; exact .inl hx)) hxs
  have h2 := evs_ok (ρ := ρ) (π := π) hgs' (fun x hx => hops x (by show x ∈ (first ++ captured).toList; rw [Array.toList_append, List.mem_append]; exact .inr hx)) hys
  refine ⟨_, by simp [execOp, ho, Instr.makeFunc] <;> rfl, ?_⟩
  have e1 : first.map ρ = (first.toList.map ρ).toArray := by cases first; simp
  have e2 : captured.map ρ = (captured.toList.map ρ).toArray := by cases captured; simp
  rw [e1, e2]
  exact VR.func_mk h1 h2

theorem ok_convInt (S : Setup P T E N0 w0 Dk) (s d : TypeId) (k : IntKind) (g : Get) (x : Operand) {cx : Ctx} (hg : opG cx x = some g) (hd : und T d = some (.int k)) {js : IntKind} (hs : und T s = some (.int js)) : ActOk P Dk N0 w0 cx (.convert s d x) (aConv k g) := by
  refine pure_ok fun ih loc tm hp v hp' hrun => ?_
  simp only [aConv] at hrun
  obtain ⟨av, hav, hrun⟩ := onO_ok hrun
  obtain ⟨j, n, rfl, hrun'⟩ := isInt_ok hrun
  rw [mkI_eq] at hrun'
  cases hrun'
  refine ⟨rfl, fun π w ρ o ho hops hr => ?_⟩
  have hx := hops x (by simp [Op.operands]) g hg _ hav
  cases hρ : ρ x <;> rw [hρ] at hx <;> cases hx
  exact ⟨_, by simp [execOp, ho, hρ, convert, run_underlying (und_ok S hs), run_underlying (und_ok S hd), Conv.intToInt] <;> rfl, .int _ _⟩

theorem ok_convStr (S : Setup P T E N0 w0 Dk) (s d : TypeId) (g : Get) (x : Operand) {cx : Ctx} (hg : opG cx x = some g) (hd : und T d = some .string) (hs : und T s = some .string) : ActOk P Dk N0 w0 cx (.convert s d x) (aStr g) := by
  refine pure_ok fun ih loc tm hp v hp' hrun => ?_
  simp only [aStr] at hrun
  split at hrun
  · rename_i b hav
    cases hrun
    refine ⟨rfl, fun π w ρ o ho hops hr => ?_⟩
    have hx := hops x (by simp [Op.operands]) g hg _ hav
    cases hρ : ρ x <;> rw [hρ] at hx <;> first | (cases hx; done) | skip
    exact ⟨_, by simp [execOp, ho, hρ, convert, run_underlying (und_ok S hs), run_underlying (und_ok S hd)] <;> rfl, hx⟩
  · cases hrun

theorem ok_convBytes (S : Setup P T E N0 w0 Dk) (s d e : TypeId) (g : Get) (x : Operand) {cx : Ctx} (hg : opG cx x = some g) (hd : und T d = some .string) (hs : und T s = some (.slice e)) (he : und T e = some (.int .u8)) :
    ActOk P Dk N0 w0 cx (.convert s d x) (aBytesS E g) := by
  refine pure_ok fun ih loc tm hp v hp' hrun => ?_
  simp only [aBytesS] at hrun
  split at hrun
  · rename_i hav
    cases hrun
    refine ⟨rfl, fun π w ρ o ho hops hr => ?_⟩
    have hx := hops x (by simp [Op.operands]) g hg _ hav
    cases hρ : ρ x <;> rw [hρ] at hx <;> cases hx
    refine ⟨.string .empty, by simp [execOp, ho, hρ, convert, run_underlying (und_ok S hs), run_underlying (und_ok S hd), run_underlying (und_ok S he), Conv.bytesToString], ?_⟩
    exact VR.str ByteArray.empty
  · rename_i b off n c z hav
    obtain ⟨cs, hcs, hrun⟩ := onO_ok hrun
    obtain ⟨bs, hbs, hrun⟩ := onO_ok hrun
    cases hrun
    refine ⟨rfl, fun π w ρ o ho hops hr => ?_⟩
    have hx := hops x (by simp [Op.operands]) g hg _ hav
    cases hρ : ρ x <;> rw [hρ] at hx <;> first | (cases hx; done) | skip
    cases hx with
    | slice _ _ _ _ _ hq hc =>
      rename_i cap' p
      obtain ⟨b', o', vs', h1, h2, h3, h4, h5⟩ := cellsAt_ok S hr (.ptr b off hq) hcs
      cases h1
      have hl : vs'.length = n := by rw [← h3.1, h2]
      have hload := run_loadCells_list (P := P) w ⟨_, _, none⟩ vs' h4
      rw [hl] at hload
      obtain ⟨s', k1, k2⟩ := bytes_run (P := P) (cap := cap') hbs h3 hload
      exact ⟨_, by simp [execOp, ho, hρ, convert, run_underlying (und_ok S hs), run_underlying (und_ok S hd), run_underlying (und_ok S he), k1] <;> rfl, k2⟩
  · rename_i b off n c hav
    obtain ⟨cs, hcs, hrun⟩ := onO_ok hrun
    obtain ⟨bs, hbs, hrun⟩ := onO_ok hrun
    cases hrun
    refine ⟨rfl, fun π w ρ o ho hops hr => ?_⟩
    have hx := hops x (by simp [Op.operands]) g hg _ hav
    cases hρ : ρ x <;> rw [hρ] at hx <;> first | (cases hx; done) | skip
    cases hx
    obtain ⟨b', o', vs', h1, h2, h3, h4, h5⟩ := cellsAt_ok S hr (.gptr b off) hcs
    cases h1
    have hl : vs'.length = n := by rw [← h3.1, h2]
    have hload := run_loadCells_list (P := P) w ⟨_, _, none⟩ vs' h4
    rw [hl] at hload
    obtain ⟨s', k1, k2⟩ := bytes_run (P := P) (cap := c) hbs h3 hload
    exact ⟨_, by simp [execOp, ho, hρ, convert, run_underlying (und_ok S hs), run_underlying (und_ok S hd), run_underlying (und_ok S he), k1] <;> rfl, k2⟩
  · cases hrun

theorem ok_makeMap (t : TypeId) {cx : Ctx} {a : Act} (h : opC T E cx (.makeMap t none) some none = some a) : ActOk P Dk N0 w0 cx (.makeMap t none) a := by
  simp only [opC] at h
  cases h
  intro ih _ loc tm hp v hp' hrun
  obtain ⟨own, n⟩ := hp
  simp only [aMap, newObjK, setN_eq, natK_eq] at hrun
  cases hrun
  refine ⟨by simp [nextOf], fun π w ρ o' ho hops hr hf => ?_⟩
  have free := hf n (by simp [nextOf]) (by simp [nextOf])
  obtain ⟨k1, k2⟩ := hr.alloc free (.map []) (.map #[] 0) 0 ⟨#[], 0, by rw [heap_alloc_at], by simp, fun i k v e h => by simp at h⟩
  refine .value (w' := w.alloc (.map #[] 0)) (v := .map (some w.heap.size)) ?_ ⟨_, .map n (upd_same _ _ _), k1, k2⟩
  simp [execOp, ho, Instr.makeMap]

theorem get_repeat {α : Type} (l : List α) (hl : 0 < l.length) : ∀ (n i : Nat), i < n * l.length → (repeatL l n)[i]? = l[i % l.length]?
  | 0, i, h => by simp at h
  | n + 1, i, h => by
    simp only [repeatL]
    by_cases hi : i < l.length
    · rw [List.getElem?_append_left hi, Nat.mod_eq_of_lt hi]
    · have := get_repeat l hl n (i - l.length) (by rw [Nat.succ_mul] at h; omega)
      rw [List.getElem?_append_right (by omega), this]
      congr 1
      rw [← Nat.mod_eq_sub_mod (by omega)]
theorem len_repeat {α : Type} (l : List α) (n : Nat) : (repeatL l n).length = n * l.length := by
  induction n with
  | zero => simp [repeatL]
  | succ n ih => simp only [repeatL, List.length_append, ih, Nat.succ_mul]; omega

/-- the zero cells of a row, related -/
theorem VRs.repeat {π : Pm} {zs : List AV} {zs' : List Value} (h : VRs π zs zs') (n : Nat) : VRs π (repeatL zs n) (repeatL zs' n) := by
  induction n with
  | zero => exact .nil
  | succ n ih => exact h.append ih
theorem mem_repeat {α : Type} (l : List α) (n : Nat) (x : α) (h : x ∈ repeatL l n) : x ∈ l := by
  induction n with
  | zero => cases h
  | succ n ih => simp only [repeatL, List.mem_append] at h; exact h.elim id ih
theorem made_repeat (z : Array Value) (hz : 0 < z.size) (n : Nat) : (Array.range (n * z.size)).map (z[· % z.size]!) = (repeatL z.toList n).toArray := by
  apply Array.ext_getElem?
  intro i
  by_cases hi : i < n * z.size
  · have h1 := get_repeat z.toList (by simpa using hz) n i (by simpa using hi)
    have hm : i % z.size < z.size := Nat.mod_lt _ hz
    simp only [List.getElem?_toArray, h1]
    simp [hi, getElem!_pos, hm]
  · rw [Array.getElem?_eq_none (by simp; omega), Array.getElem?_eq_none (by simp [len_repeat]; omega)]

theorem ok_makeSlice (S : Setup P T E N0 w0 Dk) (t : TypeId) (l c : Operand) {cx : Ctx} {a : Act} (h : opC T E cx (.makeSlice t l c) some none = some a) : ActOk P Dk N0 w0 cx (.makeSlice t l c) a := by
  simp only [opC] at h
  split at h
  · rename_i e hu
    split at h
    · rename_i b hb
      obtain ⟨i, z, zv, hT, hz, hzv, h⟩ := zero1 h
      obtain ⟨zs, hzs, h⟩ := onO1 h
      obtain ⟨gl, hgl, h⟩ := opn1 h
      obtain ⟨gc, hgc, h⟩ := opn1 h
      cases h
      obtain ⟨i', z', hT', hz', hsz, hpos, hbytes⟩ := S.el t e hu
      rw [hT] at hT'; cases hT'
      rw [hz] at hz'; cases hz'
      have hb' : i.bytes = b := by unfold bytesOf at hb; rw [hT] at hb; cases hb; rfl
      intro ih _ loc tm hp v hp' hrun
      simp only [aMake] at hrun
      split at hrun
      · rename_i jl n jc m hl hc
        obtain ⟨hle, hrun⟩ := onB_ok hrun
        simp only [Bool.and_eq_true, Nat.ble_eq, blt_eq, decide_eq_true_eq] at hle
        obtain ⟨own, nx, o, rfl, hn, hrun⟩ := made_ok hrun
        simp only [natK_eq] at hrun
        cases hrun
        refine ⟨by simp [nextOf], fun π w ρ o' ho hops hr hf => ?_⟩
        have free := hf nx (by simp [nextOf]) (by simp [nextOf])
        have hx := hops l (by simp [Op.operands]) gl hgl _ hl
        have hy := hops c (by simp [Op.operands]) gc hgc _ hc
        cases hρ : ρ l <;> rw [hρ] at hx <;> cases hx
        cases hρ' : ρ c <;> rw [hρ'] at hy <;> cases hy
        obtain ⟨zs', hc', hv, h1⟩ := clO_some (ofVal_VR hzv π) hzs
        have hzsz : z.cells.size = zs'.length := by rw [hc']; simp
        have hm63 : m ≤ m * b := Nat.le_mul_of_pos_right m (by omega)
        have hmk := run_makeSlice (P := P) w t e i z (und_ok S hu) (S.ty e i hT) hz jl jc (n : Int) (m : Int) (by omega) (by omega)
        have hrunM : (Instr.makeSlice t (.int jl (Int.ofNat n)) (.int jc (Int.ofNat m))).run P w = .ok (.slice (some ⟨w.heap.size, 0, none⟩) n m) (w.alloc (.cells (repeatL z.cells.toList m).toArray e)) := by
          have := run_make (P := P) w t e i z (und_ok S hu) (S.ty e i hT) hz jl jc (n : Int) (m : Int) (by omega) (by omega) (by
            have : ((b * m : Nat) : Int) ≤ 281474976710656 := by
              have := Nat.mul_comm m b; omega
            rw [hb']; rwa [Int.natCast_mul] at this) (by omega)
          simp only [Int.toNat_natCast] at this
          rw [show madeCells z.cells (m * i.size) = (repeatL z.cells.toList m).toArray by
            rw [← hsz]; exact made_repeat z.cells (by omega) m] at this
          exact this
        obtain ⟨k1, k2⟩ := newRow_ok hr free (hv.repeat m) (fun x hx => h1 x (mem_repeat _ _ _ hx)) hn (repeatL z.cells.toList m).toArray e (fun i v h => by
          rw [hc']; simpa using h) (by rw [hc']; simp)
        refine .value (w' := w.alloc (.cells (repeatL z.cells.toList m).toArray e)) (v := .slice (some ⟨w.heap.size, 0, none⟩) n m) ?_ ⟨_, ?_, k1, k2⟩
        · simp only [Int.ofNat_eq_natCast] at hrunM hρ hρ'
          simp only [execOp, ho, hρ, hρ', Sem.run_bind, hrunM, Result.andThen_ok, Sem.run_pure]
        · exact VR.slice (p := ⟨w.heap.size, 0, _⟩) nx 0 n m 0 (upd_same _ _ _) ⟨Nat.le_refl _, fun _ => rfl, fun h => absurd rfl h⟩
      · cases hrun
    · cases h
  · cases h

end
end Go.Sx

namespace Go.Sx
section
variable {P : Program} {T : Nat → Option TypeInfo} {E : Env} {N0 : Nat} {w0 : World} {Dk : Deferred → Prop}

/-- what a bound comes to -/
def Bd (g : Option Get) (loc : List AV) (tm : Tm) (d n : Nat) : Prop := (g = none ∧ n = d) ∨ ∃ g' j, g = some g' ∧ g' loc tm = some (.int j (.ofNat n))
theorem bdK_ok {g : Option Get} {loc : List AV} {tm : Tm} {d most : Nat} {k : Nat → Sr} {v : AV} {h' : Hp} (h : bdK g loc tm d most k = .ok v h') : ∃ n, n ≤ most ∧ k n = .ok v h' ∧ Bd g loc tm d n := by
  unfold bdK at h
  split at h
  · obtain ⟨hb, h⟩ := onB_ok h
    rw [natK_eq] at h
    exact ⟨d, Nat.le_of_ble_eq_true hb, h, .inl ⟨rfl, rfl⟩⟩
  · split at h
    · rename_i g' _ n hg
      obtain ⟨hb, h⟩ := onB_ok h
      rw [natK_eq] at h
      exact ⟨n, Nat.le_of_ble_eq_true hb, h, .inr ⟨_, _, rfl, hg⟩⟩
    · cases h

theorem opGO_some {cx : Ctx} {x : Operand} {g : Option Get} (h : opGO cx (some x) = some g) : ∃ g', g = some g' ∧ opG cx x = some g' := by
  change opnC cx x (fun g => some (some g)) none = some g at h
  rw [opnC_nat] at h
  obtain ⟨g', h1, h2⟩ := onO1 h
  cases h2
  exact ⟨g', rfl, h1⟩
theorem opGO_none {cx : Ctx} {g : Option Get} (h : opGO cx none = some g) : g = none := by
  cases h; rfl

theorem bounds_ok {cx : Ctx} {π : Pm} {loc : List AV} {tm : Tm} {ρ : Operand → Value} {lo hi : Option Operand} {glo ghi : Option Get} (hlo : opGO cx lo = some glo) (hhi : opGO cx hi = some ghi)
    (olo : ∀ x, lo = some x → OpOk cx π loc tm ρ x) (ohi : ∀ x, hi = some x → OpOk cx π loc tm ρ x) {len l u cap : Nat} (bl : Bd glo loc tm 0 l) (bu : Bd ghi loc tm len u) (h1 : l ≤ u) (h2 : u ≤ cap) (b : Bool) (w : World) :
    (Instr.sliceBounds b len cap (lo.map ρ) (hi.map ρ) none).run P w = .ok (l, u, cap) w := by
  have key : ∀ {x : Operand} {g : Option Get} {d n : Nat}, opGO cx (some x) = some g → OpOk cx π loc tm ρ x → Bd g loc tm d n → ∃ j, ρ x = .int j (n : Int) := by
    intro x g d n hg ho hb
    obtain ⟨g', rfl, hg'⟩ := opGO_some hg
    rcases hb with ⟨h, _⟩ | ⟨g'', j, h, hv⟩
    · cases h
    · cases h
      have := ho _ hg' _ hv
      cases hρ : ρ x <;> rw [hρ] at this <;> cases this
      exact ⟨_, rfl⟩
  have hu : ∀ x, hi = some x → ∃ j, ρ x = .int j (u : Int) := fun x hx => by subst hx; exact key hhi (ohi _ rfl) bu
  have hl : ∀ x, lo = some x → ∃ j, ρ x = .int j (l : Int) := fun x hx => by subst hx; exact key hlo (olo _ rfl) bl
  have hun : hi = none → u = len := fun hx => by
    subst hx
    cases opGO_none hhi
    rcases bu with ⟨_, h⟩ | ⟨_, _, h, _⟩
    · exact h
    · cases h
  have hln : lo = none → l = 0 := fun hx => by
    subst hx
    cases opGO_none hlo
    rcases bl with ⟨_, h⟩ | ⟨_, _, h, _⟩
    · exact h
    · cases h
  cases lo with
  | none =>
    cases hln rfl
    cases hi with
    | none => cases hun rfl; simp [Instr.sliceBounds]
    | some y =>
      obtain ⟨j, hj⟩ := hu y rfl
      simp [Instr.sliceBounds, hj, run_sliceBound w j (u : Int) cap _ (by omega) (by omega)]
  | some x =>
    obtain ⟨i, hi'⟩ := hl x rfl
    cases hi with
    | none =>
      cases hun rfl
      simp [Instr.sliceBounds, hi', run_sliceBound w i (l : Int) len _ (by omega) (by omega)]
    | some y =>
      obtain ⟨j, hj⟩ := hu y rfl
      simp [Instr.sliceBounds, hi', hj, run_sliceBound w j (u : Int) cap _ (by omega) (by omega), run_sliceBound w i (l : Int) u _ (by omega) (by omega)]

theorem sliceOps {t : TypeId} {x : Operand} {lo hi mx : Option Operand} {Q : Operand → Prop} (h : ∀ y ∈ (Op.slice t x lo hi mx).operands.toList, Q y) : Q x ∧ (∀ y, lo = some y → Q y) ∧ ∀ y, hi = some y → Q y := by
  have e : (Op.slice t x lo hi mx).operands = #[x] ++ lo.toArray ++ hi.toArray ++ mx.toArray := rfl
  rw [e] at h
  refine ⟨h x (by simp), fun y hy => h y ?_, fun y hy => h y ?_⟩
  · subst hy; simp
  · subst hy; simp

theorem moved_eq (l cap off sz : Nat) : moved l cap off sz = if l = 0 then off else if l = cap then off else off + l * sz := by
  unfold moved
  rw [onB_eq, onB_eq]
  by_cases h : l = 0
  · simp [h]
  · have h1 : Nat.beq l 0 = false := by cases hb : Nat.beq l 0 with
      | false => rfl
      | true => exact absurd (Nat.eq_of_beq_eq_true hb) h
    by_cases h2 : l = cap
    · subst h2; simp [h, Nat.beq_refl]
    · have h3 : Nat.beq l cap = false := by cases hb : Nat.beq l cap with
        | false => rfl
        | true => exact absurd (Nat.eq_of_beq_eq_true hb) h2
      simp [h, h2, h1, h3]

theorem ok_sliceS (S : Setup P T E N0 w0 Dk) (t : TypeId) (x : Operand) (lo hi : Option Operand) {cx : Ctx} {g : Get} {glo ghi : Option Get} (hg : opG cx x = some g) (hlo : opGO cx lo = some glo) (hhi : opGO cx hi = some ghi) (hu : und T t = some .string) :
    ActOk P Dk N0 w0 cx (.slice t x lo hi none) (aSliceS g glo ghi) := by
  refine pure_ok fun ih loc tm hp v hp' hrun => ?_
  simp only [aSliceS] at hrun
  split at hrun
  · rename_i s hs
    have key : ∃ l u, hp' = hp ∧ v = .str ((s.drop l).take (u - l)) ∧ Bd glo loc tm 0 l ∧ Bd ghi loc tm s.length u ∧ l ≤ u ∧ u ≤ s.length := by
      split at hrun
      · obtain ⟨l, h1, hrun, h2⟩ := bdK_ok hrun
        rw [lenL_eq] at h1
        cases hrun
        refine ⟨l, s.length, rfl, by rw [drop1_eq, List.take_of_length_le (by simp)], h2, .inl ⟨rfl, rfl⟩, h1, Nat.le_refl _⟩
      · obtain ⟨u, h1, hrun, h2⟩ := bdK_ok hrun
        obtain ⟨l, h3, hrun, h4⟩ := bdK_ok hrun
        rw [lenL_eq] at h1
        cases hrun
        refine ⟨l, u, rfl, by rw [take1_eq, drop1_eq], h4, ?_, h3, h1⟩
        rcases h2 with ⟨h, _⟩ | ⟨g', j, h, hv⟩
        · cases h
        · exact .inr ⟨g', j, h, hv⟩
    obtain ⟨l, u, rfl, rfl, bl, bu, h1, h2⟩ := key
    refine ⟨rfl, fun π w ρ o ho hops hr => ?_⟩
    obtain ⟨ox, olo, ohi⟩ := sliceOps hops
    have hx := ox g hg _ hs
    cases hρ : ρ x <;> rw [hρ] at hx <;> first | (cases hx; done) | skip
    rename_i b
    generalize hsb : s = s' at hx
    cases hx
    subst hsb
    have hsz : b.size = (b.data.toList.map UInt8.toNat).length := by simp
    have hb := bounds_ok (P := P) hlo hhi olo ohi bl bu h1 h2 false w
    rw [← hsz] at hb
    refine ⟨.string (b.extract l u), ?_, ?_⟩
    · simp [execOp, ho, hρ, Instr.sliceAt, Instr.slice, run_underlying (und_ok S hu), hb]
    · have e : (b.extract l u).data.toList.map UInt8.toNat = ((b.data.toList.map UInt8.toNat).drop l).take (u - l) := by
        rw [ByteArray.data_extract]
        simp [List.map_take, List.map_drop, List.extract_eq_take_drop]
      rw [← e]
      exact VR.str _
  · cases hrun

theorem Addr_moved (p : Addr) (l m sz : Nat) (h : l ≤ m) : (if m = l then p else p.add (l * sz)) = (if l = 0 then p else if l = m then p else p.add (l * sz)) := by
  by_cases h0 : l = 0
  · subst h0
    simp only [Nat.zero_mul, if_true]
    have : p.add 0 = p := by simp [Addr.add]
    rw [this]; simp
  · by_cases h1 : l = m
    · subst h1; simp
    · simp [h0, h1, Ne.symm h1]

theorem ok_sliceL (S : Setup P T E N0 w0 Dk) (t e : TypeId) (n : Nat) (x : Operand) (lo hi : Option Operand) {cx : Ctx} {g : Get} {glo ghi : Option Get} (hg : opG cx x = some g) (hlo : opGO cx lo = some glo) (hhi : opGO cx hi = some ghi) (hu : und T t = some (.slice e)) (hn : szOf T e = some n) :
    ActOk P Dk N0 w0 cx (.slice t x lo hi none) (aSliceL n g glo ghi) := by
  refine pure_ok fun ih loc tm hp v hp' hrun => ?_
  simp only [aSliceL] at hrun
  split at hrun
  · rename_i b off len cap z hs
    obtain ⟨u, h1, hrun, bu⟩ := bdK_ok hrun
    obtain ⟨l, h2, hrun, bl⟩ := bdK_ok hrun
    obtain ⟨hz, hrun⟩ := onB_ok hrun
    simp only [natK_eq] at hrun
    cases hrun
    refine ⟨rfl, fun π w ρ o ho hops hr => ?_⟩
    obtain ⟨ox, olo, ohi⟩ := sliceOps hops
    have hx := ox g hg _ hs
    cases hρ : ρ x <;> rw [hρ] at hx <;> first | (cases hx; done) | skip
    cases hx with
    | slice _ _ _ _ _ hq hc =>
      rename_i cap' p
      obtain ⟨c1, c2, c3⟩ := hc
      have hb := bounds_ok (P := P) hlo hhi olo ohi bl bu h2 (Nat.le_trans h1 c1) true w
      refine ⟨.slice (some (if cap' = l then ⟨p.blk, p.base + off, none⟩ else (⟨p.blk, p.base + off, none⟩ : Addr).add (l * n))) (u - l) (cap' - l), ?_, ?_⟩
      · simp only [execOp, ho, hρ, Instr.sliceAt, Instr.slice, Sem.run_bind, run_underlying (und_ok S hu), Result.andThen_ok, Option.map_none, hb, run_sizeOf' S hn]
        simp only [Sem.run_pure, Result.andThen_ok]
        by_cases hcl : cap' = l <;> simp [hcl]
      · rw [Addr_moved _ _ _ _ (by omega), moved_eq]
        have hz' : z = 0 ∨ (z = n ∧ (l = 0 ∨ l < cap)) := by
          simp only [Bool.or_eq_true, Bool.and_eq_true, Nat.beq_eq, blt_eq, decide_eq_true_eq] at hz
          exact hz
        by_cases h0 : l = 0
        · subst h0
          simp only [if_true]
          exact VR.slice _ _ _ _ _ hq ⟨by omega, fun hz => by have := c2 hz; omega, fun hz => by have := c3 hz; simpa using this⟩
        · by_cases hcap : l = cap
          · subst hcap
            have hz0 : z = 0 := by
              rcases hz' with h | ⟨_, h | h⟩
              · exact h
              · exact absurd h h0
              · omega
            cases c2 hz0
            simp only [h0, if_false, if_true]
            exact VR.slice _ _ _ _ _ hq ⟨by omega, fun _ => rfl, fun h => absurd hz0 h⟩
          · have hne : l ≠ cap' := by omega
            simp only [h0, hcap, hne, if_false, Addr.add_lit, Nat.add_assoc]
            refine VR.slice _ _ _ _ _ hq ⟨by omega, fun hz => by have := c2 hz; omega, fun hz => ?_⟩
            have := c3 hz
            rcases hz' with h | ⟨rfl, _⟩
            · exact absurd h hz
            · have e1 : l * z + (cap' - l) * z = cap' * z := by rw [← Nat.add_mul]; congr 1; omega
              omega
  · rename_i b off len cap hs
    obtain ⟨u, h1, hrun, bu⟩ := bdK_ok hrun
    obtain ⟨l, h2, hrun, bl⟩ := bdK_ok hrun
    simp only [natK_eq] at hrun
    cases hrun
    refine ⟨rfl, fun π w ρ o ho hops hr => ?_⟩
    obtain ⟨ox, olo, ohi⟩ := sliceOps hops
    have hx := ox g hg _ hs
    cases hρ : ρ x <;> rw [hρ] at hx <;> first | (cases hx; done) | skip
    cases hx
    have hb := bounds_ok (P := P) hlo hhi olo ohi bl bu h2 h1 true w
    refine ⟨.slice (some (if cap = l then ⟨b, off, none⟩ else (⟨b, off, none⟩ : Addr).add (l * n))) (u - l) (cap - l), ?_, ?_⟩
    · simp only [execOp, ho, hρ, Instr.sliceAt, Instr.slice, Sem.run_bind, run_underlying (und_ok S hu), Result.andThen_ok, Option.map_none, hb, run_sizeOf' S hn]
      simp only [Sem.run_pure, Result.andThen_ok]
      by_cases hcl : cap = l <;> simp [hcl]
    · rw [Addr_moved _ _ _ _ (by omega), moved_eq]
      split
      · exact .gslice _ _ _ _
      · split
        · exact .gslice _ _ _ _
        · rw [Addr.add_lit]; exact .gslice _ _ _ _
  · rename_i hs
    obtain ⟨u, h1, hrun, bu⟩ := bdK_ok hrun
    obtain ⟨l, h2, hrun, bl⟩ := bdK_ok hrun
    cases hrun
    refine ⟨rfl, fun π w ρ o ho hops hr => ?_⟩
    obtain ⟨ox, olo, ohi⟩ := sliceOps hops
    have hx := ox g hg _ hs
    cases hρ : ρ x <;> rw [hρ] at hx <;> first | (cases hx; done) | skip
    cases hx
    have hb := bounds_ok (P := P) hlo hhi olo ohi bl bu h2 h1 true w
    have hu0 : u = 0 := by omega
    have hl0 : l = 0 := by omega
    subst hu0; subst hl0
    refine ⟨.slice none 0 0, ?_, .nilSlice⟩
    simp only [execOp, ho, hρ, Instr.sliceAt, Instr.slice, Sem.run_bind, run_underlying (und_ok S hu), Result.andThen_ok, Option.map_none, hb, run_sizeOf' S hn]
    simp
  · cases hrun

theorem ok_sliceA (S : Setup P T E N0 w0 Dk) (t e : TypeId) (len n : Nat) (x : Operand) (lo hi : Option Operand) {cx : Ctx} {g : Get} {glo ghi : Option Get} (hg : opG cx x = some g) (hlo : opGO cx lo = some glo) (hhi : opGO cx hi = some ghi) (hu : und T t = some (.array len e)) (hn : szOf T e = some n) :
    ActOk P Dk N0 w0 cx (.slice t x lo hi none) (aSliceA len n g glo ghi) := by
  refine pure_ok fun ih loc tm hp v hp' hrun => ?_
  simp only [aSliceA] at hrun
  split at hrun
  · rename_i b off hs
    obtain ⟨u, h1, hrun, bu⟩ := bdK_ok hrun
    obtain ⟨l, h2, hrun, bl⟩ := bdK_ok hrun
    simp only [natK_eq] at hrun
    cases hrun
    refine ⟨rfl, fun π w ρ o ho hops hr => ?_⟩
    obtain ⟨ox, olo, ohi⟩ := sliceOps hops
    have hx := ox g hg _ hs
    cases hρ : ρ x <;> rw [hρ] at hx <;> first | (cases hx; done) | skip
    cases hx with
    | ptr _ _ hq =>
    rename_i p
    have hb := bounds_ok (P := P) hlo hhi olo ohi bl bu h2 h1 false w
    refine ⟨.slice (some (if len = l then ⟨p.blk, p.base + off, none⟩ else (⟨p.blk, p.base + off, none⟩ : Addr).add (l * n))) (u - l) (len - l), ?_, ?_⟩
    · simp [execOp, ho, hρ, Instr.sliceAt, Instr.sureAddr, run_underlying (und_ok S hu), hb, run_sizeOf' S hn]
    · rw [Addr_moved _ _ _ _ (by omega), moved_eq]
      split
      · exact VR.slice _ _ _ _ _ hq ⟨Nat.le_refl _, fun _ => rfl, fun h => absurd rfl h⟩
      · split
        · exact VR.slice _ _ _ _ _ hq ⟨Nat.le_refl _, fun _ => rfl, fun h => absurd rfl h⟩
        · rw [Addr.add_lit, Nat.add_assoc]; exact VR.slice _ _ _ _ _ hq ⟨Nat.le_refl _, fun _ => rfl, fun h => absurd rfl h⟩
  · rename_i b off hs
    obtain ⟨u, h1, hrun, bu⟩ := bdK_ok hrun
    obtain ⟨l, h2, hrun, bl⟩ := bdK_ok hrun
    simp only [natK_eq] at hrun
    cases hrun
    refine ⟨rfl, fun π w ρ o ho hops hr => ?_⟩
    obtain ⟨ox, olo, ohi⟩ := sliceOps hops
    have hx := ox g hg _ hs
    cases hρ : ρ x <;> rw [hρ] at hx <;> first | (cases hx; done) | skip
    cases hx
    have hb := bounds_ok (P := P) hlo hhi olo ohi bl bu h2 h1 false w
    refine ⟨.slice (some (if len = l then ⟨b, off, none⟩ else (⟨b, off, none⟩ : Addr).add (l * n))) (u - l) (len - l), ?_, ?_⟩
    · simp [execOp, ho, hρ, Instr.sliceAt, Instr.sureAddr, run_underlying (und_ok S hu), hb, run_sizeOf' S hn]
    · rw [Addr_moved _ _ _ _ (by omega), moved_eq]
      split
      · exact .gslice _ _ _ _
      · split
        · exact .gslice _ _ _ _
        · rw [Addr.add_lit]; exact .gslice _ _ _ _
  · cases hrun

theorem ok_slice (S : Setup P T E N0 w0 Dk) (t : TypeId) (x : Operand) (lo hi mx : Option Operand) {cx : Ctx} {a : Act} (h : opC T E cx (.slice t x lo hi mx) some none = some a) : ActOk P Dk N0 w0 cx (.slice t x lo hi mx) a := by
  simp only [opC] at h
  split at h
  · cases h
  · obtain ⟨g, hg, h⟩ := opn1 h
    obtain ⟨glo, hlo, h⟩ := opnO1 h
    obtain ⟨ghi, hhi, h⟩ := opnO1 h
    split at h
    · rename_i hu; cases h; exact ok_sliceS S t x lo hi hg hlo hhi hu
    · rename_i hu
      split at h
      · rename_i hn; cases h; exact ok_sliceL S t _ _ x lo hi hg hlo hhi hu hn
      · cases h
    · rename_i hu
      split at h
      · rename_i hn; cases h; exact ok_sliceA S t _ _ _ x lo hi hg hlo hhi hu hn
      · cases h
    · cases h
end
end Go.Sx

namespace Go.Sx
section
variable {P : Program} {T : Nat → Option TypeInfo} {E : Env} {N0 : Nat} {w0 : World} {Dk : Deferred → Prop}

theorem VRs.part {π : Pm} {xs : List AV} {xs' : List Value} (h : VRs π xs xs') (off n : Nat) : VRs π ((xs.drop off).take n) ((xs'.drop off).take n) := by
  refine ⟨by simp [h.1], fun i v v' a b => ?_⟩
  rw [List.getElem?_take] at a b
  split at a
  · rename_i hi
    simp only [hi, if_true] at b
    rw [List.getElem?_drop] at a b
    exact h.2 _ v v' a b
  · cases a

theorem part_agg (S : Setup P T E N0 w0 Dk) {t n : Nat} (ha : aggOf T t = some true) (hn : szOf T t = some n) (cs : List Value) (off : Nat) (w : World) : (part t cs.toArray off).run P w = .ok (.agg ((cs.drop off).take n).toArray) w := by
  simp [part, run_isAgg' S ha, run_sizeOf' S hn]
theorem part_one (S : Setup P T E N0 w0 Dk) {t : Nat} (ha : aggOf T t = some false) {cs : List Value} {off : Nat} {v : Value} (hv : cs[off]? = some v) (w : World) : (part t cs.toArray off).run P w = .ok v w := by
  simp [part, run_isAgg' S ha, hv]

theorem mem_part {α : Type} {l : List α} {off n : Nat} {x : α} (h : x ∈ (l.drop off).take n) : x ∈ l := List.mem_of_mem_drop (List.mem_of_mem_take h)

theorem ok_field (S : Setup P T E N0 w0 Dk) (t : TypeId) (x : Operand) (f : Nat) {cx : Ctx} {a : Act} (h : opC T E cx (.field t x f) some none = some a) : ActOk P Dk N0 w0 cx (.field t x f) a := by
  simp only [opC] at h
  split at h
  · rename_i fs hs
    split at h
    · rename_i fd hf
      rw [nth_eq] at hf
      have hf' : fs[f]? = some fd := by simpa using hf
      obtain ⟨g, hg, h⟩ := opn1 h
      split at h
      · rename_i hagg
        split at h
        · rename_i n hn
          cases h
          refine pure_ok fun ih loc tm hp v hp' hrun => ?_
          simp only [aField] at hrun
          split at hrun
          · rename_i cs hv
            cases hrun
            refine ⟨rfl, fun π w ρ o ho hops hr => ?_⟩
            have hb := hops x (by simp [Op.operands]) g hg _ hv
            obtain ⟨cs', hρ, h1, h2⟩ := hb.agg_iff
            rw [take1_eq, drop1_eq]
            refine ⟨.agg ((cs'.drop fd.offset).take n).toArray, ?_, VR.agg_mk (h1.part _ _) (fun x hx => h2 x (mem_part hx))⟩
            simp [execOp, ho, hρ, Instr.field, run_underlying (und_ok S hs), hf', asAgg, part_agg S hagg hn]
          · cases hrun
        · cases h
      · rename_i hagg
        cases h
        refine pure_ok fun ih loc tm hp v hp' hrun => ?_
        simp only [aField] at hrun
        split at hrun
        · rename_i cs hv
          obtain ⟨v, hv1, hrun⟩ := onO_ok hrun
          cases hrun
          refine ⟨rfl, fun π w ρ o ho hops hr => ?_⟩
          have hb := hops x (by simp [Op.operands]) g hg _ hv
          obtain ⟨cs', hρ, h1, h2⟩ := hb.agg_iff
          rw [nth_eq] at hv1
          obtain ⟨v', k1, k2⟩ := h1.get hv1
          refine ⟨v', ?_, k2⟩
          simp [execOp, ho, hρ, Instr.field, run_underlying (und_ok S hs), hf', asAgg, part_one S hagg k1]
        · cases hrun
      · cases h
    · cases h
  · cases h

theorem indexInt {π : Pm} {j : IntKind} {n : Nat} {v : Value} (h : VR π (.int j (.ofNat n)) v) : v = .int j (n : Int) := by cases h; rfl

theorem ok_iaddrL (S : Setup P T E N0 w0 Dk) (t e n : Nat) (x i : Operand) {cx : Ctx} {g gi : Get} (hg : opG cx x = some g) (hgi : opG cx i = some gi) (hu : und T t = some (.slice e)) (hn : szOf T e = some n) :
    ActOk P Dk N0 w0 cx (.indexAddr t x i) (aIaddr n g gi) := by
  refine pure_ok fun ih loc tm hp v hp' hrun => ?_
  simp only [aIaddr] at hrun
  split at hrun
  · rename_i b off len c z j m hv hi
    obtain ⟨hlt, hrun⟩ := onB_ok hrun
    rw [blt_eq, decide_eq_true_eq] at hlt
    simp only [natK_eq] at hrun
    cases hrun
    refine ⟨rfl, fun π w ρ o ho hops hr => ?_⟩
    have hx := hops x (by simp [Op.operands]) g hg _ hv
    have hy := indexInt (hops i (by simp [Op.operands]) gi hgi _ hi)
    cases hρ : ρ x <;> rw [hρ] at hx <;> first | (cases hx; done) | skip
    cases hx with
    | slice _ _ _ _ _ hq hc =>
      rename_i cap' p
      refine ⟨.pointer (some ⟨p.blk, p.base + (off + m * n), none⟩), ?_, .ptr _ _ hq⟩
      simp [execOp, ho, hρ, hy, Instr.indexAt, run_underlying (und_ok S hu), asIntOf, hlt, run_sizeOf' S hn, Addr.add_lit, Nat.add_assoc]
  · rename_i b off len c j m hv hi
    obtain ⟨hlt, hrun⟩ := onB_ok hrun
    rw [blt_eq, decide_eq_true_eq] at hlt
    simp only [natK_eq] at hrun
    cases hrun
    refine ⟨rfl, fun π w ρ o ho hops hr => ?_⟩
    have hx := hops x (by simp [Op.operands]) g hg _ hv
    have hy := indexInt (hops i (by simp [Op.operands]) gi hgi _ hi)
    cases hρ : ρ x <;> rw [hρ] at hx <;> first | (cases hx; done) | skip
    cases hx
    refine ⟨.pointer (some ⟨b, off + m * n, none⟩), ?_, .gptr _ _⟩
    simp [execOp, ho, hρ, hy, Instr.indexAt, run_underlying (und_ok S hu), asIntOf, hlt, run_sizeOf' S hn, Addr.add_lit]
  · cases hrun

theorem ok_iaddrA (S : Setup P T E N0 w0 Dk) (t e n len : Nat) (x i : Operand) {cx : Ctx} {g gi : Get} (hg : opG cx x = some g) (hgi : opG cx i = some gi) (hu : und T t = some (.array len e)) (hn : szOf T e = some n) :
    ActOk P Dk N0 w0 cx (.indexAddr t x i) (aIaddrA len n g gi) := by
  refine pure_ok fun ih loc tm hp v hp' hrun => ?_
  simp only [aIaddrA] at hrun
  split at hrun
  · rename_i b off j m hv hi
    obtain ⟨hlt, hrun⟩ := onB_ok hrun
    rw [blt_eq, decide_eq_true_eq] at hlt
    simp only [natK_eq] at hrun
    cases hrun
    refine ⟨rfl, fun π w ρ o ho hops hr => ?_⟩
    have hx := hops x (by simp [Op.operands]) g hg _ hv
    have hy := indexInt (hops i (by simp [Op.operands]) gi hgi _ hi)
    cases hρ : ρ x <;> rw [hρ] at hx <;> first | (cases hx; done) | skip
    cases hx with
    | ptr _ _ hq =>
      rename_i p
      refine ⟨.pointer (some ⟨p.blk, p.base + (off + m * n), none⟩), ?_, .ptr _ _ hq⟩
      simp [execOp, ho, hρ, hy, Instr.indexAt, Instr.sureAddr, run_underlying (und_ok S hu), asIntOf, hlt, run_sizeOf' S hn, Addr.add_lit, Nat.add_assoc]
  · rename_i b off j m hv hi
    obtain ⟨hlt, hrun⟩ := onB_ok hrun
    rw [blt_eq, decide_eq_true_eq] at hlt
    simp only [natK_eq] at hrun
    cases hrun
    refine ⟨rfl, fun π w ρ o ho hops hr => ?_⟩
    have hx := hops x (by simp [Op.operands]) g hg _ hv
    have hy := indexInt (hops i (by simp [Op.operands]) gi hgi _ hi)
    cases hρ : ρ x <;> rw [hρ] at hx <;> first | (cases hx; done) | skip
    cases hx
    refine ⟨.pointer (some ⟨b, off + m * n, none⟩), ?_, .gptr _ _⟩
    simp [execOp, ho, hρ, hy, Instr.indexAt, Instr.sureAddr, run_underlying (und_ok S hu), asIntOf, hlt, run_sizeOf' S hn, Addr.add_lit]
  · cases hrun

theorem ok_indexAddr (S : Setup P T E N0 w0 Dk) (t : TypeId) (x i : Operand) {cx : Ctx} {a : Act} (h : opC T E cx (.indexAddr t x i) some none = some a) : ActOk P Dk N0 w0 cx (.indexAddr t x i) a := by
  simp only [opC] at h
  obtain ⟨g, hg, h⟩ := opn1 h
  obtain ⟨gi, hgi, h⟩ := opn1 h
  split at h
  · rename_i hu
    split at h
    · rename_i hn; cases h; exact ok_iaddrL S t _ _ x i hg hgi hu hn
    · cases h
  · rename_i hu
    split at h
    · rename_i hn; cases h; exact ok_iaddrA S t _ _ _ x i hg hgi hu hn
    · cases h
  · cases h

theorem bytes_at (s : ByteArray) (n : Nat) {b : Nat} (h : (s.data.toList.map UInt8.toNat)[n]? = some b) : ∃ u : UInt8, s[n]? = some u ∧ u.toNat = b := by
  have hn : n < s.data.size := by
    rcases Nat.lt_or_ge n s.data.size with h' | h'
    · exact h'
    · rw [List.getElem?_eq_none (by simpa using h')] at h; cases h
  refine ⟨s.data[n], ?_, ?_⟩
  · have : n < s.size := hn
    rw [getElem?_pos s n this]; rfl
  · simp at h
    obtain ⟨u, h1, h2⟩ := h
    rw [Array.getElem?_eq_getElem hn] at h1
    cases h1
    exact h2

theorem ok_index (S : Setup P T E N0 w0 Dk) (t : TypeId) (x i : Operand) {cx : Ctx} {a : Act} (h : opC T E cx (.index t x i) some none = some a) : ActOk P Dk N0 w0 cx (.index t x i) a := by
  simp only [opC] at h
  obtain ⟨g, hg, h⟩ := opn1 h
  obtain ⟨gi, hgi, h⟩ := opn1 h
  split at h
  · rename_i hu
    cases h
    refine pure_ok fun ih loc tm hp v hp' hrun => ?_
    simp only [aIndexS] at hrun
    split at hrun
    · rename_i s j m hv hi
      obtain ⟨b, hb, hrun⟩ := onO_ok hrun
      simp only [natK_eq] at hrun
      cases hrun
      refine ⟨rfl, fun π w ρ o ho hops hr => ?_⟩
      have hx := hops x (by simp [Op.operands]) g hg _ hv
      have hy := indexInt (hops i (by simp [Op.operands]) gi hgi _ hi)
      cases hρ : ρ x <;> rw [hρ] at hx <;> first | (cases hx; done) | skip
      rename_i bs
      generalize hsb : s = s' at hx
      cases hx
      subst hsb
      rw [nth_eq] at hb
      obtain ⟨u, h1, h2⟩ := bytes_at bs m hb
      refine ⟨.int .u8 (b : Int), ?_, .int _ _⟩
      simp [execOp, ho, hρ, hy, Instr.index, run_underlying (und_ok S hu), asIntOf, h1, h2]
    · cases hrun
  · rename_i len e hu
    split at h
    · rename_i n ag hn hagg
      cases h
      refine pure_ok fun ih loc tm hp v hp' hrun => ?_
      simp only [aIndexA] at hrun
      split at hrun
      · rename_i cs j m hv hi
        obtain ⟨hlt, hrun⟩ := onB_ok hrun
        rw [blt_eq, decide_eq_true_eq] at hlt
        cases ag with
        | true =>
          simp only [onB_true] at hrun
          cases hrun
          refine ⟨rfl, fun π w ρ o ho hops hr => ?_⟩
          have hx := hops x (by simp [Op.operands]) g hg _ hv
          have hy := indexInt (hops i (by simp [Op.operands]) gi hgi _ hi)
          obtain ⟨cs', hρ, h1, h2⟩ := hx.agg_iff
          rw [take1_eq, drop1_eq]
          refine ⟨.agg ((cs'.drop (m * n)).take n).toArray, ?_, VR.agg_mk (h1.part _ _) (fun x hx => h2 x (mem_part hx))⟩
          simp [execOp, ho, hρ, hy, Instr.index, run_underlying (und_ok S hu), asIntOf, hlt, run_sizeOf' S hn, part_agg S hagg hn]
        | false =>
          simp only [onB_false] at hrun
          obtain ⟨v, hv1, hrun⟩ := onO_ok hrun
          cases hrun
          refine ⟨rfl, fun π w ρ o ho hops hr => ?_⟩
          have hx := hops x (by simp [Op.operands]) g hg _ hv
          have hy := indexInt (hops i (by simp [Op.operands]) gi hgi _ hi)
          obtain ⟨cs', hρ, h1, h2⟩ := hx.agg_iff
          rw [nth_eq] at hv1
          obtain ⟨v', k1, k2⟩ := h1.get hv1
          refine ⟨v', ?_, k2⟩
          simp [execOp, ho, hρ, hy, Instr.index, run_underlying (und_ok S hu), asIntOf, hlt, run_sizeOf' S hn, part_one S hagg k1]
      · cases hrun
    · cases h
  · cases h
end
end Go.Sx

namespace Go.Sx
open Go.MapKept (bytes_beq run_getObj_map run_setObj_map)
section
variable {P : Program} {T : Nat → Option TypeInfo} {E : Env} {N0 : Nat} {w0 : World} {Dk : Deferred → Prop}

/-- a key of one cell -/
def KeyFor : TypeDesc → Value → Prop
  | .bool, .bool _ => True
  | .int _, .int _ _ => True
  | .string, .string _ => True
  | _, _ => False

theorem key_ok (S : Setup P T E N0 w0 Dk) {t c : Nat} (ht : scalC T t = some c) {k : AV} (hk : kindIs c k = true) : ∃ d, P.underlying t = some d ∧ ∀ {π : Pm} {k' : Value}, VR π k k' → KeyFor d k' := by
  rcases scalC_ok S ht with ⟨rfl, hu⟩ | ⟨rfl, kk, hu⟩ | ⟨rfl, hu⟩
  · cases k <;> first | (cases hk; done) | skip
    exact ⟨_, hu, fun h => by cases h; trivial⟩
  · cases k <;> first | (cases hk; done) | skip
    exact ⟨_, hu, fun h => by cases h; trivial⟩
  · cases k <;> first | (cases hk; done) | skip
    exact ⟨_, hu, fun h => by cases h; trivial⟩

theorem checkKey_ok {w : World} {kt : TypeId} {d : TypeDesc} {k : Value} (hd : P.underlying kt = some d) (hk : KeyFor d k) (e : Bool) (n : Nat) : (Instr.checkKey e (n + 1) kt k).run P w = .ok () w := by
  unfold Instr.checkKey
  simp only [Sem.run_bind, run_underlying hd, Result.andThen]
  cases d <;> cases k <;> first | exact hk.elim | simp
theorem beq_bytes (a b : ByteArray) : (a == b) = (a.toList == b.toList) := by
  rw [Bool.eq_iff_iff, bytes_beq, beq_iff_eq, ByteArray.toList_eq, ByteArray.toList_eq]
  constructor
  · rintro rfl; rfl
  · intro h
    obtain ⟨⟨x⟩⟩ := a
    obtain ⟨⟨y⟩⟩ := b
    simp only at h
    rw [h]

/-- two keys, compared -/
theorem scal_same {π : Pm} {x y : AV} {x' y' : Value} (hx : VR π x x') (hy : VR π y y') {b : Bool} (h : scalEq x y = some b) {d : TypeDesc} (hd : KeyFor d x') :
    Instr.sameNow d x' y' = some b ∧ (b = true → x' = y') := by
  cases x <;> cases y <;> first | (cases h; done) | skip
  · rename_i s t
    generalize hs : s = s0 at hx
    generalize ht : t = t0 at hy
    cases hx; cases hy
    subst hs; subst ht
    cases h
    cases d <;> first | exact hd.elim | skip
    refine ⟨by simp only [Instr.sameNow]; rw [strEq, beq_bytes], fun e => ?_⟩
    rw [strEq, ← beq_bytes, bytes_beq] at e
    rw [e]
  · cases hx; cases hy; cases h
    cases d <;> first | exact hd.elim | skip
    refine ⟨by simp only [Instr.sameNow]; rw [beqB_eq], fun e => ?_⟩
    rw [beqB_eq, beq_iff_eq] at e; rw [e]
  · obtain ⟨h1, h2⟩ := onB1 h
    have e := kindEq_eq h1
    subst e
    cases hx; cases hy; cases h2
    cases d <;> first | exact hd.elim | skip
    refine ⟨by simp only [Instr.sameNow, if_true]; rw [ieq_eq], fun e => ?_⟩
    rw [ieq_eq, beq_iff_eq] at e; rw [e]

/-- entries, one by one -/
def Ents (π : Pm) (es : List (AV × AV)) (l : List MapEntry) : Prop := l.length = es.length ∧ ∀ (i : Nat) (k v : AV) (e : MapEntry), es[i]? = some (k, v) → l[i]? = some e → VR π k e.key ∧ VR π v e.val
theorem Ents.tail {π : Pm} {p : AV × AV} {es : List (AV × AV)} {e : MapEntry} {l : List MapEntry} (h : Ents π (p :: es) (e :: l)) : (VR π p.1 e.key ∧ VR π p.2 e.val) ∧ Ents π es l :=
  ⟨h.2 0 p.1 p.2 e rfl rfl, by simpa using h.1, fun i k v e' h1 h2 => h.2 (i + 1) k v e' (by simpa using h1) (by simpa using h2)⟩
theorem Ents.cons {π : Pm} {k v : AV} {es : List (AV × AV)} {e : MapEntry} {l : List MapEntry} (h : VR π k e.key ∧ VR π v e.val) (hs : Ents π es l) : Ents π ((k, v) :: es) (e :: l) := by
  refine ⟨by simp [hs.1], fun i k' v' e' h1 h2 => ?_⟩
  cases i with
  | zero => simp at h1 h2; obtain ⟨rfl, rfl⟩ := h1; subst h2; exact h
  | succ i => exact hs.2 i k' v' e' (by simpa using h1) (by simpa using h2)

theorem find_ok {π : Pm} {k : AV} {k' : Value} (hk : VR π k k') {d : TypeDesc} (hd : KeyFor d k') : ∀ {es : List (AV × AV)} {l : List MapEntry} (i : Nat) {r : Option AV}, Ents π es l → findE k es = some r →
    match r with
    | none => Instr.findNow d k' l i = some none
    | some v => ∃ j v', Instr.findNow d k' l i = some (some (j, v')) ∧ VR π v v'
  | [], l, i, r, h, hf => by
    cases hf
    cases l with
    | nil => rfl
    | cons _ _ => cases h.1
  | (j, v) :: es, [], i, r, h, hf => by cases h.1
  | (j, v) :: es, e :: l, i, r, h, hf => by
    obtain ⟨⟨h1, h2⟩, h3⟩ := h.tail
    unfold findE at hf
    split at hf
    · rename_i hs
      cases hf
      have := (scal_same hk h1 hs hd).1
      exact ⟨i, e.val, by simp [Instr.findNow, this], h2⟩
    · rename_i hs
      have := (scal_same hk h1 hs hd).1
      have ih := find_ok hk hd (i + 1) h3 hf
      cases r <;> simpa [Instr.findNow, this] using ih
    · cases hf

theorem run_findKey' {w : World} {kt : TypeId} {d : TypeDesc} {k : Value} {l : List MapEntry} {a : Option (Nat × Value)} (hd : P.underlying kt = some d) (h : Instr.findNow d k l 0 = some a) : (Instr.findKey kt k l).run P w = .ok a w := by
  simp [Instr.findKey, run_underlying hd, Result.andThen, h]

/-- the map that a value names -/
theorem mapOf_ok {π : Pm} {h : Hp} {w : World} (hr : HRel N0 w0 π h w) {m : AV} {m' : Value} (hm : VR π m m') {es : List (AV × AV)} (he : mapOf h m = some es) :
    (m' = .map none ∧ es = []) ∨ ∃ r entries clock, m' = .map (some r) ∧ w.heap[r]? = some (.map entries clock) ∧ Ents π es entries.toList := by
  unfold mapOf at he
  split at he
  · cases hm; cases he; exact .inl ⟨rfl, rfl⟩
  · rename_i r
    split at he
    · rename_i es' ho
      cases he
      cases hm with
      | map _ hp =>
        rename_i p
        obtain ⟨entries, clock, h1, h2, h3⟩ := hr.objs r _ p ho hp
        exact .inr ⟨p.blk, entries, clock, rfl, h1, by simpa using h2, fun i k v e a b => h3 i k v e a (by simpa using b)⟩
    · cases he
  · cases he

theorem lookup_run {w : World} {t kt e : TypeId} {d : TypeDesc} {m' k' z : Value} {entries : Array MapEntry} (hu : P.underlying t = some (.map kt e)) (hd : P.underlying kt = some d) (hk : KeyFor d k') (hz : (zeroValue e).run P w = .ok z w) (ok : Bool)
    (hm : (m' = .map none ∧ entries = #[]) ∨ ∃ r clock, m' = .map (some r) ∧ w.heap[r]? = some (.map entries clock)) {fr : Option (Nat × Value)} (hf : Instr.findNow d k' entries.toList 0 = some fr) :
    (Instr.lookup t m' k' ok).run P w = .ok (let p := match fr with
            | some (_, v) => (v, true)
            | none => (z, false)
            if ok then .tuple #[p.1, .bool p.2] else p.1) w := by
  have hc := fun b => checkKey_ok (P := P) (w := w) hd hk b 9999
  have hfk := run_findKey' (P := P) (w := w) (kt := kt) hd hf
  rcases hm with ⟨rfl, rfl⟩ | ⟨r, clock, rfl, hb⟩
  · cases fr with
    | none => simp only [Instr.lookup, Sem.run_bind, run_underlying hu, Result.andThen_ok, Sem.run_pure, hc, hfk, hz]
    | some p => obtain ⟨_, _⟩ := p; simp only [Instr.lookup, Sem.run_bind, run_underlying hu, Result.andThen_ok, Sem.run_pure, hc, hfk]
  · cases fr with
    | none => simp only [Instr.lookup, Sem.run_bind, run_underlying hu, Result.andThen_ok, Sem.run_pure, Go.MapKept.run_getObj_map hb, hc, hfk, hz]
    | some p => obtain ⟨_, _⟩ := p; simp only [Instr.lookup, Sem.run_bind, run_underlying hu, Result.andThen_ok, Sem.run_pure, Go.MapKept.run_getObj_map hb, hc, hfk]

def lookRes (zv : AV) (ok : Bool) : Option AV → AV
  | some v => if ok = true then .tup [v, .bool true] else v
  | none => if ok = true then .tup [zv, .bool false] else zv

theorem ok_lookup (S : Setup P T E N0 w0 Dk) (t : TypeId) (x i : Operand) (ok : Bool) {cx : Ctx} {a : Act} (h : opC T E cx (.lookup t x i ok) some none = some a) : ActOk P Dk N0 w0 cx (.lookup t x i ok) a := by
  simp only [opC] at h
  split at h
  · rename_i kt e hu
    split at h
    · rename_i c hc
      obtain ⟨it, z, zv, hT, hz, hzv, h⟩ := zero1 h
      obtain ⟨g, hg, h⟩ := opn1 h
      obtain ⟨gi, hgi, h⟩ := opn1 h
      cases h
      refine pure_ok fun ih loc tm hp v hp' hrun => ?_
      simp only [aLookup] at hrun
      split at hrun
      · rename_i m k hm hk
        obtain ⟨hkk, hrun⟩ := onB_ok hrun
        obtain ⟨es, hes, hrun⟩ := onO_ok hrun
        obtain ⟨r, hr', hrun⟩ := onO_ok hrun
        obtain ⟨d, hd, hkey⟩ := key_ok S hc hkk
        have fin : hp' = hp ∧ v = lookRes zv ok r := by
          cases r <;> cases ok <;> simp only [onB_true, onB_false, Sr.ok.injEq] at hrun <;> exact ⟨hrun.2.symm, hrun.1.symm⟩
        obtain ⟨rfl, rfl⟩ := fin
        refine ⟨rfl, fun π w ρ o ho hops hr => ?_⟩
        have hx := hops x (by simp [Op.operands]) g hg _ hm
        have hi := hops i (by simp [Op.operands]) gi hgi _ hk
        have hkd := hkey hi
        have hzr := run_zero (P := P) S hT hz w
        have hzV := ofVal_VR hzv π
        have key : ∃ entries : Array MapEntry, ((ρ x = .map none ∧ entries = #[]) ∨ ∃ r clock, ρ x = .map (some r) ∧ w.heap[r]? = some (.map entries clock)) ∧ Ents π es entries.toList := by
          rcases mapOf_ok hr hx hes with ⟨h1, rfl⟩ | ⟨r0, entries, clock, h1, h2, h3⟩
          · exact ⟨#[], .inl ⟨h1, rfl⟩, rfl, fun i k v e h => by simp at h⟩
          · exact ⟨entries, .inr ⟨r0, clock, h1, h2⟩, h3⟩
        obtain ⟨entries, hm', hents⟩ := key
        have hfound := find_ok hi hkd 0 hents hr'
        have base := fun fr hfr => lookup_run (P := P) (w := w) (und_ok S hu) hd hkd hzr ok hm' (fr := fr) hfr
        cases r with
        | none =>
          have b := base none hfound
          refine ⟨_, by simp only [execOp, ho, Sem.run_bind, b, Result.andThen_ok, Sem.run_pure] <;> rfl, ?_⟩
          cases ok with
          | true => exact VR.tup_mk (xs' := [z, .bool false]) (.cons hzV (.cons (.bool false) .nil))
          | false => exact hzV
        | some v =>
          obtain ⟨j, v', h1, h2⟩ := hfound
          have b := base (some (j, v')) h1
          refine ⟨_, by simp only [execOp, ho, Sem.run_bind, b, Result.andThen_ok, Sem.run_pure] <;> rfl, ?_⟩
          cases ok with
          | true => exact VR.tup_mk (xs' := [v', .bool true]) (.cons h2 (.cons (.bool true) .nil))
          | false => exact h2
      · cases hrun
    · cases h
  · cases h
end
end Go.Sx

namespace Go.Sx
open Go.MapKept (bytes_beq)
section
variable {P : Program} {T : Nat → Option TypeInfo} {E : Env} {N0 : Nat} {w0 : World} {Dk : Deferred → Prop}

theorem upd_ok {π : Pm} {k x : AV} {k' x' : Value} (hk : VR π k k') (hx : VR π x x') {d : TypeDesc} (hd : KeyFor d k') (clock : Nat) : ∀ {es es' : List (AV × AV)} {l : List MapEntry} (i0 : Nat), Ents π es l → updE k x es = some es' →
    (∃ i e, Instr.findNow d k' l i0 = some (some (i0 + i, e.val)) ∧ l[i]? = some e ∧ e.key = k' ∧ Ents π es' (l.modify i fun e => { e with key := k', val := x' })) ∨
      (Instr.findNow d k' l i0 = some none ∧ Ents π es' (l ++ [{ key := k', val := x', born := clock }]))
  | [], es', l, i0, h, hf => by
    cases hf
    cases l with
    | nil => exact .inr ⟨rfl, Ents.cons ⟨hk, hx⟩ ⟨rfl, fun i k v e h => by simp at h⟩⟩
    | cons _ _ => cases h.1
  | (j, v) :: es, es', [], i0, h, hf => by cases h.1
  | (j, v) :: es, es', e :: l, i0, h, hf => by
    obtain ⟨⟨h1, h2⟩, h3⟩ := h.tail
    unfold updE at hf
    split at hf
    · rename_i hs
      cases hf
      obtain ⟨s1, s2⟩ := scal_same hk h1 hs hd
      have hke := s2 rfl
      refine .inl ⟨0, e, by simp [Instr.findNow, s1], rfl, hke.symm, ?_⟩
      rw [List.modify_zero_cons]
      exact Ents.cons ⟨by rw [hke]; exact h1, hx⟩ h3
    · rename_i hs
      have s1 := (scal_same hk h1 hs hd).1
      split at hf
      · rename_i r hr
        cases hf
        rcases upd_ok hk hx hd clock (i0 + 1) h3 hr with ⟨i, e', k1, k2, k3, k4⟩ | ⟨k1, k2⟩
        · refine .inl ⟨i + 1, e', by simp [Instr.findNow, s1, k1]; omega, by simpa using k2, k3, ?_⟩
          rw [List.modify_succ_cons]
          exact Ents.cons ⟨h1, h2⟩ k4
        · exact .inr ⟨by simp [Instr.findNow, s1, k1], Ents.cons ⟨h1, h2⟩ k2⟩
      · cases hf
    · cases hf

theorem sameBits_key {d : TypeDesc} {k : Value} (hk : KeyFor d k) (n : Nat) : Instr.sameBits n k k = true := by
  cases d <;> cases k <;> first | exact hk.elim | skip
  · simp [Instr.sameBits]
  · simp [Instr.sameBits]
  · simp [Instr.sameBits, bytes_beq]
theorem run_stays {w : World} {d : TypeDesc} {k : Value} (hk : KeyFor d k) : (Instr.keyThatStays k k).run P w = .ok k w := by
  simp [Instr.keyThatStays, sameBits_key hk]

theorem mapUpdate_run (S : Setup P T E N0 w0 Dk) {t kt e : TypeId} {c : Nat} (hu : und T t = some (.map kt e)) (hc : scalC T kt = some c) {own : TyL AObj 8} {n r : Nat} {k x : AV} (hkk : kindIs c k = true) {es es' : List (AV × AV)} (hr : getN 8 own r = some (.map es)) (hupd : updE k x es = some es') {π : Pm} {w : World} (hR : HRel N0 w0 π (.mk own n) w)
    {m' k' x' : Value} (hm : VR π (.map r) m') (hk : VR π k k') (hx : VR π x x') : ∃ w', (Instr.mapUpdate t m' k' x').run P w = .ok () w' ∧ HRel N0 w0 π (.mk (setP (some (.map es')) 8 own r) n) w' ∧ Step π π (.mk own n) (.mk (setP (some (.map es')) 8 own r) n) w w' := by
  obtain ⟨d, hd, hkey⟩ := key_ok S hc hkk
  have hkd := hkey hk
  cases hm with
  | map _ hp =>
    rename_i p
    obtain ⟨entries, clock, h1, h2, h3⟩ := hR.objs r _ p hr hp
    have hents : Ents π es entries.toList := ⟨by simpa using h2, fun i k v e a b => h3 i k v e a (by simpa using b)⟩
    have hch := fun b => checkKey_ok (P := P) (w := w) hd hkd b 9999
    -- what is set
    have fin : ∀ (arr : Array MapEntry) (clk : Nat), Ents π es' arr.toList → HRel N0 w0 π (.mk (setP (some (.map es')) 8 own r) n) { w with heap := w.heap.setIfInBounds p.blk (.map arr clk) } ∧
        Step π π (.mk own n) (.mk (setP (some (.map es')) 8 own r) n) w { w with heap := w.heap.setIfInBounds p.blk (.map arr clk) } := fun arr clk he => by
      obtain ⟨g1, g2⟩ := Go.MapKept.heap_set (o' := .map arr clk) h1
      exact hR.put hr hp (.map es') _ (by simp) g2 ⟨rfl, rfl, rfl⟩ ⟨arr, clk, g1, by simpa using he.1, fun i k v e a b => he.2 i k v e a (by simpa using b)⟩
    rcases upd_ok hk hx hkd clock 0 hents hupd with ⟨i, e', k1, k2, k3, k4⟩ | ⟨k1, k2⟩
    · have hfk := run_findKey' (P := P) (w := w) (kt := kt) hd k1
      have hk2 : entries[i]? = some e' := by simpa using k2
      have hst := run_stays (P := P) (w := w) hkd
      refine ⟨_, ?_, fin (entries.modify i fun e => { e with key := k', val := x' }) clock (by rw [Array.toList_modify]; exact k4)⟩
      simp only [Instr.mapUpdate, Sem.run_bind, run_underlying (und_ok S hu), Result.andThen_ok, Go.MapKept.run_getObj_map h1, hch, hfk, Nat.zero_add, hk2, Option.map_some, Option.getD_some, k3, hst, Go.MapKept.run_setObj_map _ h1]
    · have hfk := run_findKey' (P := P) (w := w) (kt := kt) hd k1
      refine ⟨_, ?_, fin (entries.push { key := k', val := x', born := clock }) (clock + 1) (by rw [Array.toList_push]; exact k2)⟩
      simp only [Instr.mapUpdate, Sem.run_bind, run_underlying (und_ok S hu), Result.andThen_ok, Go.MapKept.run_getObj_map h1, hch, hfk, Go.MapKept.run_setObj_map _ h1]

theorem aMapUpd_ok (S : Setup P T E N0 w0 Dk) (op : Op) (t kt e : TypeId) (m k v : Operand) (hop : op = .mapUpdate t m k v ∨ op = .insert t m k v) {c : Nat} {cx : Ctx} {gm gk gv : Get} (hu : und T t = some (.map kt e)) (hc : scalC T kt = some c)
    (hm : opG cx m = some gm) (hk : opG cx k = some gk) (hv : opG cx v = some gv) : ActOk P Dk N0 w0 cx op (aMapUpd c gm gk gv) := by
  intro ih _ loc tm hp r hp' hrun
  simp only [aMapUpd] at hrun
  split at hrun
  · rename_i rm ak av h1 h2 h3
    obtain ⟨hkk, hrun⟩ := onB_ok hrun
    obtain ⟨own, n⟩ := hp
    simp only at hrun
    split at hrun
    · rename_i es hes
      obtain ⟨es', hes', hrun⟩ := onO_ok hrun
      simp only [setN_eq] at hrun
      cases hrun
      refine ⟨Nat.le_refl _, fun π w ρ o ho hops hr hf => ?_⟩
      have e0 : op.operands.toList = [m, k, v] := by rcases hop with rfl | rfl <;> rfl
      rw [e0] at hops
      have q1 := hops m (by simp) gm hm _ h1
      have q2 := hops k (by simp) gk hk _ h2
      have q3 := hops v (by simp) gv hv _ h3
      obtain ⟨w', r1, r2, r3⟩ := mapUpdate_run S hu hc hkk hes hes' hr q1 q2 q3
      refine .skip (w' := w') ?_ ⟨π, VR.tup_mk .nil, r2, r3⟩
      rcases hop with rfl | rfl
      · simp only [execOp, ho, Sem.run_bind, r1, Result.andThen_ok, Sem.run_pure]
      · simp only [execOp, ho, Sem.run_bind, r1, Result.andThen_ok, Sem.run_pure]
    · cases hrun
  · cases hrun

theorem ok_mapUpdate (S : Setup P T E N0 w0 Dk) (t : TypeId) (m k v : Operand) {cx : Ctx} {a : Act} (h : opC T E cx (.mapUpdate t m k v) some none = some a) : ActOk P Dk N0 w0 cx (.mapUpdate t m k v) a := by
  simp only [opC] at h
  split at h
  · rename_i hu
    split at h
    · rename_i hc
      obtain ⟨gm, hm, h⟩ := opn1 h
      obtain ⟨gk, hk, h⟩ := opn1 h
      obtain ⟨gv, hv, h⟩ := opn1 h
      cases h
      exact aMapUpd_ok S _ t _ _ m k v (.inl rfl) hu hc hm hk hv
    · cases h
  · cases h
theorem ok_insert (S : Setup P T E N0 w0 Dk) (t : TypeId) (m k v : Operand) {cx : Ctx} {a : Act} (h : opC T E cx (.insert t m k v) some none = some a) : ActOk P Dk N0 w0 cx (.insert t m k v) a := by
  simp only [opC] at h
  split at h
  · rename_i hu
    split at h
    · rename_i hc
      obtain ⟨gm, hm, h⟩ := opn1 h
      obtain ⟨gk, hk, h⟩ := opn1 h
      obtain ⟨gv, hv, h⟩ := opn1 h
      cases h
      exact aMapUpd_ok S _ t _ _ m k v (.inr rfl) hu hc hm hk hv
    · cases h
  · cases h
end
end Go.Sx
