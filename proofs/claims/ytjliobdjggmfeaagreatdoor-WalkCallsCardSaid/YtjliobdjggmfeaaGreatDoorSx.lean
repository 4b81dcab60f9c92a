/-
  An executor of the model's code over objects with numbers of their own: definitions alone, nothing is proved here.
-/
import GoSem.Dispatch
import GoSem.Core.Region
set_option linter.unusedVariables false
set_option linter.unusedSimpArgs false
namespace Go.Sx
noncomputable section

/-! tries of a fixed depth, four ways at each place -/
structure Nd (α β : Type) where
  v : Option α
  a : β
  b : β
  c : β
  d : β

@[reducible] def TyL (α : Type) : Nat → Type
  | 0 => Unit
  | n + 1 => Nd α (TyL α n)

def emp (α : Type) : (n : Nat) → TyL α n
  | 0 => ()
  | n + 1 => (⟨none, emp α n, emp α n, emp α n, emp α n⟩ : Nd α (TyL α n))

def sel4 {β : Type} (m : Nat) (x0 x1 x2 x3 : β) : β :=
  Nat.rec (motive := fun _ => β) x0 (fun p _ => Nat.rec (motive := fun _ => β) x1 (fun q _ => Nat.rec (motive := fun _ => β) x2 (fun _ _ => x3) q) p) m

def getN {α : Type} (n : Nat) : TyL α n → Nat → Option α :=
  Nat.rec (motive := fun n => TyL α n → Nat → Option α) (fun _ _ => none)
    (fun n ih (t : Nd α (TyL α n)) k => Nat.rec (motive := fun _ => Option α) (Nd.v t)
      (fun m _ => ih (sel4 (Nat.mod m 4) (Nd.a t) (Nd.b t) (Nd.c t) (Nd.d t)) (Nat.div m 4)) k) n

def setN {α β : Type} (v : Option α) (n : Nat) : TyL α n → Nat → (TyL α n → β) → β :=
  Nat.rec (motive := fun n => TyL α n → Nat → (TyL α n → β) → β) (fun t _ K => K t)
    (fun n ih (t : Nd α (TyL α n)) k K => Nd.rec (motive := fun _ => β) (fun o a b c d => Nat.rec (motive := fun _ => β) (K ((⟨v, a, b, c, d⟩ : Nd α (TyL α n))))
      (fun m _ => sel4 (Nat.mod m 4)
        (ih a (Nat.div m 4) (fun a => K ((⟨o, a, b, c, d⟩ : Nd α (TyL α n)))))
        (ih b (Nat.div m 4) (fun b => K ((⟨o, a, b, c, d⟩ : Nd α (TyL α n)))))
        (ih c (Nat.div m 4) (fun c => K ((⟨o, a, b, c, d⟩ : Nd α (TyL α n)))))
        (ih d (Nat.div m 4) (fun d => K ((⟨o, a, b, c, d⟩ : Nd α (TyL α n)))))) k) t) n

def setL {α β : Type} (n : Nat) (vs : List α) : Nat → TyL α n → (TyL α n → β) → β :=
  List.rec (motive := fun _ => Nat → TyL α n → (TyL α n → β) → β) (fun _ t K => K t)
    (fun v _ ih i t K => setN (some v) n t i (fun t => ih (Nat.succ i) t K)) vs

/-! values -/
inductive AV where
  | nilIface
  | iface (t : Nat) (v : AV)
  | nilFunc
  | func (f : Nat) (first captured : List AV)
  | nilMap
  | map (r : Nat)
  | tup (vs : List AV)
  | gslice (b off len cap : Nat)
  | nilSlice
  | gptr (b off : Nat)
  | nilPtr
  /-- z: how many cells an element has, if an append made the row (the capacity may be greater than cap); 0: it is cap -/
  | slice (b off len cap z : Nat)
  | agg (cs : List AV)
  | str (s : List Nat)
  | bool (b : Bool)
  | ptr (b off : Nat)
  | int (k : IntKind) (n : Int)

abbrev Tm := TyL AV 5
def e5 : TyL AV 5 := emp AV 5
def e7 : TyL AV 7 := emp AV 7

inductive AObj where
  | row (cs : List AV) (n : Nat)
  | cells (t : TyL AV 7) (n : Nat)
  | map (es : List (AV × AV))

inductive Hp where
  | mk (own : TyL AObj 8) (next : Nat)

def e8 : TyL AObj 8 := emp AObj 8

inductive Sr where
  | fail (why : Nat)
  | ok (v : AV) (h : Hp)

inductive Res where
  | fail (why : Nat)
  | exit (id : Nat) (tm : Tm) (h : Hp)
  | ret (tm : Tm) (h : Hp)
  | norm (tm : Tm) (h : Hp)

abbrev Ih := Nat → List AV → Hp → Sr
abbrev Act := Ih → List AV → Tm → Hp → Sr
abbrev Rg := Ih → List AV → Tm → Hp → Res
abbrev Cd := Ih → Nat → Tm → Hp → Res
abbrev Get := List AV → Tm → Option AV
abbrev Put := AV → Tm → (Tm → Res) → Res

structure Bx where
  f : Cd

structure IFn where
  np : Nat
  body : Bx
  leave : Tm → Hp → Sr

structure Env where
  fn : Nat → Option IFn
  glob : Nat → Nat → Option AV
  ext : Nat → Option (List AV → Hp → Sr)
  nop : Nat → Bool

/-! small words -/
def onO {α β : Type} (d : β) (k : α → β) (o : Option α) : β := Option.rec (motive := fun _ => β) d k o
def onB {β : Type} (b : Bool) (t f : β) : β := Bool.rec (motive := fun _ => β) f t b
def onS {β : Type} (s : Sr) (f : Nat → β) (k : AV → Hp → β) : β := Sr.rec (motive := fun _ => β) f k s
def lenL {α : Type} (l : List α) : Nat := List.rec (motive := fun _ => Nat) 0 (fun _ _ ih => Nat.succ ih) l
def isInt (v : AV) (k : IntKind → Int → Sr) : Sr :=
  AV.rec (motive_1 := fun _ => Sr) (motive_2 := fun _ => Sr) (.fail 1) (fun _ _ _ => .fail 1) (.fail 1) (fun _ _ _ _ _ => .fail 1) (.fail 1) (fun _ => .fail 1) (fun _ _ => .fail 1) (fun _ _ _ _ => .fail 1) (.fail 1) (fun _ _ => .fail 1) (.fail 1)
    (fun _ _ _ _ _ => .fail 1) (fun _ _ => .fail 1) (fun _ => .fail 1) (fun _ => .fail 1) (fun _ _ => .fail 1) k (.fail 1) (fun _ _ _ _ => .fail 1) v

/-- a number made whole (its parts are numerals) -/
def natK {β : Type} (m : Nat) (k : Nat → β) : β := match m with | 0 => k 0 | m + 1 => k (Nat.succ m)
def intK {β : Type} (n : Int) (k : Int → β) : β := match n with
  | .ofNat m => natK m (fun m => k (.ofNat m))
  | .negSucc m => natK m (fun m => k (.negSucc m))

def kindNo : IntKind → Nat
  | .i8 => 0 | .i16 => 1 | .i32 => 2 | .i64 => 3 | .u8 => 4 | .u16 => 5 | .u32 => 6 | .u64 => 7
def kindEq (a b : IntKind) : Bool := Nat.beq (kindNo a) (kindNo b)
def lim : IntKind → Nat
  | .i8 => 128 | .i16 => 32768 | .i32 => 2147483648 | .i64 => 9223372036854775808 | .u8 => 256 | .u16 => 65536 | .u32 => 4294967296 | .u64 => 18446744073709551616
def sgn : IntKind → Bool
  | .i8 | .i16 | .i32 | .i64 => true
  | _ => false

def mkI (k : IntKind) (n : Int) (h : Hp) : Sr := match n with
  | .ofNat m => onB (Nat.blt m (lim k)) (natK m (fun m => .ok (.int k (.ofNat m)) h)) (intK (k.wrap (.ofNat m)) (fun n => .ok (.int k n) h))
  | .negSucc m => onB (sgn k && Nat.blt m (lim k)) (natK m (fun m => .ok (.int k (.negSucc m)) h)) (intK (k.wrap (.negSucc m)) (fun n => .ok (.int k n) h))
def mkB (b : Bool) (h : Hp) : Sr := onB b (.ok (.bool true) h) (.ok (.bool false) h)

def ieq : Int → Int → Bool
  | .ofNat a, .ofNat b => Nat.beq a b
  | .negSucc a, .negSucc b => Nat.beq a b
  | _, _ => false
def ilt : Int → Int → Bool
  | .ofNat a, .ofNat b => Nat.blt a b
  | .negSucc a, .negSucc b => Nat.blt b a
  | .negSucc _, .ofNat _ => true
  | .ofNat _, .negSucc _ => false
def beqB : Bool → Bool → Bool
  | true, true => true
  | false, false => true
  | _, _ => false

def natsEq : List Nat → List Nat → Bool
  | [], [] => true
  | a :: x, b :: y => onB (Nat.beq a b) (natsEq x y) false
  | _, _ => false
def natsLt : List Nat → List Nat → Bool
  | _, [] => false
  | [], _ :: _ => true
  | a :: x, b :: y => Nat.blt a b || (Nat.beq a b && natsLt x y)

/-- one operator of two whole numbers of one kind -/
def binI (op : BinOp) (k : IntKind) (a b : Int) (h : Hp) : Sr := match op with
  | .add => mkI k (a + b) h
  | .sub => mkI k (a - b) h
  | .mul => mkI k (a * b) h
  | .quo => onB (ieq b 0) (.fail 2) (mkI k (a.tdiv b) h)
  | .rem => onB (ieq b 0) (.fail 2) (intK (a.tmod b) (fun n => .ok (.int k n) h))
  | .and => mkI k (((BitVec.ofInt k.bits a) &&& (BitVec.ofInt k.bits b)).toNat : Nat) h
  | .or => mkI k (((BitVec.ofInt k.bits a) ||| (BitVec.ofInt k.bits b)).toNat : Nat) h
  | .xor => mkI k (((BitVec.ofInt k.bits a) ^^^ (BitVec.ofInt k.bits b)).toNat : Nat) h
  | .andNot => mkI k (((BitVec.ofInt k.bits a) &&& ~~~ (BitVec.ofInt k.bits b)).toNat : Nat) h
  | .eql => mkB (ieq a b) h
  | .neq => mkB (!(ieq a b)) h
  | .lss => mkB (ilt a b) h
  | .leq => mkB (!(ilt b a)) h
  | .gtr => mkB (ilt b a) h
  | .geq => mkB (!(ilt a b)) h
  | _ => .fail 3

def shiftI (op : BinOp) (k : IntKind) (a b : Int) (h : Hp) : Sr := match b with
  | .negSucc _ => .fail 4
  | .ofNat n => match op with
    | .shl => mkI k (a * (Int.ofNat (2 ^ (min n k.bits)))) h
    | .shr => intK (a.fdiv (Int.ofNat (2 ^ (min n k.bits)))) (fun n => .ok (.int k n) h)
    | _ => .fail 3

def binS (op : BinOp) (a b : List Nat) (h : Hp) : Sr := match op with
  | .add => onB (Nat.blt (lenL a + lenL b) 1000000) (.ok (.str (a ++ b)) h) (.fail 5)
  | .eql => mkB (natsEq a b) h
  | .neq => mkB (!(natsEq a b)) h
  | .lss => mkB (natsLt a b) h
  | .leq => mkB (natsLt a b || natsEq a b) h
  | .gtr => mkB (!(natsLt a b || natsEq a b)) h
  | .geq => mkB (!(natsLt a b)) h
  | _ => .fail 3

/-- one cell against another: bools, integers of one kind, strings -/
def scalEq : AV → AV → Option Bool
  | .bool a, .bool b => some (beqB a b)
  | .int j a, .int k b => onB (kindEq j k) (some (ieq a b)) none
  | .str a, .str b => some (natsEq a b)
  | _, _ => none

inductive EqK where
  | none
  | bool | ptr | slice | map | func | iface
  /-- of cells: where, and of which kind (see kindIs) -/
  | struct (offs : List (Nat × Nat))

def tl {α : Type} (l : List α) : List α := List.rec (motive := fun _ => List α) [] (fun _ r _ => r) l
def hd {α : Type} (l : List α) : Option α := List.rec (motive := fun _ => Option α) none (fun x _ _ => some x) l
def nth {α : Type} (l : List α) (n : Nat) : Option α := Nat.rec (motive := fun _ => List α → Option α) hd (fun _ ih l => ih (tl l)) n l

/-- 0: a bool · 1: a whole number · 2: a string -/
def kindIs : Nat → AV → Bool
  | 0, .bool _ => true
  | 1, .int _ _ => true
  | 2, .str _ => true
  | _, _ => false

def eqOffs (xs ys : List AV) : List (Nat × Nat) → Option Bool
  | [] => some true
  | (o, c) :: os => match nth xs o, nth ys o with
    | some x, some y => onB (kindIs c x) (match scalEq x y with
      | some true => eqOffs xs ys os
      | some false => some false
      | none => none) none
    | _, _ => none

def isNilV : AV → Option Bool
  | .nilPtr => some true | .ptr .. => some false | .gptr .. => some false
  | .nilSlice => some true | .slice .. => some false | .gslice .. => some false
  | .nilMap => some true | .map _ => some false
  | .nilFunc => some true | .func .. => some false
  | .nilIface => some true | .iface .. => some false
  | _ => none

def isPtrV : AV → Bool | .nilPtr | .ptr .. | .gptr .. => true | _ => false
def isSliceV : AV → Bool | .nilSlice | .slice .. | .gslice .. => true | _ => false
def isMapV : AV → Bool | .nilMap | .map _ => true | _ => false
def isFuncV : AV → Bool | .nilFunc | .func .. => true | _ => false
def isIfaceV : AV → Bool | .nilIface | .iface .. => true | _ => false

/-- both of one sort, at least one of them nil: are both nil? -/
def nilEq (ok : AV → Bool) (x y : AV) : Option Bool :=
  onB (ok x && ok y) (match isNilV x, isNilV y with
    | some true, some b => some b
    | some b, some true => some b
    | _, _ => none) none

def eqV (k : EqK) (x y : AV) : Option Bool := match k with
  | .none => none
  | .bool => match x, y with | .bool a, .bool b => some (beqB a b) | _, _ => none
  | .ptr => nilEq isPtrV x y
  | .slice => nilEq isSliceV x y
  | .map => nilEq isMapV x y
  | .func => nilEq isFuncV x y
  | .iface => nilEq isIfaceV x y
  | .struct os => match x, y with | .agg xs, .agg ys => eqOffs xs ys os | _, _ => none

def notIntStr : AV → Bool
  | .int .. | .str _ => false
  | _ => true

def binV (op : BinOp) (k : EqK) (x y : AV) (h : Hp) : Sr := match x with
  | .int j a => isInt y (fun j' b => match op with
    | .shl => shiftI .shl j a b h
    | .shr => shiftI .shr j a b h
    | op => onB (kindEq j j') (binI op j a b h) (.fail 6))
  | .str a => match y with
    | .str b => binS op a b h
    | _ => .fail 6
  | x => onB (notIntStr y) (match op with
    | .eql => onO (.fail 7) (fun b => mkB b h) (eqV k x y)
    | .neq => onO (.fail 7) (fun b => mkB (!b) h) (eqV k x y)
    | _ => .fail 7) (.fail 7)

def unV (op : UnOp) (x : AV) (h : Hp) : Sr := match op, x with
  | .neg, .int k n => mkI k (0 - n) h
  | .not, .bool b => mkB (!b) h
  | .xor, .int k n => mkI k (((BitVec.ofInt k.bits (if k.signed then -1 else k.max)) ^^^ (BitVec.ofInt k.bits n)).toNat : Nat) h
  | _, _ => .fail 8

/-! memory -/
def objK (h : Hp) (b : Nat) : Option AObj := match h with | .mk own _ => getN 8 own b

def cellOf (o : AObj) (off : Nat) : Option AV := match o with
  | .row cs _ => nth cs off
  | .cells t _ => getN 7 t off
  | .map _ => none

def cellAt (E : Env) (h : Hp) : AV → Option AV
  | .ptr b off => onO none (fun o => cellOf o off) (objK h b)
  | .gptr b off => E.glob b off
  | _ => none

def drop1 {α : Type} (l : List α) (n : Nat) : List α := Nat.rec (motive := fun _ => List α → List α) (fun l => l) (fun _ ih l => ih (tl l)) n l
def take1 {α : Type} : List α → Nat → List α
  | _, 0 => []
  | [], _ + 1 => []
  | x :: l, n + 1 => x :: take1 l n
/-- the first n, exactly -/
def takeE {α β : Type} (F : β) : Nat → List α → (List α → β) → β
  | 0, _, K => K []
  | _ + 1, [], _ => F
  | n + 1, x :: l, K => takeE F n l (fun r => K (x :: r))
def overK {α β : Type} (l : List α) : List α → (List α → β) → β
  | [], K => K l
  | v :: vs, K => overK (tl l) vs (fun r => K (v :: r))
def fillK {α β : Type} : Nat → List α → List α → (List α → β) → β
  | 0, l, vs, K => overK l vs K
  | n + 1, l, vs, K => match l with
    | [] => K []
    | c :: l => fillK n l vs (fun r => K (c :: r))
def appK {α β : Type} : List α → List α → (List α → β) → β
  | [], m, K => K m
  | x :: l, m, K => appK l m (fun r => K (x :: r))


def takeN {α : Type} (g : Nat → Option α) (n : Nat) : Nat → Option (List α) :=
  Nat.rec (motive := fun _ => Nat → Option (List α)) (fun _ => some [])
    (fun _ ih off => onO none (fun v => onO none (fun vs => some (v :: vs)) (ih (Nat.succ off))) (g off)) n

def cellsAt (E : Env) (h : Hp) (n : Nat) : AV → Option (List AV)
  | .ptr b off => match objK h b with
    | some (.row cs m) => onB (Nat.beq off 0 && Nat.beq n m) (some cs) (takeE none n (drop1 cs off) (fun l => some l))
    | some (.cells t _) => takeN (fun i => getN 7 t i) n off
    | _ => none
  | .gptr b off => takeN (fun i => E.glob b i) n off
  | _ => none

/-- a new object of ours -/
def newObjK (h : Hp) (o : AObj) (k : Nat → Hp → Sr) : Sr := match h with
  | .mk own next => setN (some o) 8 own next (fun own => natK (Nat.succ next) (fun n' => k next (.mk own n')))
def newCells (h : Hp) (cs : List AV) (k : Nat → Hp → Sr) : Sr := natK (lenL cs) (fun m => onB (Nat.ble m 24)
  (newObjK h (.row cs m) k)
  (setL 7 cs 0 e7 (fun t => newObjK h (.cells t m) k)))

def storeAt (h : Hp) (a : AV) (vs : List AV) (k : Hp → Sr) : Sr := match a with
  | .ptr b off => match h with
    | .mk own next => match getN 8 own b with
      | some (.row cs n) => onB (Nat.ble (off + lenL vs) n) (fillK off cs vs (fun cs => setN (some (.row cs n)) 8 own b (fun own => k (.mk own next)))) (.fail 9)
      | some (.cells t n) => onB (Nat.ble (off + lenL vs) n) (setL 7 vs off t (fun t => setN (some (.cells t n)) 8 own b (fun own => k (.mk own next)))) (.fail 9)
      | _ => .fail 9
  | _ => .fail 9

/-- a value's cells; none: it is no variable's -/
def clO : AV → Option (List AV)
  | .agg cs => some cs
  | .tup _ => none
  | v => some [v]

def fillAll (loc : List AV) (tm : Tm) : List (Nat × Nat × Get) → List AV → Option (List AV)
  | [], cs => some cs
  | (off, size, g) :: ps, cs => match g loc tm with
    | some v => match clO v with
      | some vs => onB (Nat.beq (lenL vs) size && Nat.ble (off + size) (lenL cs)) (fillK off cs vs (fun cs => fillAll loc tm ps cs)) none
      | none => none
    | none => none

def evs (loc : List AV) (tm : Tm) : List Get → Option (List AV)
  | [] => some []
  | g :: gs => match g loc tm with
    | some v => match evs loc tm gs with
      | some vs => some (v :: vs)
      | none => none
    | none => none

/-- a bound of a slice expression: at most 'most' -/
def bdK (g : Option Get) (loc : List AV) (tm : Tm) (dflt most : Nat) (k : Nat → Sr) : Sr := match g with
  | none => onB (Nat.ble dflt most) (natK dflt k) (.fail 10)
  | some g => match g loc tm with
    | some (.int _ (.ofNat n)) => onB (Nat.ble n most) (natK n k) (.fail 10)
    | _ => .fail 10

def findE (k : AV) : List (AV × AV) → Option (Option AV)
  | [] => some none
  | (j, v) :: es => match scalEq k j with
    | some true => some (some v)
    | some false => findE k es
    | none => none

def updE (k x : AV) : List (AV × AV) → Option (List (AV × AV))
  | [] => some [(k, x)]
  | (j, v) :: es => match scalEq k j with
    | some true => some ((j, x) :: es)
    | some false => match updE k x es with
      | some es => some ((j, v) :: es)
      | none => none
    | none => none


def minmaxV (mx : Bool) : AV → List AV → Option AV
  | v, [] => some v
  | .int k x, .int k' y :: vs => onB (kindEq k k') (minmaxV mx (.int k (onB mx (onB (ilt x y) y x) (onB (ilt y x) y x))) vs) none
  | _, _ => none

def srcCells (E : Env) (h : Hp) (sz : Nat) : AV → Option (Nat × List AV)
  | .nilSlice => some (0, [])
  | .slice b off n _ _ => match cellsAt E h (n * sz) (.ptr b off) with | some cs => some (n, cs) | none => none
  | .gslice b off n _ => match cellsAt E h (n * sz) (.gptr b off) with | some cs => some (n, cs) | none => none
  | .str s => onB (Nat.beq sz 1) (some (lenL s, s.map fun b => .int .u8 (.ofNat b))) none
  | _ => none

def newSlice (h : Hp) (z : Nat) (cs : List AV) (len : Nat) : Sr := newCells h cs (fun b h => .ok (.slice b 0 len len z) h)

/-- the object's cells, one by one -/
def cellsOf (o : AObj) (off n : Nat) : Option (List AV) := match o with
  | .row cs _ => takeE none n (drop1 cs off) (fun l => some l)
  | .cells t _ => takeN (fun i => getN 7 t i) n off
  | .map _ => none

/-- append: within the capacity that is known, in place; else a new row; if the capacity may be greater, the old row is given up -/
def appendC (E : Env) (sz bytes : Nat) (x : AV) (n : Nat) (new : List AV) (h : Hp) : Sr := onB (Nat.beq sz 0) (.fail 11) (match n with
  | 0 => match x with
    | .nilSlice => .ok .nilSlice h
    | .slice b off len cap z => onB (Nat.ble len cap) (.ok (.slice b off len cap z) h) (.fail 11)
    | .gslice b off len cap => onB (Nat.ble len cap) (.ok (.gslice b off len cap) h) (.fail 11)
    | _ => .fail 11
  | Nat.succ _ => match x with
    | .nilSlice => onB (Nat.blt (n * bytes) 1073741824) (newSlice h sz new n) (.fail 11)
    | .gslice b off len cap => onB (Nat.blt cap (len + n) && Nat.blt ((len + n) * bytes) 1073741824)
        (match cellsAt E h (len * sz) (.gptr b off) with
         | some old => appK old new (fun cs => newSlice h sz cs (len + n))
         | none => .fail 11) (.fail 11)
    | .slice b off len cap z => natK (len + n) (fun need =>
      onB (Nat.ble need cap) (storeAt h (.ptr b (off + len * sz)) new (fun h => .ok (.slice b off need cap z) h))
        (onB (Nat.blt (need * bytes) 1073741824) (match h with
          | .mk own next => onO (.fail 11) (fun o => onB (Nat.beq z 0)
            (onO (.fail 11) (fun old => appK old new (fun cs => newSlice (.mk own next) sz cs need)) (cellsOf o off (len * sz)))
            (onB (Nat.beq z sz) (match o with
              | .cells t m => onB (Nat.beq off 0 && Nat.beq (len * sz) m)
                (setL 7 new (len * sz) t (fun t => setN none 8 own b (fun own =>
                  natK (need * sz) (fun m => newObjK (.mk own next) (.cells t m) (fun b h => .ok (.slice b 0 need need sz) h)))))
                (onO (.fail 11) (fun old => setN none 8 own b (fun own => appK old new (fun cs => newSlice (.mk own next) sz cs need))) (cellsOf (.cells t m) off (len * sz)))
              | o => onO (.fail 11) (fun old => setN none 8 own b (fun own => appK old new (fun cs => newSlice (.mk own next) sz cs need))) (cellsOf o off (len * sz)))
              (.fail 11))) (getN 8 own b)) (.fail 11)))
    | _ => .fail 11)

def bytesOfCells : List AV → Option (List Nat)
  | [] => some []
  | .int .u8 (.ofNat n) :: vs => onB (Nat.blt n 256) (match bytesOfCells vs with | some bs => some (n :: bs) | none => none) none
  | _ => none

/-! the operations, as closures -/
def aBad (n : Nat) : Act := fun _ _ _ _ => .fail (5000 + n)
def aMov (g : Get) : Act := fun _ loc tm h => onO (.fail 12) (fun v => .ok v h) (g loc tm)
def aStr (g : Get) : Act := fun _ loc tm h => match g loc tm with
  | some (.str s) => .ok (.str s) h
  | _ => .fail 12
def aPick (c a b : Get) : Act := fun _ loc tm h => match c loc tm with
  | some (.bool t) => onB t (onO (.fail 12) (fun v => .ok v h) (a loc tm)) (onO (.fail 12) (fun v => .ok v h) (b loc tm))
  | _ => .fail 12
def aAlloc (cs : List AV) : Act := fun _ _ _ h => newCells h cs (fun b h => .ok (.ptr b 0) h)
def aBox (g : Get) : Act := fun _ loc tm h => onO (.fail 12) (fun v => onO (.fail 12) (fun vs => newCells h vs (fun b h => .ok (.ptr b 0) h)) (clO v)) (g loc tm)
def aBuild (zero : List AV) (ps : List (Nat × Nat × Get)) : Act := fun _ loc tm h => onO (.fail 13) (fun cs => .ok (.agg cs) h) (fillAll loc tm ps zero)
def aBslice (zero : List AV) (ps : List (Nat × Nat × Get)) (len : Nat) : Act := fun _ loc tm h => onO (.fail 13) (fun cs => newSlice h 0 cs len) (fillAll loc tm ps zero)
def aLoad (E : Env) (g : Get) : Act := fun _ loc tm h => onO (.fail 14) (fun a => onO (.fail 14) (fun v => .ok v h) (cellAt E h a)) (g loc tm)
def aLoadN (E : Env) (n : Nat) (g : Get) : Act := fun _ loc tm h => onO (.fail 14) (fun a => onO (.fail 14) (fun vs => .ok (.agg vs) h) (cellsAt E h n a)) (g loc tm)
def aStore (n : Nat) (g x : Get) : Act := fun _ loc tm h => onO (.fail 15) (fun a => onO (.fail 15) (fun v => onO (.fail 15) (fun vs =>
  onB (Nat.beq (lenL vs) n) (storeAt h a vs (fun h => .ok (.tup []) h)) (.fail 15)) (clO v)) (x loc tm)) (g loc tm)
def aNilc (g : Get) : Act := fun _ loc tm h => match g loc tm with
  | some (.ptr b o) => .ok (.ptr b o) h
  | some (.gptr b o) => .ok (.gptr b o) h
  | some (.func f x y) => .ok (.func f x y) h
  | _ => .fail 16
def aBin (op : BinOp) (k : EqK) (x y : Get) : Act := fun _ loc tm h => onO (.fail 12) (fun a => onO (.fail 12) (fun b => binV op k a b h) (y loc tm)) (x loc tm)
def aUn (op : UnOp) (x : Get) : Act := fun _ loc tm h => onO (.fail 12) (fun a => unV op a h) (x loc tm)
def aConv (k : IntKind) (x : Get) : Act := fun _ loc tm h => onO (.fail 12) (fun v => isInt v (fun _ n => mkI k n h)) (x loc tm)
def aIface (t : Nat) (x : Get) : Act := fun _ loc tm h => onO (.fail 12) (fun v => .ok (.iface t v) h) (x loc tm)
def aFunc (f : Nat) (first captured : List Get) : Act := fun _ loc tm h => onO (.fail 12) (fun x => onO (.fail 12) (fun y => .ok (.func f x y) h) (evs loc tm captured)) (evs loc tm first)
def aMap : Act := fun _ _ _ h => newObjK h (.map []) (fun b h => .ok (.map b) h)
def repeatL {α : Type} (l : List α) : Nat → List α
  | 0 => []
  | n + 1 => l ++ repeatL l n
def aMake (bytes : Nat) (zero : List AV) (l c : Get) : Act := fun _ loc tm h => match l loc tm, c loc tm with
  | some (.int _ (.ofNat n)), some (.int _ (.ofNat m)) => onB (Nat.ble n m && Nat.blt (m * bytes) 1073741824)
      (newCells h (repeatL zero m) (fun b h => natK n (fun n => natK m (fun m => .ok (.slice b 0 n m 0) h)))) (.fail 17)
  | _, _ => .fail 17
def aSliceS (x : Get) (lo hi : Option Get) : Act := fun _ loc tm h => match x loc tm with
  | some (.str s) => match hi with
    | none => bdK lo loc tm 0 (lenL s) (fun l => .ok (.str (drop1 s l)) h)
    | some _ => bdK hi loc tm 0 (lenL s) (fun u => bdK lo loc tm 0 u (fun l => .ok (.str (take1 (drop1 s l) (u - l))) h))
  | _ => .fail 18
def moved (l cap off sz : Nat) : Nat := onB (Nat.beq l 0) off (onB (Nat.beq l cap) off (off + l * sz))
def aSliceL (sz : Nat) (x : Get) (lo hi : Option Get) : Act := fun _ loc tm h => match x loc tm with
  | some (.slice b off len cap z) => bdK hi loc tm len cap (fun u => bdK lo loc tm 0 u (fun l => onB (Nat.beq z 0 || (Nat.beq z sz && (Nat.beq l 0 || Nat.blt l cap)))
      (natK (moved l cap off sz) (fun o => natK (u - l) (fun n => natK (cap - l) (fun c => .ok (.slice b o n c z) h)))) (.fail 18)))
  | some (.gslice b off len cap) => bdK hi loc tm len cap (fun u => bdK lo loc tm 0 u (fun l => natK (moved l cap off sz) (fun o => natK (u - l) (fun n => natK (cap - l) (fun c => .ok (.gslice b o n c) h)))))
  | some .nilSlice => bdK hi loc tm 0 0 (fun u => bdK lo loc tm 0 u (fun _ => .ok .nilSlice h))
  | _ => .fail 18
def aSliceA (len sz : Nat) (x : Get) (lo hi : Option Get) : Act := fun _ loc tm h => match x loc tm with
  | some (.ptr b off) => bdK hi loc tm len len (fun u => bdK lo loc tm 0 u (fun l => natK (moved l len off sz) (fun o => natK (u - l) (fun n => natK (len - l) (fun c => .ok (.slice b o n c 0) h)))))
  | some (.gptr b off) => bdK hi loc tm len len (fun u => bdK lo loc tm 0 u (fun l => natK (moved l len off sz) (fun o => natK (u - l) (fun n => natK (len - l) (fun c => .ok (.gslice b o n c) h)))))
  | _ => .fail 18
def aFaddr (o : Nat) (x : Get) : Act := fun _ loc tm h => match x loc tm with
  | some (.ptr b off) => natK (off + o) (fun o => .ok (.ptr b o) h)
  | some (.gptr b off) => natK (off + o) (fun o => .ok (.gptr b o) h)
  | _ => .fail 19
def aField (off : Nat) (n : Option Nat) (x : Get) : Act := fun _ loc tm h => match x loc tm with
  | some (.agg cs) => match n with
    | none => onO (.fail 20) (fun v => .ok v h) (nth cs off)
    | some n => .ok (.agg (take1 (drop1 cs off) n)) h
  | _ => .fail 20
def aIaddr (sz : Nat) (x i : Get) : Act := fun _ loc tm h => match x loc tm, i loc tm with
  | some (.slice b off len _ _), some (.int _ (.ofNat n)) => onB (Nat.blt n len) (natK (off + n * sz) (fun o => .ok (.ptr b o) h)) (.fail 21)
  | some (.gslice b off len _), some (.int _ (.ofNat n)) => onB (Nat.blt n len) (natK (off + n * sz) (fun o => .ok (.gptr b o) h)) (.fail 21)
  | _, _ => .fail 21
def aIaddrA (len sz : Nat) (x i : Get) : Act := fun _ loc tm h => match x loc tm, i loc tm with
  | some (.ptr b off), some (.int _ (.ofNat n)) => onB (Nat.blt n len) (natK (off + n * sz) (fun o => .ok (.ptr b o) h)) (.fail 21)
  | some (.gptr b off), some (.int _ (.ofNat n)) => onB (Nat.blt n len) (natK (off + n * sz) (fun o => .ok (.gptr b o) h)) (.fail 21)
  | _, _ => .fail 21
def aIndexS (x i : Get) : Act := fun _ loc tm h => match x loc tm, i loc tm with
  | some (.str s), some (.int _ (.ofNat n)) => onO (.fail 22) (fun b => natK b (fun b => .ok (.int .u8 (.ofNat b)) h)) (nth s n)
  | _, _ => .fail 22
def aIndexA (len sz : Nat) (agg : Bool) (x i : Get) : Act := fun _ loc tm h => match x loc tm, i loc tm with
  | some (.agg cs), some (.int _ (.ofNat n)) => onB (Nat.blt n len)
      (onB agg (.ok (.agg (take1 (drop1 cs (n * sz)) sz)) h) (onO (.fail 22) (fun v => .ok v h) (nth cs (n * sz)))) (.fail 22)
  | _, _ => .fail 22
def mapOf (h : Hp) : AV → Option (List (AV × AV))
  | .nilMap => some []
  | .map r => match objK h r with | some (.map es) => some es | _ => none
  | _ => none
def aLookup (kk : Nat) (zero : AV) (x i : Get) (ok : Bool) : Act := fun _ loc tm h => match x loc tm, i loc tm with
  | some m, some k => onB (kindIs kk k) (onO (.fail 23) (fun es => onO (.fail 23) (fun r => match r with
      | some v => onB ok (.ok (.tup [v, .bool true]) h) (.ok v h)
      | none => onB ok (.ok (.tup [zero, .bool false]) h) (.ok zero h)) (findE k es)) (mapOf h m)) (.fail 23)
  | _, _ => .fail 23
def aMapUpd (kk : Nat) (m k v : Get) : Act := fun _ loc tm h => match m loc tm, k loc tm, v loc tm with
  | some (.map r), some k, some v => onB (kindIs kk k) (match h with
    | .mk own next => match getN 8 own r with
      | some (.map es) => onO (.fail 24) (fun es => setN (some (.map es)) 8 own r (fun own => .ok (.tup []) (.mk own next))) (updE k v es)
      | _ => .fail 24) (.fail 24)
  | _, _, _ => .fail 24
def aAssert (t : Nat) (x : Get) : Act := fun _ loc tm h => match x loc tm with
  | some (.iface u v) => onB (Nat.beq u t) (.ok v h) (.fail 25)
  | _ => .fail 25
def aExtract (x : Get) (i : Nat) : Act := fun _ loc tm h => match x loc tm with
  | some (.tup vs) => onO (.fail 26) (fun v => .ok v h) (nth vs i)
  | _ => .fail 26
def aAppend (E : Env) (sz bytes : Nat) (x y : Get) : Act := fun _ loc tm h => match x loc tm, y loc tm with
  | some a, some b => match srcCells E h sz b with
    | some (n, new) => appendC E sz bytes a n new h
    | none => .fail 27
  | _, _ => .fail 27
def aAppendZ (E : Env) (bytes : Nat) (zero : List AV) (x n : Get) : Act := fun _ loc tm h => match x loc tm, n loc tm with
  | some a, some (.int _ (.ofNat n)) => onB (Nat.blt (n * bytes) 1073741824) (appendC E (lenL zero) bytes a n (repeatL zero n) h) (.fail 27)
  | _, _ => .fail 27
def aLenS (x : Get) : Act := fun _ loc tm h => match x loc tm with | some (.str s) => natK (lenL s) (fun n => .ok (.int .i64 (.ofNat n)) h) | _ => .fail 28
def aLenL (x : Get) : Act := fun _ loc tm h => match x loc tm with
  | some (.slice _ _ n _ _) => .ok (.int .i64 (.ofNat n)) h
  | some (.gslice _ _ n _) => .ok (.int .i64 (.ofNat n)) h
  | some .nilSlice => .ok (.int .i64 (.ofNat 0)) h
  | _ => .fail 28
def aLenM (x : Get) : Act := fun _ loc tm h => onO (.fail 28) (fun m => onO (.fail 28) (fun es => natK (lenL es) (fun n => .ok (.int .i64 (.ofNat n)) h)) (mapOf h m)) (x loc tm)
def aCap (x : Get) : Act := fun _ loc tm h => match x loc tm with | some .nilSlice => .ok (.int .i64 (.ofNat 0)) h | _ => .fail 29
def aMinmax (mx : Bool) (xs : List Get) : Act := fun _ loc tm h => match evs loc tm xs with
  | some (v :: vs) => onO (.fail 30) (fun v => .ok v h) (minmaxV mx v vs)
  | _ => .fail 30
def aDefer (E : Env) (x : Get) : Act := fun _ loc tm h => match x loc tm with
  | some (.func f _ _) => onB (E.nop f) (.ok (.tup []) h) (.fail 31)
  | _ => .fail 31
def aBytesS (E : Env) (x : Get) : Act := fun _ loc tm h => match x loc tm with
  | some .nilSlice => .ok (.str []) h
  | some (.slice b off n _ _) => onO (.fail 32) (fun cs => onO (.fail 32) (fun bs => .ok (.str bs) h) (bytesOfCells cs)) (cellsAt E h n (.ptr b off))
  | some (.gslice b off n _) => onO (.fail 32) (fun cs => onO (.fail 32) (fun bs => .ok (.str bs) h) (bytesOfCells cs)) (cellsAt E h n (.gptr b off))
  | _ => .fail 32
def aSBytes (x : Get) : Act := fun _ loc tm h => match x loc tm with
  | some (.str s) => natK (lenL s) (fun n => newSlice h 1 (s.map fun b => .int .u8 (.ofNat b)) n)
  | _ => .fail 33
def aCall (f : Nat) (args : List Get) : Act := fun ih loc tm h => onO (.fail 12) (fun vs => ih f vs h) (evs loc tm args)
def aCallV (x : Get) (args : List Get) : Act := fun ih loc tm h => match x loc tm with
  | some (.func f first captured) => onO (.fail 12) (fun vs => ih f (first ++ (vs ++ captured)) h) (evs loc tm args)
  | _ => .fail 34

/-! regions -/
def pNone : Put := fun _ tm K => K tm
def rNil : Rg := fun _ _ tm h => .norm tm h
def rPush (a : Act) (r : Rg) : Rg := fun ih loc tm h => onS (a ih loc tm h) .fail (fun v h => r ih (v :: loc) tm h)
def rCons (a : Act) (p : Put) (r : Rg) : Rg := fun ih loc tm h => onS (a ih loc tm h) .fail (fun v h => p v tm (fun tm => r ih (v :: loc) tm h))
def rGuard (g : Get) (want : Bool) (a : Act) (p : Put) (r : Rg) : Rg := fun ih loc tm h => match g loc tm with
  | some (.bool b) => onB (beqB b want) (onS (a ih loc tm h) .fail (fun v h => p v tm (fun tm => r ih (v :: loc) tm h))) (p (.tup []) tm (fun tm => r ih (.tup [] :: loc) tm h))
  | some _ => p (.tup []) tm (fun tm => r ih (.tup [] :: loc) tm h)
  | none => .fail 35

structure DOp where
  act : Act
  put : Put
  guard : Option (Get × Bool)
  acts : Bool
  early : Nat
  late : Nat
  chk : Option (Get × Get)

/-- equal for sure -/
def sameO : Option AV → Option AV → (AV → AV → Bool) → Bool
  | some x, some y, f => f x y
  | _, _, _ => false
mutual
def sameV : AV → AV → Bool
  | .bool a, .bool b => beqB a b
  | .int j a, .int k b => kindEq j k && ieq a b
  | .str a, .str b => natsEq a b
  | .nilPtr, .nilPtr => true
  | .ptr a i, .ptr b j => Nat.beq a b && Nat.beq i j
  | .gptr a i, .gptr b j => Nat.beq a b && Nat.beq i j
  | .nilSlice, .nilSlice => true
  | .slice a i l c y, .slice b j m d z => Nat.beq a b && Nat.beq i j && Nat.beq l m && Nat.beq c d && Nat.beq y z
  | .gslice a i l c, .gslice b j m d => Nat.beq a b && Nat.beq i j && Nat.beq l m && Nat.beq c d
  | .nilMap, .nilMap => true
  | .map a, .map b => Nat.beq a b
  | .nilFunc, .nilFunc => true
  | .nilIface, .nilIface => true
  | .func f a c, .func g b d => Nat.beq f g && sameL a b && sameL c d
  | .iface t v, .iface u w => Nat.beq t u && sameV v w
  | .agg a, .agg b => sameL a b
  | .tup a, .tup b => sameL a b
  | _, _ => false
def sameL : List AV → List AV → Bool
  | [], [] => true
  | a :: as, b :: bs => sameV a b && sameL as bs
  | _, _ => false
end

def again (ih : Ih) (a : Act) (loc : List AV) (tm : Tm) (h : Hp) (v : AV) : Bool := onS (a ih loc tm h) (fun _ => false) (fun w _ => sameV v w)

def allEarly (ih : Ih) (a : Act) (loc : List AV) (tm : Tm) (v : AV) : Nat → List Hp → Bool
  | 0, _ => true
  | n + 1, h :: hs => onB (again ih a loc tm h v) (allEarly ih a loc tm v n hs) false
  | _ + 1, [] => false

structure Pend where
  act : Act
  loc : List AV
  tm : Tm
  v : AV
  late : Nat

def allLate (ih : Ih) (h : Hp) : List Pend → Option (List Pend)
  | [] => some []
  | ⟨a, loc, tm, v, late⟩ :: ps => match late with
    | 0 => allLate ih h ps
    | Nat.succ late => onB (again ih a loc tm h v) (onO none (fun ps => some (⟨a, loc, tm, v, late⟩ :: ps)) (allLate ih h ps)) none

def gWanted (loc : List AV) (tm : Tm) : Option (Get × Bool) → Option Bool
  | none => some true
  | some (g, want) => match g loc tm with
    | some (.bool b) => some (beqB b want)
    | some _ => some false
    | none => none

/-! a drawn region, as closures -/
abbrev DRg := Ih → List AV → Tm → Hp → List Hp → List Pend → Res
def dNil : DRg := fun _ _ tm h _ _ => .norm tm h
def dPush (a : Act) (r : DRg) : DRg := fun ih loc tm h hs ps => onS (a ih loc tm h) .fail (fun v h => r ih (v :: loc) tm h hs ps)
def dCons (a : Act) (p : Put) (r : DRg) : DRg := fun ih loc tm h hs ps => onS (a ih loc tm h) .fail (fun v h => p v tm (fun tm => r ih (v :: loc) tm h hs ps))
def dAct (a : Act) (p : Put) (r : DRg) : DRg := fun ih loc tm h hs ps => onS (a ih loc tm h) .fail (fun v h' => onO (.fail 36) (fun ps => p v tm (fun tm => r ih (v :: loc) tm h' (h :: hs) ps)) (allLate ih h' ps))
def dRead (a : Act) (p : Put) (early late : Nat) (r : DRg) : DRg := fun ih loc tm h hs ps => onS (a ih loc tm h) .fail (fun v h => onB (allEarly ih a loc tm v early hs)
  (p v tm (fun tm' => r ih (v :: loc) tm' h hs (⟨a, loc, tm, v, late⟩ :: ps))) (.fail 37))
def dSome (g : Get) (want : Bool) (yes : DRg) (no : DRg) : DRg := fun ih loc tm h hs ps => match g loc tm with
  | some (.bool b) => onB (beqB b want) (yes ih loc tm h hs ps) (no ih loc tm h hs ps)
  | some _ => no ih loc tm h hs ps
  | none => .fail 35
def dSkip (p : Put) (r : DRg) : DRg := fun ih loc tm h hs ps => p (.tup []) tm (fun tm => r ih (.tup [] :: loc) tm h hs ps)

/-- two stores that may stand in either order: they write to objects that differ -/
def dApart (g1 g2 : Get) (r : DRg) : DRg := fun ih loc tm h hs ps => match g1 loc tm, g2 loc tm with
  | some (.ptr b _), some (.ptr c _) => onB (Nat.beq b c) (.fail 44) (r ih loc tm h hs ps)
  | _, _ => .fail 44

def dOne (o : DOp) (r : DRg) : DRg := match o with
  | ⟨a, p, g, acts, early, late, chk⟩ =>
    let x : DRg := onB acts (dAct a p r) (match late with
      | 0 => match early with
        | 0 => dCons a p r
        | Nat.succ _ => dRead a p early 0 r
      | Nat.succ _ => dRead a p early late r)
    let y : DRg := match g with
      | none => x
      | some (g, w) => dSome g w x (dSkip p r)
    match chk with
    | none => y
    | some (g1, g2) => dApart g1 g2 y
def toD : List DOp → DRg
  | [] => dNil
  | o :: os => dOne o (toD os)
def rDraw (r : DRg) : Rg := fun ih loc tm h => r ih loc tm h [] []

/-! code -/
def cSkip : Cd := fun _ _ tm h => .norm tm h
def cReg (r : Rg) : Cd := fun ih _ tm h => r ih [] tm h
def cSeq (a b : Bx) : Cd := fun ih n tm h => match a.f ih n tm h with
  | .norm tm h => b.f ih n tm h
  | .exit j tm h => .exit j tm h
  | .ret tm h => .ret tm h
  | .fail w => .fail w
def cCond (x : Get) (a b : Bx) : Cd := fun ih n tm h => match x [] tm with
  | some (.bool t) => onB t (a.f ih n tm h) (b.f ih n tm h)
  | _ => .fail 38
def cBlock (id : Nat) (a : Bx) : Cd := fun ih n tm h => match a.f ih n tm h with
  | .norm tm h => .norm tm h
  | .exit j tm h => onB (Nat.beq j id) (.norm tm h) (.exit j tm h)
  | .ret tm h => .ret tm h
  | .fail w => .fail w
def cLoop (a : Bx) : Cd := fun ih n => Nat.rec (motive := fun _ => Tm → Hp → Res) (fun _ _ => .fail 39)
  (fun n go tm h => match a.f ih n tm h with
    | .norm tm h => go tm h
    | .exit j tm h => .exit j tm h
    | .ret tm h => .ret tm h
    | .fail w => .fail w) n
def cExit (id : Nat) : Cd := fun _ _ tm h => .exit id tm h
def cRet : Cd := fun _ _ tm h => .ret tm h
def cBad (n : Nat) : Cd := fun _ _ _ _ => .fail (3000 + n)

/-! functions -/
def lOne (g : Get) : Tm → Hp → Sr := fun tm h => onO (.fail 40) (fun v => .ok v h) (g [] tm)
/-- of results that lie in memory: where, and of how many cells (none: one, no aggregate) -/
def lCell (E : Env) (g : Get) (n : Option Nat) : Tm → Hp → Option AV := fun tm h => match g [] tm with
  | some a => match n with
    | none => cellAt E h a
    | some n => onO none (fun cs => some (.agg cs)) (cellsAt E h n a)
  | none => none
def lTmp (g : Get) : Tm → Hp → Option AV := fun tm _ => g [] tm
def lAll : List (Tm → Hp → Option AV) → Tm → Hp → Option (List AV)
  | [], _, _ => some []
  | g :: gs, tm, h => match g tm h with
    | some v => match lAll gs tm h with | some vs => some (v :: vs) | none => none
    | none => none
def lMix (gs : List (Tm → Hp → Option AV)) : Tm → Hp → Sr := fun tm h => match lAll gs tm h with
  | some [v] => .ok v h
  | some vs => .ok (.tup vs) h
  | none => .fail 40

/-- the first temporaries: the arguments -/
def argTm {β : Type} (args : List AV) (K : Tm → β) : β := match args with
  | [] => K e5
  | [a] => K (⟨some a, emp AV 4, emp AV 4, emp AV 4, emp AV 4⟩ : Nd AV (TyL AV 4))
  | [a, b] => K (⟨some a, (⟨some b, emp AV 3, emp AV 3, emp AV 3, emp AV 3⟩ : Nd AV (TyL AV 3)), emp AV 4, emp AV 4, emp AV 4⟩ : Nd AV (TyL AV 4))
  | args => setL 5 args 0 e5 K

def callF (E : Env) (ih : Ih) (n : Nat) (f : Nat) (args : List AV) (h : Hp) : Sr := match E.fn f with
  | some fn => onB (Nat.beq (lenL args) fn.np) (argTm args (fun tm => match fn.body.f ih n tm h with
    | .norm tm h => fn.leave tm h
    | .ret tm h => fn.leave tm h
    | .exit _ _ _ => .fail 41
    | .fail w => .fail w)) (.fail 43)
  | none => match E.ext f with
    | some g => g args h
    | none => .fail (2000 + f)

def run (E : Env) (n : Nat) : Ih := Nat.rec (motive := fun _ => Ih) (fun _ _ _ => .fail 42) (fun n ih f args h => callF E ih n f args h) n

/-! closed calls, told once: what they come to, with objects numbered from 0 -/
inductive SO where
  | cells (cs : List AV)
  | map (es : List (AV × AV))

mutual
/-- numbers moved up by n -/
def shV {β : Type} (n : Nat) : AV → (AV → β) → β
  | .map r, K => natK (n + r) (fun r => K (.map r))
  | .ptr b off, K => natK (n + b) (fun b => K (.ptr b off))
  | .slice b off len cap z, K => natK (n + b) (fun b => K (.slice b off len cap z))
  | .iface t v, K => shV n v (fun v => K (.iface t v))
  | .func f a c, K => shL n a (fun a => shL n c (fun c => K (.func f a c)))
  | .tup vs, K => shL n vs (fun vs => K (.tup vs))
  | .agg vs, K => shL n vs (fun vs => K (.agg vs))
  | v, K => K v
def shL {β : Type} (n : Nat) : List AV → (List AV → β) → β
  | [], K => K []
  | v :: vs, K => shV n v (fun v => shL n vs (fun vs => K (v :: vs)))
end
def shE {β : Type} (n : Nat) : List (AV × AV) → (List (AV × AV) → β) → β
  | [], K => K []
  | (k, v) :: es, K => shV n k (fun k => shV n v (fun v => shE n es (fun es => K ((k, v) :: es))))

/-- the objects laid from number m on -/
def instK {β : Type} (n : Nat) : List SO → Nat → TyL AObj 8 → (TyL AObj 8 → Nat → β) → β
  | [], m, own, K => K own m
  | .cells cs :: os, m, own, K => shL n cs (fun cs => natK (lenL cs) (fun l => onB (Nat.ble l 24)
      (setN (some (.row cs l)) 8 own m (fun own => natK (Nat.succ m) (fun m => instK n os m own K)))
      (setL 7 cs 0 e7 (fun t => setN (some (.cells t l)) 8 own m (fun own => natK (Nat.succ m) (fun m => instK n os m own K))))))
  | .map es :: os, m, own, K => shE n es (fun es => setN (some (.map es)) 8 own m (fun own => natK (Nat.succ m) (fun m => instK n os m own K)))

def sumX (args : List AV) (v : AV) (objs : List SO) : List AV → Hp → Sr := fun args' h => onB (sameL args args') (match h with
  | .mk own next => instK next objs next own (fun own m => shV next v (fun v => .ok v (.mk own m)))) (.fail 60)

mutual
/-- alike, where number b of ours is the b-th of rs -/
def simV (rs : List Nat) : AV → AV → Bool
  | .bool a, .bool b => beqB a b
  | .int j a, .int k b => kindEq j k && ieq a b
  | .str a, .str b => natsEq a b
  | .nilPtr, .nilPtr => true
  | .ptr a i, .ptr b j => onO false (fun r => Nat.beq r b) (nth rs a) && Nat.beq i j
  | .gptr a i, .gptr b j => Nat.beq a b && Nat.beq i j
  | .nilSlice, .nilSlice => true
  | .slice a i l c y, .slice b j m d z => onO false (fun r => Nat.beq r b) (nth rs a) && Nat.beq i j && Nat.beq l m && Nat.beq c d && Nat.beq y z
  | .gslice a i l c, .gslice b j m d => Nat.beq a b && Nat.beq i j && Nat.beq l m && Nat.beq c d
  | .nilMap, .nilMap => true
  | .map a, .map b => onO false (fun r => Nat.beq r b) (nth rs a)
  | .nilFunc, .nilFunc => true
  | .nilIface, .nilIface => true
  | .func f a c, .func g b d => Nat.beq f g && simL rs a b && simL rs c d
  | .iface t v, .iface u w => Nat.beq t u && simV rs v w
  | .agg a, .agg b => simL rs a b
  | .tup a, .tup b => simL rs a b
  | _, _ => false
def simL (rs : List Nat) : List AV → List AV → Bool
  | [], [] => true
  | a :: as, b :: bs => simV rs a b && simL rs as bs
  | _, _ => false
end
def simE (rs : List Nat) : List (AV × AV) → List (AV × AV) → Bool
  | [], [] => true
  | (a, c) :: as, (b, d) :: bs => simV rs a b && simV rs c d && simE rs as bs
  | _, _ => false
def simC (rs : List Nat) (t : TyL AV 7) : List AV → Nat → Bool
  | [], _ => true
  | a :: as, i => onO false (fun b => simV rs a b) (getN 7 t i) && simC rs t as (Nat.succ i)
def simO (rs : List Nat) : SO → AObj → Bool
  | .cells cs, .row ds n => Nat.beq (lenL cs) n && simL rs cs ds
  | .cells cs, .cells t n => Nat.beq (lenL cs) n && simC rs t cs 0
  | .map es, .map fs => simE rs es fs
  | _, _ => false
def simAll (rs : List Nat) (h : Hp) : List SO → List Nat → Bool
  | [], [] => true
  | o :: os, r :: qs => onO false (fun x => simO rs o x) (objK h r) && simAll rs h os qs
  | _, _ => false
/-- growing -/
def growing : List Nat → Bool
  | [] => true
  | [_] => true
  | a :: b :: l => Nat.blt a b && growing (b :: l)
def sumT (rs : List Nat) (v : AV) (objs : List SO) : Sr → Bool
  | .ok v0 h0 => simV rs v v0 && simAll rs h0 objs rs && growing rs
  | .fail _ => false

/-! the compiler: Code to closures; in passing style, so that what comes is whole -/
def gHere {n : Nat} : TyL AV (n + 1) → Option AV := fun (t : Nd AV (TyL AV n)) => t.v
def gA {n : Nat} (g : TyL AV n → Option AV) : TyL AV (n + 1) → Option AV := fun (t : Nd AV (TyL AV n)) => g t.a
def gB {n : Nat} (g : TyL AV n → Option AV) : TyL AV (n + 1) → Option AV := fun (t : Nd AV (TyL AV n)) => g t.b
def gC {n : Nat} (g : TyL AV n → Option AV) : TyL AV (n + 1) → Option AV := fun (t : Nd AV (TyL AV n)) => g t.c
def gD {n : Nat} (g : TyL AV n → Option AV) : TyL AV (n + 1) → Option AV := fun (t : Nd AV (TyL AV n)) => g t.d
def getC {β : Type} : (n : Nat) → (k : Nat) → ((TyL AV n → Option AV) → β) → β
  | 0, _, K => K (fun _ => none)
  | _ + 1, 0, K => K gHere
  | n + 1, m + 1, K => getC n (Nat.div m 4) (fun g => sel4 (Nat.mod m 4) (K (gA g)) (K (gB g)) (K (gC g)) (K (gD g)))

abbrev PutN (n : Nat) := AV → TyL AV n → (TyL AV n → Res) → Res
def onNd {n : Nat} (t : TyL AV (n + 1)) (k : Option AV → TyL AV n → TyL AV n → TyL AV n → TyL AV n → Res) : Res := Nd.rec (motive := fun _ => Res) k t
def nd {n : Nat} (o : Option AV) (a b c d : TyL AV n) : TyL AV (n + 1) := (⟨o, a, b, c, d⟩ : Nd AV (TyL AV n))
def pHere {n : Nat} : PutN (n + 1) := fun v t K => onNd t (fun _ a b c d => K (⟨some v, a, b, c, d⟩ : Nd AV (TyL AV n)))
def pA {n : Nat} (p : PutN n) : PutN (n + 1) := fun v t K => onNd t (fun o a b c d => p v a (fun a => K (⟨o, a, b, c, d⟩ : Nd AV (TyL AV n))))
def pB {n : Nat} (p : PutN n) : PutN (n + 1) := fun v t K => onNd t (fun o a b c d => p v b (fun b => K (⟨o, a, b, c, d⟩ : Nd AV (TyL AV n))))
def pC {n : Nat} (p : PutN n) : PutN (n + 1) := fun v t K => onNd t (fun o a b c d => p v c (fun c => K (⟨o, a, b, c, d⟩ : Nd AV (TyL AV n))))
def pD {n : Nat} (p : PutN n) : PutN (n + 1) := fun v t K => onNd t (fun o a b c d => p v d (fun d => K (⟨o, a, b, c, d⟩ : Nd AV (TyL AV n))))
def putC {β : Type} : (n : Nat) → (k : Nat) → (PutN n → β) → β
  | 0, _, K => K (fun _ t K => K t)
  | _ + 1, 0, K => K pHere
  | n + 1, m + 1, K => putC n (Nat.div m 4) (fun g => sel4 (Nat.mod m 4) (K (pA g)) (K (pB g)) (K (pC g)) (K (pD g)))

def natsK {β : Type} : List UInt8 → (List Nat → β) → β
  | [], K => K []
  | b :: bs, K => natK b.toNat (fun n => natsK bs (fun l => K (n :: l)))

/-- a constant of one cell, made a value of ours -/
def ofS {β : Type} (v : Value) (K : AV → β) (F : β) : β := match v with
  | .bool b => onB b (K (.bool true)) (K (.bool false))
  | .int k n => intK n (fun n => K (.int k n))
  | .string ⟨⟨bs⟩⟩ => natsK bs (fun l => K (.str l))
  | .pointer none => K .nilPtr
  | .slice none 0 0 => K .nilSlice
  | .map none => K .nilMap
  | .nilFunc => K .nilFunc
  | .nilIface => K .nilIface
  | _ => F
def ofSs {β : Type} (K : List AV → β) (F : β) : List Value → β
  | [] => K []
  | v :: vs => ofS v (fun a => ofSs (fun l => K (a :: l)) F vs) F
def ofVal {β : Type} (v : Value) (K : AV → β) (F : β) : β := match v with
  | .agg ⟨cs⟩ => ofSs (fun l => K (.agg l)) F cs
  | .tuple ⟨[]⟩ => K (.tup [])
  | v => ofS v K F

def gConst (v : AV) : Get := fun _ _ => some v
def gTm (g : Tm → Option AV) : Get := fun _ tm => g tm
def gTop : Get := fun loc _ => hd loc
def gPop (g : Get) : Get := fun loc tm => g (tl loc) tm
def locC {β : Type} : Nat → (Get → β) → β
  | 0, K => K gTop
  | n + 1, K => locC n (fun g => K (gPop g))

/-- where a number stands in a list -/
def ixOfO (t : Nat) : List (Option Nat) → Nat → Option Nat
  | [], _ => none
  | none :: xs, i => ixOfO t xs (Nat.succ i)
  | some x :: xs, i => onB (Nat.beq x t) (some i) (ixOfO t xs (Nat.succ i))

/-- m: which temporaries are kept between regions, as bits; ds: those of the region's operations so far, the last one first -/
structure Ctx where
  m : Nat
  ds : List (Option Nat)

def opnC {β : Type} (c : Ctx) (o : Operand) (K : Get → β) (F : β) : β := match o with
  | .tmp t => match ixOfO t c.ds 0 with
    | some i => locC i K
    | none => onB (Nat.testBit c.m t) (getC 5 t (fun g => K (gTm g))) F
  | .const v => ofVal v (fun a => K (gConst a)) F
  | .global g => K (gConst (.gptr g 0))
  | .func f => K (gConst (.func f [] []))
def opnsC {β : Type} (c : Ctx) (K : List Get → β) (F : β) : List Operand → β
  | [] => K []
  | o :: os => opnC c o (fun g => opnsC c (fun gs => K (g :: gs)) F os) F
def opnO {β : Type} (c : Ctx) (o : Option Operand) (K : Option Get → β) (F : β) : β := match o with
  | none => K none
  | some o => opnC c o (fun g => K (some g)) F

section
variable (T : Nat → Option TypeInfo) (E : Env) {β : Type}

def und (t : Nat) : Option TypeDesc := match T t with
  | some i => match i.desc with
    | .named _ u => match T u with | some j => some j.desc | none => none
    | d => some d
  | none => none
def szOf (t : Nat) : Option Nat := match T t with | some i => some i.size | none => none
def bytesOf (t : Nat) : Option Nat := match T t with | some i => some i.bytes | none => none
def zeroK (t : Nat) (K : AV → β) (F : β) : β := match T t with | some i => (match i.zero with | some z => ofVal z K F | none => F) | none => F
def aggOf (t : Nat) : Option Bool := match und T t with
  | some (.struct _) => some true
  | some (.array _ _) => some true
  | some _ => some false
  | none => none
/-- a type of one cell that is compared as it stands: which kind -/
def scalC (t : Nat) : Option Nat := match und T t with
  | some .bool => some 0
  | some (.int _) => some 1
  | some .string => some 2
  | _ => none

def placesK (c : Ctx) (K : List (Nat × Nat × Get) → β) (F : β) (fields : List Field) : List (Nat × Operand) → β
  | [] => K []
  | (i, x) :: ps => match nth fields i with
    | some f => match szOf T f.type with
      | some n => opnC c x (fun g => placesK c (fun r => K ((f.offset, n, g) :: r)) F fields ps) F
      | none => F
    | none => F
def partsK (c : Ctx) (K : List (Nat × Nat × Get) → β) (F : β) (n : Nat) : List (Nat × Operand) → β
  | [] => K []
  | (i, x) :: ps => opnC c x (fun g => natK (i * n) (fun o => partsK c (fun r => K ((o, n, g) :: r)) F n ps)) F

def eqOf (fs : List Field) : Option (List (Nat × Nat)) := match fs with
  | [] => some []
  | f :: fs => match scalC T f.type with
    | some c => onB (f.name != "_") (match eqOf fs with | some r => some ((f.offset, c) :: r) | none => none) none
    | none => none

def eqK (t : Nat) : EqK := match und T t with
  | some .bool => .bool
  | some (.pointer _) => .ptr
  | some (.slice _) => .slice
  | some (.map ..) => .map
  | some (.func ..) => .func
  | some (.interface _) => .iface
  | some (.struct fs) => match eqOf T fs.toList with | some r => .struct r | none => .none
  | _ => .none

def isConst : Operand → Bool
  | .const _ => true
  | _ => false

/-- one operation to a closure -/
def opC (cx : Ctx) (op : Op) (K : Act → β) (F : β) : β := match op with
  | .move x => opnC cx x (fun g => K (aMov g)) F
  | .assign x => opnC cx x (fun g => K (aMov g)) F
  | .pick c a b => opnC cx c (fun c => opnC cx a (fun a => opnC cx b (fun b => K (aPick c a b)) F) F) F
  | .alloc e => zeroK T e (fun z => onO F (fun z => K (aAlloc z)) (clO z)) F
  | .box _ x => opnC cx x (fun g => K (aBox g)) F
  | .build t parts => zeroK T t (fun z => onO F (fun z => match und T t with
    | some (.struct fs) => placesK T cx (fun ps => K (aBuild z ps)) F fs.toList parts.toList
    | some (.array _ e) => match szOf T e with
      | some n => partsK cx (fun ps => K (aBuild z ps)) F n parts.toList
      | none => F
    | _ => F) (clO z)) F
  | .buildSlice t len parts => match und T t with
    | some (.slice e) => match szOf T e with
      | some n => onB (Nat.ble (len * n) 10000) (zeroK T e (fun z => onO F (fun z => partsK cx (fun ps => K (aBslice (repeatL z len) ps len)) F n parts.toList) (clO z)) F) F
      | none => F
    | _ => F
  | .load t a => opnC cx a (fun g => match aggOf T t with
    | some true => match szOf T t with | some n => K (aLoadN E n g) | none => F
    | some false => K (aLoad E g)
    | none => F) F
  | .store t a x => opnC cx a (fun g => opnC cx x (fun y => match szOf T t with | some n => K (aStore n g y) | none => F) F) F
  | .nilCheck x => opnC cx x (fun g => K (aNilc g)) F
  | .binOp op t x y _ => opnC cx x (fun g => opnC cx y (fun g' => match op with
    | .eql => (match eqK T t with
      | .iface => onB (isConst x || isConst y) (K (aBin .eql .iface g g')) F
      | k => K (aBin .eql k g g'))
    | .neq => (match eqK T t with
      | .iface => onB (isConst x || isConst y) (K (aBin .neq .iface g g')) F
      | k => K (aBin .neq k g g'))
    | op => K (aBin op .none g g')) F) F
  | .unOp op _ x => opnC cx x (fun g => K (aUn op g)) F
  | .convert s d x => match und T s, und T d with
    | some (.int _), some (.int k) => opnC cx x (fun g => K (aConv k g)) F
    | some .string, some .string => opnC cx x (fun g => K (aStr g)) F
    | some (.slice e), some .string => match und T e with | some (.int .u8) => opnC cx x (fun g => K (aBytesS E g)) F | _ => F
    | some .string, some (.slice e) => match und T e with | some (.int .u8) => opnC cx x (fun g => K (aSBytes g)) F | _ => F
    | _, _ => F
  | .makeInterface t x => match und T t with
    | some (.interface _) => F
    | some _ => opnC cx x (fun g => K (aIface t g)) F
    | none => F
  | .makeFunc fn first captured => match fn with
    | .func f => opnsC cx (fun x => opnsC cx (fun y => K (aFunc f x y)) F captured.toList) F first.toList
    | _ => F
  | .makeMap _ r => match r with | none => K aMap | some _ => F
  | .makeSlice t l c => match und T t with
    | some (.slice e) => match bytesOf T e with
      | some b => zeroK T e (fun z => onO F (fun z => opnC cx l (fun l => opnC cx c (fun c => K (aMake b z l c)) F) F) (clO z)) F
      | none => F
    | _ => F
  | .slice t x lo hi mx => match mx with
    | some _ => F
    | none => opnC cx x (fun g => opnO cx lo (fun lo => opnO cx hi (fun hi => match und T t with
      | some .string => K (aSliceS g lo hi)
      | some (.slice e) => match szOf T e with | some n => K (aSliceL n g lo hi) | none => F
      | some (.array len e) => match szOf T e with | some n => K (aSliceA len n g lo hi) | none => F
      | _ => F) F) F) F
  | .fieldAddr s x f => match und T s with
    | some (.struct fs) => match nth fs.toList f with
      | some f => match szOf T f.type with | some (_ + 1) => opnC cx x (fun g => K (aFaddr f.offset g)) F | _ => F
      | none => F
    | _ => F
  | .field s x f => match und T s with
    | some (.struct fs) => match nth fs.toList f with
      | some f => opnC cx x (fun g => match aggOf T f.type with
        | some true => match szOf T f.type with | some n => K (aField f.offset (some n) g) | none => F
        | some false => K (aField f.offset none g)
        | none => F) F
      | none => F
    | _ => F
  | .indexAddr t x i => opnC cx x (fun g => opnC cx i (fun i => match und T t with
    | some (.slice e) => match szOf T e with | some n => K (aIaddr n g i) | none => F
    | some (.array len e) => match szOf T e with | some n => K (aIaddrA len n g i) | none => F
    | _ => F) F) F
  | .index t x i => opnC cx x (fun g => opnC cx i (fun i => match und T t with
    | some .string => K (aIndexS g i)
    | some (.array len e) => match szOf T e, aggOf T e with | some n, some a => K (aIndexA len n a g i) | _, _ => F
    | _ => F) F) F
  | .lookup t x i ok => match und T t with
    | some (.map k e) => match scalC T k with
      | some c => zeroK T e (fun z => opnC cx x (fun g => opnC cx i (fun i => K (aLookup c z g i ok)) F) F) F
      | none => F
    | _ => F
  | .mapUpdate t m k v => match und T t with
    | some (.map kt _) => match scalC T kt with
      | some c => opnC cx m (fun m => opnC cx k (fun k => opnC cx v (fun v => K (aMapUpd c m k v)) F) F) F
      | none => F
    | _ => F
  | .insert t m k v => match und T t with
    | some (.map kt _) => match scalC T kt with
      | some c => opnC cx m (fun m => opnC cx k (fun k => opnC cx v (fun v => K (aMapUpd c m k v)) F) F) F
      | none => F
    | _ => F
  | .typeAssert x _ t ok => onB ok F (match und T t with
    | some (.interface _) => F
    | some _ => opnC cx x (fun g => K (aAssert t g)) F
    | none => F)
  | .extract x i => opnC cx x (fun g => K (aExtract g i)) F
  | .call c => match c.callee with
    | .value (.func f) => opnsC cx (fun gs => K (aCall f gs)) F c.args.toList
    | .value x => opnC cx x (fun g => opnsC cx (fun gs => K (aCallV g gs)) F c.args.toList) F
    | .builtin .append => match c.argTypes.toList, c.args.toList with
      | t :: u :: _, [x, y] => opnC cx x (fun g => opnC cx y (fun g' => match und T t, und T u with
        | some (.slice e), some (.slice _) => match szOf T e, bytesOf T e with
          | some n, some b => K (aAppend E n b g g')
          | _, _ => F
        | some (.slice e), some .string => match szOf T e, bytesOf T e with
          | some n, some b => K (aAppend E n b g g')
          | _, _ => F
        | some (.slice e), some (.int _) => match bytesOf T e with
          | some b => zeroK T e (fun z => onO F (fun z => K (aAppendZ E b z g g')) (clO z)) F
          | none => F
        | _, _ => F) F) F
      | _, _ => F
    | .builtin .len => match c.argTypes.toList, c.args.toList with
      | t :: _, x :: _ => opnC cx x (fun g => match und T t with
        | some .string => K (aLenS g)
        | some (.slice _) => K (aLenL g)
        | some (.map ..) => K (aLenM g)
        | _ => F) F
      | _, _ => F
    | .builtin .cap => match c.argTypes.toList, c.args.toList with
      | t :: _, x :: _ => opnC cx x (fun g => match und T t with
        | some (.slice _) => K (aCap g)
        | _ => F) F
      | _, _ => F
    | .builtin .min => opnsC cx (fun gs => K (aMinmax false gs)) F c.args.toList
    | .builtin .max => opnsC cx (fun gs => K (aMinmax true gs)) F c.args.toList
    | _ => F
  | .defer c => match c.callee with
    | .value x => match c.args.toList with | [] => opnC cx x (fun g => K (aDefer E g)) F | _ => F
    | _ => F
  | _ => F

/-- 0: pure · 1: reads · 2: makes memory · 3: acts -/
def classOf : Op → Nat
  | .load .. | .lookup .. | .convert .. => 1
  | .alloc _ | .box .. | .buildSlice .. | .makeMap .. | .makeSlice .. => 2
  | .store .. | .mapUpdate .. | .insert .. | .defer _ => 3
  | .call c => match c.callee with
    | .builtin .len => 1
    | .builtin .cap => 0
    | .builtin .min => 0
    | .builtin .max => 0
    | _ => 3
  | _ => 0

def dstC (m : Nat) (d : Option Nat) (K : Option Put → β) : β := match d with
  | none => K none
  | some t => onB (Nat.testBit m t) (putC 5 t (fun p => K (some p))) (K none)

def guardC (c : Ctx) (ops : List Oper) (g : Option (Nat × Bool)) (K : Option (Get × Bool) → β) (F : β) : β := match g with
  | none => K none
  | some (j, w) => match nth ops j with
    | some o => match o.dst with | some t => opnC c (.tmp t) (fun g => onB w (K (some (g, true))) (K (some (g, false)))) F | none => F
    | none => F

structure RB where
  r : Rg

def mkOp (a : Act) (p : Option Put) (g : Option (Get × Bool)) (r : Rg) : RB := match g with
  | none => match p with
    | none => ⟨rPush a r⟩
    | some p => ⟨rCons a p r⟩
  | some (g, w) => match p with
    | none => ⟨rGuard g w a pNone r⟩
    | some p => ⟨rGuard g w a p r⟩

def regC (xm : Nat) (ops : List Oper) : List (Option Nat) → List Oper → RB
  | _, [] => ⟨rNil⟩
  | ds, o :: os => match regC xm ops (o.dst :: ds) os with
    | ⟨r⟩ => match opC T E ⟨xm, ds⟩ o.op some none with
      | some a => dstC xm o.dst (fun p => guardC ⟨xm, ds⟩ ops o.guard (fun g => mkOp a p g r) ⟨rPush (aBad 1) r⟩)
      | none => ⟨rPush (aBad 0) r⟩

def orAll (ms : List Nat) : List Edge → Nat
  | [] => 0
  | e :: es => onB (Region.binds .any e) (Nat.lor (Nat.pow 2 e.on) (Nat.lor (onO 0 (fun m => m) (nth ms e.on)) (orAll ms es))) (orAll ms es)

/-- of each operation which ones must stand ahead of it, as bits -/
def aheadL {γ : Type} (K : List Nat → γ) : List Oper → List Nat → γ
  | [], ms => K ms
  | o :: os, ms => natK (orAll ms o.after.toList) (fun m => appK ms [m] (fun ms => aheadL K os ms))

def bitOf (ms : List Nat) (j i : Nat) : Bool := onO false (fun m => Nat.testBit m i) (nth ms j)

/-- the operations that act, by number -/
def actsL : List Oper → Nat → List Nat
  | [], _ => []
  | o :: os, i => onB (Nat.beq (classOf o.op) 3) (i :: actsL os (Nat.succ i)) (actsL os (Nat.succ i))

/-- two stores at the end that may stand in either order: which, and their addresses -/
abbrev Pr := Option ((Nat × Nat) × (Nat × Nat))
def isPr (pr : Pr) (i j : Nat) : Bool := match pr with
  | none => false
  | some ((s1, s2), _) => Nat.beq i s1 && Nat.beq j s2

/-- acts stand in line -/
def inLine (ms acts : List Nat) (pr : Pr) : Bool :=
  acts.all (fun i => acts.all (fun j => Nat.ble j i || bitOf ms j i || isPr pr i j))

def storeAtT (ops : List Oper) (s t : Nat) : Bool := match nth ops s with
  | some o => (match o.op with | .store _ (.tmp u) _ => Nat.beq u t | _ => false) && (match o.guard with | none => true | some _ => false)
  | none => false
def othersOk (ms : List Nat) (s1 s2 t : Nat) : List Oper → Nat → Bool
  | [], _ => true
  | o :: os, i => (Nat.beq i s1 || Nat.beq i s2 || Nat.beq (classOf o.op) 0 || (bitOf ms s1 i && bitOf ms s2 i)) &&
      (Nat.blt i s1 || Nat.ble s2 i || !(match o.dst with | some u => Nat.beq u t | none => false)) && othersOk ms s1 s2 t os (Nat.succ i)
def pairOk (ops : List Oper) (ms : List Nat) (pr : Pr) : Bool := match pr with
  | none => true
  | some ((s1, s2), (t1, t2)) => Nat.blt s1 s2 && storeAtT ops s1 t1 && storeAtT ops s2 t2 && othersOk ms s1 s2 t1 ops 0

def lastTwo : List Nat → Option (Nat × Nat)
  | [] => none
  | [_] => none
  | [a, b] => some (a, b)
  | _ :: b :: c :: r => lastTwo (b :: c :: r)
def storeT (ops : List Oper) (s : Nat) : Option Nat := match nth ops s with
  | some o => (match o.op with | .store _ (.tmp u) _ => some u | _ => none)
  | none => none
def pairOf (ops : List Oper) (acts : List Nat) : Pr := match lastTwo acts with
  | some (s1, s2) => match storeT ops s1, storeT ops s2 with
    | some t1, some t2 => some ((s1, s2), (t1, t2))
    | _, _ => none
  | none => none
def prOf (ops : List Oper) (ms acts : List Nat) : Pr := onB (inLine ms acts none) none (pairOf ops acts)

/-- what binds an operation stands ahead of it in the text -/
def backE (j : Nat) : List Edge → Bool
  | [] => true
  | e :: es => (!(Region.binds .any e) || Nat.blt e.on j) && backE j es
def backOk : List Oper → Nat → Bool
  | [], _ => true
  | o :: os, j => backE j o.after.toList && backOk os (Nat.succ j)

/-- the temporaries that an operation names -/
def tmpsL : List Operand → List Nat
  | [] => []
  | .tmp t :: os => t :: tmpsL os
  | _ :: os => tmpsL os
def optL : Option Nat → List Nat
  | none => []
  | some t => [t]
def guardT (ops : List Oper) (o : Oper) : Option Nat := match o.guard with
  | none => none
  | some (j, _) => match nth ops j with
    | some g => g.dst
    | none => none
def namesOf (ops : List Oper) (o : Oper) : List Nat := appK (optL o.dst) (appK (optL (guardT ops o)) (tmpsL o.op.operands.toList) (fun l => l)) (fun l => l)
def hasN (t : Nat) : List Nat → Bool
  | [] => false
  | x :: xs => Nat.beq x t || hasN t xs
def dstIn (o : Oper) (l : List Nat) : Bool := match o.dst with
  | none => false
  | some t => hasN t l
/-- of two operations, one of which names what the other one makes, the later one must stand behind the earlier one -/
def tempsJ (ms : List Nat) (j : Nat) (ops : List Oper) (o : Oper) (l : List Nat) : List Oper → Nat → Bool
  | [], _ => true
  | p :: ps, i => (Nat.ble j i || bitOf ms j i || !(dstIn p l || dstIn o (namesOf ops p))) && tempsJ ms j ops o l ps (Nat.succ i)
def tempsOk (ops : List Oper) (ms : List Nat) : List Oper → Nat → Bool
  | [], _ => true
  | o :: os, j => tempsJ ms j ops o (namesOf ops o) ops 0 && tempsOk ops ms os (Nat.succ j)

def countIf (p : Nat → Bool) : List Nat → Nat
  | [] => 0
  | x :: xs => onB (p x) (Nat.succ (countIf p xs)) (countIf p xs)

/-- a conversion that makes memory -/
def isSB (op : Op) : Bool := match op with
  | .convert _ d _ => (match und T d with | some (.slice _) => true | _ => false)
  | _ => false

def chkC (c : Ctx) (pr : Pr) (j : Nat) (K : Option (Get × Get) → β) (F : β) : β := match pr with
  | none => K none
  | some ((_, s2), (t1, t2)) => onB (Nat.beq j s2) (opnC c (.tmp t1) (fun g1 => opnC c (.tmp t2) (fun g2 => K (some (g1, g2))) F) F) (K none)

def drawC (xm : Nat) (ops : List Oper) (ms acts : List Nat) (pr : Pr) : List (Option Nat) → List Oper → Nat → Option (List DOp)
  | _, [], _ => some []
  | ds, o :: os, j => match drawC xm ops ms acts pr (o.dst :: ds) os (Nat.succ j) with
    | none => none
    | some r => onB (isSB T o.op) none (match opC T E ⟨xm, ds⟩ o.op some none with
      | some a => dstC xm o.dst (fun p => guardC ⟨xm, ds⟩ ops o.guard (fun g => chkC ⟨xm, ds⟩ pr j (fun chk =>
          onB (Nat.beq (classOf o.op) 1)
            (natK (countIf (fun e => Nat.blt e j && !(bitOf ms j e)) acts) (fun early =>
              natK (countIf (fun e => Nat.blt j e && !(bitOf ms e j)) acts) (fun late => some (⟨a, onO pNone (fun p => p) p, g, false, early, late, chk⟩ :: r))))
            (some (⟨a, onO pNone (fun p => p) p, g, Nat.beq (classOf o.op) 3, 0, 0, chk⟩ :: r))) none) none)
      | none => none)

def drawnC (xm : Nat) (ops : List Oper) (ms acts : List Nat) (pr : Pr) : Bx :=
  onB (inLine ms acts pr && pairOk ops ms pr && backOk ops 0 && tempsOk ops ms ops 0) (match drawC T E xm ops ms acts pr [] ops 0 with | some l => ⟨cReg (rDraw (toD l))⟩ | none => ⟨cBad 2⟩) ⟨cBad 1⟩

def codeOf (xm : Nat) : Code → Bx
  | .skip => ⟨cSkip⟩
  | .region _ ops d => onB d (aheadL (fun ms => drawnC T E xm ops.toList ms (actsL ops.toList 0) (prOf ops.toList ms (actsL ops.toList 0))) ops.toList [])
      (match regC T E xm ops.toList [] ops.toList with | ⟨r⟩ => ⟨cReg r⟩)
  | .seq a b => ⟨cSeq (codeOf xm a) (codeOf xm b)⟩
  | .cond c a b => opnC ⟨xm, []⟩ c (fun g => ⟨cCond g (codeOf xm a) (codeOf xm b)⟩) ⟨cBad 3⟩
  | .block id a => ⟨cBlock id (codeOf xm a)⟩
  | .loop a => ⟨cLoop (codeOf xm a)⟩
  | .exit id => ⟨cExit id⟩
  | .ret => ⟨cRet⟩
  | .label _ => ⟨cSkip⟩
  | .scope a => codeOf xm a
  | _ => ⟨cBad 0⟩

/-! which temporaries are read outside of the region that makes them, as bits -/
def usesO (dm : Nat) : List Operand → Nat → Nat
  | [], m => m
  | .tmp t :: os, m => onB (Nat.testBit dm t) (usesO dm os m) (natK (Nat.lor (Nat.pow 2 t) m) (fun m => usesO dm os m))
  | _ :: os, m => usesO dm os m
def usesR : List Oper → Nat → Nat → Nat
  | [], _, m => m
  | o :: os, dm, m => natK (usesO dm o.op.operands.toList m) (fun m => match o.dst with
    | none => usesR os dm m
    | some t => natK (Nat.lor (Nat.pow 2 t) dm) (fun dm => usesR os dm m))
def usesC : Code → Nat → Nat
  | .region _ ops _, m => usesR ops.toList 0 m
  | .seq a b, m => natK (usesC a m) (fun m => usesC b m)
  | .cond c a b, m => natK (usesO 0 [c] m) (fun m => natK (usesC a m) (fun m => usesC b m))
  | .block _ a, m => usesC a m
  | .loop a, m => usesC a m
  | .scope a, m => usesC a m
  | _, m => m
def usesV : List ResultVar → Nat → Nat
  | [], m => m
  | .tmp t :: rs, m => natK (Nat.lor (Nat.pow 2 t) m) (fun m => usesV rs m)
  | .cell t _ :: rs, m => natK (Nat.lor (Nat.pow 2 t) m) (fun m => usesV rs m)
def resK (xm : Nat) (K : List (Tm → Hp → Option AV) → β) (F : β) : List ResultVar → β
  | [] => K []
  | .tmp t :: rs => opnC ⟨xm, []⟩ (.tmp t) (fun g => resK xm (fun gs => K (lTmp g :: gs)) F rs) F
  | .cell a t :: rs => opnC ⟨xm, []⟩ (.tmp a) (fun g => match aggOf T t with
    | some true => match szOf T t with | some n => resK xm (fun gs => K (lCell E g (some n) :: gs)) F rs | none => F
    | some false => resK xm (fun gs => K (lCell E g none :: gs)) F rs
    | none => F) F

/-- a function: the first np of its temporaries are its parameters -/
def fnOf (fn : Func) : Option IFn := match fn.body with
  | some c =>
    natK (fn.params.size + fn.nfree) (fun np =>
    natK (Nat.lor (usesV fn.results.toList (usesC c 0)) (Nat.sub (Nat.pow 2 np) 1)) (fun m =>
    match fn.results.toList with
      | [.tmp t] => opnC ⟨m, []⟩ (.tmp t) (fun g => some ⟨np, codeOf T E m c, lOne g⟩) none
      | rs => resK T E m (fun gs => some ⟨np, codeOf T E m c, lMix gs⟩) none rs))
  | none => none
end

end
end Go.Sx
