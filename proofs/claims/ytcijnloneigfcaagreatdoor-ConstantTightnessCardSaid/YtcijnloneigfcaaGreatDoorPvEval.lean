/-
  The evaluator of the pure logic: a function's code run on abstract data, into a tree of calls, loops and results. Definitions only; no condition.
-/
import Derived.Test.YtcijnloneigfcaaGreatDoorPvBase
namespace Go.Proofs.YtcijnloneigfcaaGreatDoor

inductive Ex where
  | normal
  | exit (id : Nat)
  | ret
  deriving Inhabited

structure St where
  s : List D
  h : List Box
  deriving Inhabited

inductive T where
  | fail
  | ret (v : V)
  | out (e : Ex) (st : St)
  | call (f : FuncId) (ds : List V) (k : V → T)
  | br (b : Bool) (x y : T)
  | alt (b : Bool) (x y : T)
  | any (x y : T)
  | call2 (f : FuncId) (ds : List V) (k : V → T) (kO : Nat → Nat → List V → T)
  | loop (body : Code) (st : St) (k : Ex → St → T)
  deriving Inhabited

def nth {α : Type} : List α → Nat → α → α
  | [], _, d => d
  | x :: _, 0, _ => x
  | _ :: xs, n + 1, d => nth xs n d

def sizeT (P : Program) (t : TypeId) : Nat := P.cellsOf t
/-- is a value of this type a row of cells? -/
def kindT (P : Program) (t : TypeId) : Option Bool :=
  match P.underlying t with
  | some (.struct _) => some true
  | some (.array _ _) => some true
  | some _ => some false
  | none => none

def cellV : Value → V
  | .bool b => .bool b
  | .int k n => .int k n
  | .slice none 0 0 => .nil
  | _ => .unk
def constV : Value → V
  | .agg cs => .agg (cs.toList.map cellV)
  | v => cellV v
def zeroV (P : Program) (t : TypeId) : Option (List V) :=
  match P.info? t with
  | some i =>
    match i.zero with
    | some v => some (v.cells.toList.map cellV)
    | none => none
  | none => none

def getD (s : List D) : Operand → D
  | .tmp t => nth s t .unk
  | .const v => .val (constV v)
  | .func f => .val (.clos f [])
  | .global _ => .unk

def wRem (a b : Int) : Int := a.tmod b
def wShr (k : IntKind) (a b : Int) : Int := a.fdiv (2 ^ (min b.toNat k.bits))
def wAnd (k : IntKind) (a b : Int) : Int := k.wrap (BitVec.ofInt k.bits a &&& BitVec.ofInt k.bits b).toNat
def wOr (k : IntKind) (a b : Int) : Int := k.wrap (BitVec.ofInt k.bits a ||| BitVec.ofInt k.bits b).toNat
def wXor (k : IntKind) (a b : Int) : Int := k.wrap (BitVec.ofInt k.bits a ^^^ BitVec.ofInt k.bits b).toNat
def wAndNot (k : IntKind) (a b : Int) : Int := k.wrap (BitVec.ofInt k.bits a &&& ~~~ BitVec.ofInt k.bits b).toNat
def iEq (a b : Int) : Bool := a == b
def iNe (a b : Int) : Bool := a != b
def iLt (a b : Int) : Bool := decide (a < b)
def iLe (a b : Int) : Bool := decide (a ≤ b)
def iGt (a b : Int) : Bool := decide (a > b)
def iGe (a b : Int) : Bool := decide (a ≥ b)
def bEq (a b : Bool) : Bool := a == b
def iMax (x y : Int) : Int := if y > x then y else x
def iMin (x y : Int) : Int := if y < x then y else x
/-- an index within bounds -/
def inB (i : Int) (n : Nat) : Bool := iLe 0 i && iLt i n

/-- does an integer fit its kind? -/
def fits (k : IntKind) (n : Int) : Bool := iLe k.min n && iLe n k.max
def binI (op : BinOp) (k : IntKind) (a b : Int) : Option (Bool × V) :=
  match op with
  | .rem => some (iNe b 0, .int k (wRem a b))
  | .and => some (true, .int k (wAnd k a b))
  | .or => some (true, .int k (wOr k a b))
  | .xor => some (true, .int k (wXor k a b))
  | .andNot => some (true, .int k (wAndNot k a b))
  | .eql => some (true, .bool (iEq a b))
  | .neq => some (true, .bool (iNe a b))
  | .lss => some (true, .bool (iLt a b))
  | .leq => some (true, .bool (iLe a b))
  | .gtr => some (true, .bool (iGt a b))
  | .geq => some (true, .bool (iGe a b))
  | _ => none

def kindEq : IntKind → IntKind → Bool
  | .i8, .i8 | .i16, .i16 | .i32, .i32 | .i64, .i64 | .u8, .u8 | .u16, .u16 | .u32, .u32 | .u64, .u64 => true
  | _, _ => false

def binV (P : Program) (op : BinOp) (xType : TypeId) : D → D → Option (Bool × V)
  | .val (.int k a), .val (.int k' b) =>
    match op with
    | .shr => some (iLe 0 b, .int k (wShr k a b))
    | op => cond (kindEq k k') (binI op k a b) none
  | .val (.bool a), .val (.bool b) =>
    match P.underlying xType with
    | some .bool =>
      match op with
      | .eql => some (true, .bool (bEq a b))
      | .neq => some (true, .bool (!bEq a b))
      | _ => none
    | _ => none
  | _, _ => none

/-- arithmetic whose result may have to be wrapped: a check, the kind, the number -/
def binW (op : BinOp) : D → D → Option (Bool × IntKind × Int)
  | .val (.int k a), .val (.int k' b) =>
    match op with
    | .add => some (kindEq k k', k, a + b)
    | .sub => some (kindEq k k', k, a - b)
    | .mul => some (kindEq k k', k, a * b)
    | .quo => some (kindEq k k' && iNe b 0, k, a.tdiv b)
    | .shl => some (iLe 0 b, k, a * 2 ^ (min b.toNat k.bits))
    | _ => none
  | _, _ => none

def unV (op : UnOp) : D → Option (Bool × V)
  | .val (.int k n) =>
    match op with
    | .xor => some (true, .int k (wXor k (cond k.signed (-1) k.max) n))
    | _ => none
  | .val (.bool b) =>
    match op with
    | .not => some (true, .bool (!b))
    | _ => none
  | _ => none

def unW (op : UnOp) : D → Option (Bool × IntKind × Int)
  | .val (.int k n) =>
    match op with
    | .neg => some (true, k, 0 - n)
    | _ => none
  | _ => none

def convW (P : Program) (src dst : TypeId) : D → Option (Bool × IntKind × Int)
  | .val (.int _ n) =>
    match P.underlying src, P.underlying dst with
    | some _, some (.int k) => some (true, k, n)
    | _, _ => none
  | _ => none

def slen (sz : Nat) (cells : List V) : Nat :=
  match sz with
  | 1 => cells.length
  | n => cells.length / n

def lenD : D → Option Nat
  | .val .nil => some 0
  | .val (.sl sz c) => cond (Nat.blt 0 sz) (some (slen sz c)) none
  | .osl _ _ n _ => some n
  | _ => none

def bx (h : List Box) (i : Nat) : Box := nth h i ⟨false, false, []⟩

def isIntK : IntKind → V → Bool
  | k, .int k' _ => kindEq k k'
  | _, _ => false
def intV : V → Int
  | .int _ n => n
  | _ => 0
def loadC (P : Program) (t : TypeId) (cells : List V) (off : Nat) : Option (Bool × V) :=
  match kindT P t with
  | some true => some (Nat.ble (off + sizeT P t) cells.length, .agg ((cells.drop off).take (sizeT P t)))
  | some false =>
    match P.underlying t with
    | some (.int k) => some (Nat.blt off cells.length && isIntK k (nth cells off .unk), .int k (intV (nth cells off .unk)))
    | _ => some (Nat.blt off cells.length, nth cells off .unk)
  | none => none
def loadV (P : Program) (t : TypeId) (h : List Box) : D → Option (Bool × V)
  | .own b off => cond (bx h b).alive (loadC P t (bx h b).cells off) none
  | .val (.pt cells off) => loadC P t cells off
  | _ => none

def isCell : V → Bool
  | .bool _ | .int _ _ | .nil | .sl _ _ | .pt _ _ | .clos _ _ => true
  | _ => false
def cellsV : V → List V
  | .agg l => l
  | v => [v]
def splice (c : List V) (off : Nat) : List V → List V
  | [] => c
  | v :: vs => splice (c.set off v) (off + 1) vs
def setBox (h : List Box) (b : Nat) (x : Box) : List Box := h.set b x

def storeH (P : Program) (t : TypeId) (h : List Box) : D → D → Option (Bool × List Box)
  | .own b off, .val v =>
    cond ((bx h b).alive && !(bx h b).frozen && Nat.blt 0 (sizeT P t) && Nat.beq (cellsV v).length (sizeT P t) && (cellsV v).all isCell)
      (some (Nat.ble (off + (cellsV v).length) (bx h b).cells.length, setBox h b ⟨true, false, splice (bx h b).cells off (cellsV v)⟩)) none
  | _, _ => none

/-- the place of a field whose type takes at least one cell -/
def offF (P : Program) (s : TypeId) (f : Nat) : Option (Nat × TypeId) :=
  match P.underlying s with
  | some (.struct fs) =>
    match fs[f]? with
    | some x => cond (Nat.blt 0 (sizeT P x.type)) (some (x.offset, x.type)) none
    | none => none
  | _ => none

def fieldAddrD (P : Program) (s : TypeId) (f : Nat) : D → Option D
  | .own b off =>
    match offF P s f with
    | some (o, _) => some (.own b (off + o))
    | none => none
  | .val (.pt cells off) =>
    match offF P s f with
    | some (o, _) => some (.val (.pt cells (off + o)))
    | none => none
  | _ => none

def partV (P : Program) (t : TypeId) (l : List V) (off : Nat) : Option (Bool × V) :=
  match kindT P t with
  | some true => some (Nat.ble (off + sizeT P t) l.length, .agg ((l.drop off).take (sizeT P t)))
  | some false => some (Nat.blt off l.length, nth l off .unk)
  | none => none

def fieldV (P : Program) (s : TypeId) (f : Nat) : D → Option (Bool × V)
  | .val (.agg l) =>
    match offF P s f with
    | some (o, t) => partV P t l o
    | none => none
  | _ => none

/-- the places of the parts of a literal -/
def placeB (P : Program) (t : TypeId) : Option (Nat → Option (Nat × Nat)) :=
  match P.underlying t with
  | some (.struct fs) => cond (fs.toList.all fun x => Nat.blt 0 (sizeT P x.type))
    (some fun i => (fs[i]?).map fun x => (x.offset, sizeT P x.type)) none
  | some (.array _ e) => cond (Nat.blt 0 (sizeT P e)) (some fun i => some (i * sizeT P e, sizeT P e)) none
  | _ => none
/-- a value of one cell, or a row of cells -/
def okC : V → Bool
  | .agg _ => true
  | v => isCell v
def fillV (place : Nat → Option (Nat × Nat)) (cells : List V) : List (Nat × V) → Option (List V)
  | [] => some cells
  | (i, v) :: rest =>
    match place i with
    | none => none
    | some (off, size) =>
      cond (okC v && Nat.beq (cellsV v).length size && Nat.ble (off + size) cells.length) (fillV place (splice cells off (cellsV v)) rest) none
def valsD : List (Nat × D) → Option (List (Nat × V))
  | [] => some []
  | (i, .val v) :: r =>
    match valsD r with
    | some l => some ((i, v) :: l)
    | none => none
  | _ :: _ => none
def buildV (P : Program) (t : TypeId) (parts : List (Nat × D)) : Option (Bool × V) :=
  match zeroV P t, valsD parts, placeB P t with
  | some zs, some ps, some pl =>
    match fillV pl zs ps with
    | some l => some (true, .agg l)
    | none => none
  | _, _, _ => none

def zrep (n : Nat) (zs : List V) : List V :=
  match zs with
  | [z] => List.replicate n z
  | zs => (List.replicate n zs).flatten
/-- the element type of a slice type, with its cells and its zero -/
def elemT (P : Program) (t : TypeId) : Option (TypeId × Nat × List V) :=
  match P.underlying t with
  | some (.slice e) =>
    match zeroV P e with
    | some zs => cond (Nat.beq zs.length (sizeT P e) && Nat.blt 0 (sizeT P e) && Nat.ble (P.bytesOf e) 1000) (some (e, sizeT P e, zs)) none
    | none => none
  | _ => none
def buildSliceV (P : Program) (t : TypeId) (len : Nat) (parts : List (Nat × D)) : Option (Nat × List V) :=
  match elemT P t, valsD parts with
  | some (_, sz, zs), some ps =>
    cond (Nat.ble (len * sz) 1000)
      (match fillV (fun i => some (i * sz, sz)) (zrep len zs) ps with
       | some l => some (sz, l)
       | none => none) none
  | _, _ => none

def indexV (P : Program) (t : TypeId) : D → D → Option (Bool × V)
  | .val (.agg l), .val (.int _ i) =>
    match P.underlying t with
    | some (.array n e) => cond (Nat.blt 0 (sizeT P e))
      (match partV P e l (i.toNat * sizeT P e) with
       | some (c, v) => some (inB i n && c, v)
       | none => none) none
    | _ => none
  | _, _ => none

def indexAddrD (P : Program) (t : TypeId) : D → D → Option (Bool × D)
  | .val (.sl sz cells), .val (.int _ i) =>
    match P.underlying t with
    | some (.slice e) => cond (Nat.beq sz (sizeT P e) && Nat.blt 0 sz) (some (inB i (slen sz cells), .val (.pt cells (cond (Nat.beq sz 1) i.toNat (i.toNat * sz))))) none
    | _ => none
  | .osl b off len sz, .val (.int _ i) =>
    match P.underlying t with
    | some (.slice e) => cond (Nat.beq sz (sizeT P e) && Nat.blt 0 sz) (some (inB i len, .own b (off + cond (Nat.beq sz 1) i.toNat (i.toNat * sz)))) none
    | _ => none
  | .own b off, .val (.int _ i) =>
    match P.underlying t with
    | some (.array n e) => cond (Nat.blt 0 (sizeT P e) && Nat.blt 1 n) (some (inB i n, .own b (off + i.toNat * sizeT P e))) none
    | _ => none
  | _, _ => none

def boundD (d : Option D) (dflt : Int) : Option Int :=
  match d with
  | none => some dflt
  | some (.val (.int _ n)) => some n
  | _ => none
/-- a slice of a slice, within its length -/
def sliceD (P : Program) (t : TypeId) (x : D) (lo hi : Option D) : Option (Bool × D) :=
  match P.underlying t with
  | some (.slice e) =>
    match lenD x with
    | some n =>
      match boundD lo 0, boundD hi n with
      | some l, some m =>
        cond (Nat.blt 0 (sizeT P e))
          (match x with
          | .val .nil => some (iLe 0 l && iLe l m && iLe m n, .val .nil)
          | .val (.sl sz cells) => cond (Nat.beq sz (sizeT P e)) (some (iLe 0 l && iLe l m && iLe m n, .val (.sl sz ((cells.drop (cond (Nat.beq sz 1) l.toNat (l.toNat * sz))).take (cond (Nat.beq sz 1) (m - l).toNat ((m - l).toNat * sz)))))) none
          | .osl b off _ sz => cond (Nat.beq sz (sizeT P e)) (some (iLe 0 l && iLe l m && iLe m n && (iEq l 0 || iLt l n), .osl b (off + cond (Nat.beq sz 1) l.toNat (l.toNat * sz)) (m - l).toNat sz)) none
          | _ => none) none
      | _, _ => none
    | none => none
  | _ => none

def toV (h : List Box) : D → V
  | .val v => v
  | .osl b off len sz => .sl sz (((bx h b).cells.drop off).take (cond (Nat.beq sz 1) len (len * sz)))
  | .own b off => .pt (bx h b).cells off
  | .clo f caps => .clos f (caps.map fun c => .pt (bx h c.1).cells c.2)
  | .unk => .unk
def okV (h : List Box) : D → Bool
  | .osl b off len sz => (bx h b).alive && Nat.ble (off + cond (Nat.beq sz 1) len (len * sz)) (bx h b).cells.length
  | .own b _ => (bx h b).alive
  | .clo _ caps => caps.all fun c => (bx h c.1).alive
  | _ => true
def idsD : D → List Nat
  | .osl b _ _ _ => [b]
  | .own b _ => [b]
  | .clo _ caps => caps.map (·.1)
  | _ => []
def frz (h : List Box) : List Nat → List Box
  | [] => h
  | b :: bs => frz (setBox h b { bx h b with frozen := true }) bs

def foldI (f : Int → Int → Int) (k : IntKind) (acc : Int) : List D → Option (Bool × V)
  | [] => some (true, .int k acc)
  | .val (.int _ y) :: r => foldI f k (f acc y) r
  | _ => none
def ownCaps : List D → Option (List (Nat × Nat))
  | [] => some []
  | .own b off :: r =>
    match ownCaps r with
    | some l => some ((b, off) :: l)
    | none => none
  | _ => none
def valCaps : List D → Option (List V)
  | [] => some []
  | .val v :: r =>
    match valCaps r with
    | some l => some (v :: l)
    | none => none
  | _ => none
def makeFuncD (f : FuncId) (ds : List D) : Option D :=
  match valCaps ds with
  | some vs => some (.val (.clos f vs))
  | none =>
    match ownCaps ds with
    | some cs => some (.clo f cs)
    | none => none

def putO (s : List D) (dst : Option Tmp) (d : D) : List D :=
  match dst with
  | some t => s.set t d
  | none => s

/-- go on with a checked value -/
def go1 (h : List Box) (k : D → List Box → T) : Option (Bool × V) → T
  | some (c, v) => .br c (k (.val v) h) .fail
  | none => .fail
/-- go on with an arithmetic result, plain where it fits -/
def goW (h : List Box) (k : D → List Box → T) : Option (Bool × IntKind × Int) → T
  | some (c, kd, n) => .br c (.alt (fits kd n) (k (.val (.int kd n)) h) (k (.val (.int kd (kd.wrap n))) h)) .fail
  | none => .fail
def go2 (h : List Box) (k : D → List Box → T) : Option (Bool × D) → T
  | some (c, v) => .br c (k v h) .fail
  | none => .fail
def go3 (h : List Box) (k : D → List Box → T) : Option D → T
  | some v => k v h
  | none => .fail

def callT (h : List Box) (f : FuncId) (args : List D) (caps : List V) (k : D → List Box → T) : T :=
  .br (args.all (okV h)) (.call f (args.map (toV h) ++ caps) fun r => k (.val r) (frz h (args.flatMap idsD))) .fail

/-- operations that only read and compute, and calls -/
def evalA (P : Program) (o : Oper) (g : Operand → D) (h : List Box) (k : D → List Box → T) : T :=
  match o.op with
  | .move x => k (g x) h
  | .assign x => k (g x) h
  | .pick c a b =>
    match g c with
    | .val (.bool t) => .br t (k (g a) h) (k (g b) h)
    | _ => .fail
  | .build t parts => go1 h k (buildV P t (parts.toList.map fun p => (p.1, g p.2)))
  | .load t a => go1 h k (loadV P t h (g a))
  | .binOp op xt x y _ =>
    match binW op (g x) (g y) with
    | some r => goW h k (some r)
    | none => go1 h k (binV P op xt (g x) (g y))
  | .unOp op _ x =>
    match unW op (g x) with
    | some r => goW h k (some r)
    | none => go1 h k (unV op (g x))
  | .convert src dst x => goW h k (convW P src dst (g x))
  | .makeFunc (.func f) first captured => cond first.isEmpty (go3 h k (makeFuncD f (captured.toList.map g))) .fail
  | .slice t x lo hi none => go2 h k (sliceD P t (g x) (lo.map g) (hi.map g))
  | .fieldAddr s x f => go3 h k (fieldAddrD P s f (g x))
  | .field s x f => go1 h k (fieldV P s f (g x))
  | .indexAddr t x i => go2 h k (indexAddrD P t (g x) (g i))
  | .index t x i => go1 h k (indexV P t (g x) (g i))
  | .extract x i =>
    match g x with
    | .val (.tup l) => cond (Nat.blt i l.length) (k (.val (nth l i .unk)) h) .fail
    | _ => .fail
  | .call c =>
    match c.callee with
    | .value f =>
      match g f with
      | .val (.clos f caps) => callT h f (c.args.toList.map g) caps k
      | .clo f caps => cond (caps.all fun x => (bx h x.1).alive)
          (callT (frz h (caps.map (·.1))) f (c.args.toList.map g) (caps.map fun x => .pt (bx h x.1).cells x.2) k) .fail
      | _ => .fail
    | .builtin .len =>
      match c.args.toList, c.argTypes.toList with
      | [x], [t] =>
        match P.underlying t with
        | some (.slice _) =>
          match lenD (g x) with
          | some n => k (.val (.int .i64 n)) h
          | none => .fail
        | some (.array n _) => k (.val (.int .i64 n)) h
        | _ => .fail
      | _, _ => .fail
    | .builtin .max =>
      match c.args.toList.map g with
      | .val (.int kd x) :: r => go1 h k (foldI iMax kd x r)
      | _ => .fail
    | .builtin .min =>
      match c.args.toList.map g with
      | .val (.int kd x) :: r => go1 h k (foldI iMin kd x r)
      | _ => .fail
    | _ => .fail
  | _ => .fail

/-- a new box -/
def newB (h : List Box) (cells : List V) : List Box := h ++ [⟨true, false, cells⟩]

def srcV (h : List Box) : D → Option (List V)
  | .val .nil => some []
  | .val (.sl _ c) => some c
  | .osl b off len sz => cond (bx h b).alive (some (((bx h b).cells.drop off).take (cond (Nat.beq sz 1) len (len * sz)))) none
  | _ => none
def srcOk (h : List Box) (sz : Nat) : D → Bool
  | .val .nil => true
  | .val (.sl s _) => Nat.beq s sz
  | .osl b off len s => Nat.beq s sz && Nat.ble (off + cond (Nat.beq s 1) len (len * s)) (bx h b).cells.length
  | _ => false

def appendT (P : Program) (t xt : TypeId) (h : List Box) (s x : D) (k : D → List Box → T) : T :=
  match elemT P t, cond (Nat.beq t xt) (lenD x) none, srcV h x with
  | some (_, sz, _), some n, some c =>
    match s with
    | .val .nil =>
      .br (srcOk h sz x && Nat.ble n 1073741824)
        (.br (Nat.beq n 0) (k (.val .nil) h) (k (.osl h.length 0 n sz) (newB h c))) .fail
    | .osl b off len s' =>
      cond (Nat.beq s' sz && Nat.beq off 0 && (bx h b).alive && !(bx h b).frozen)
        (.br (srcOk h sz x && c.all isCell && Nat.ble (len + n) 1073741824 && Nat.beq (bx h b).cells.length (cond (Nat.beq sz 1) len (len * sz)))
          (k (.osl h.length 0 (len + n) sz) (newB (setBox h b ⟨false, false, []⟩) ((bx h b).cells ++ c))) .fail) .fail
    | _ => .fail
  | _, _, _ => .fail

/-- operations that make blocks or write -/
def evalH (P : Program) (o : Oper) (g : Operand → D) (h : List Box) (k : D → List Box → T) : T :=
  match o.op with
  | .alloc t =>
    match zeroV P t with
    | some zs => k (.own h.length 0) (newB h zs)
    | none => .fail
  | .box _ x =>
    match g x with
    | .val v => cond (okC v) (k (.own h.length 0) (newB h (cellsV v))) .fail
    | _ => .fail
  | .store t a x =>
    match storeH P t h (g a) (g x) with
    | some (c, h') => .br c (k .unk h') .fail
    | none => .fail
  | .makeSlice t l c =>
    match elemT P t, g l, g c with
    | some (_, sz, zs), .val (.int _ n), .val (.int _ m) =>
      .br (iEq n m && iLe 0 n && iLe n 1073741824) (k (.osl h.length 0 n.toNat sz) (newB h (zrep n.toNat zs))) .fail
    | _, _, _ => .fail
  | .buildSlice t len parts =>
    match buildSliceV P t len (parts.toList.map fun p => (p.1, g p.2)) with
    | some (sz, cells) => k (.osl h.length 0 len sz) (newB h cells)
    | none => .fail
  | .call { callee := .builtin .append, args, argTypes } =>
    match args.toList, argTypes.toList with
    | [s, x], [t, xt] => appendT P t xt h (g s) (g x) k
    | _, _ => .fail
  | .binOp .eql t x (.const (.slice none 0 0)) _ =>
    match P.underlying t with
    | some (.slice _) =>
      match g x with
      | .val .nil => k (.val (.bool true)) h
      | .val (.sl _ c) => .br (Nat.beq c.length 0) (.any (k (.val (.bool true)) h) (k (.val (.bool false)) h)) (k (.val (.bool false)) h)
      | .osl _ _ _ _ => k (.val (.bool false)) h
      | _ => .fail
    | _ => .fail
  | _ => .fail

def heapOp : Op → Bool
  | .binOp .eql _ _ (.const (.slice none 0 0)) _ => true
  | .alloc _ | .box _ _ | .store _ _ _ | .makeSlice _ _ _ | .buildSlice _ _ _ => true
  | .call { callee := .builtin .append, .. } => true
  | _ => false

/-- an operation of a drawn region that makes a block, or writes into one -/
def isAS (o : Oper) : Bool :=
  match o.op with
  | .alloc _ => true
  | .store _ (.tmp _) _ => o.dst.isNone
  | _ => false
def isAl (o : Oper) : Bool :=
  match o.op with
  | .alloc _ => true
  | _ => false

/-- in a region that draws its order: a literal slice is data at once; no other block is made -/
def evalDr (P : Program) (o : Oper) (g : Operand → D) (h : List Box) (k : D → List Box → T) : T :=
  match o.op with
  | .buildSlice t len parts =>
    match buildSliceV P t len (parts.toList.map fun p => (p.1, g p.2)) with
    | some (sz, cells) => cond (Nat.beq cells.length (len * sz)) (k (.val (.sl sz cells)) h) .fail
    | none => .fail
  | op => cond (isAS o) (k .unk h) (cond (heapOp op) .fail (evalA P o g h k))

/-- a call whose result may be a slice of the call's own, in a block that nothing else reads -/
def call2T (h : List Box) (f : FuncId) (args : List D) (caps : List V) (k : D → List Box → T) : T :=
  .br (args.all (okV h)) (.call2 f (args.map (toV h) ++ caps) (fun r => k (.val r) (frz h (args.flatMap idsD)))
    (fun sz n c => k (.osl (frz h (args.flatMap idsD)).length 0 n sz) (newB (frz h (args.flatMap idsD)) c))) .fail

def evalB (P : Program) (o : Oper) (g : Operand → D) (h : List Box) (k : D → List Box → T) : T :=
  match o.op with
  | .call c =>
    match c.callee with
    | .value fo =>
      match g fo with
      | .val (.clos f caps) => call2T h f (c.args.toList.map g) caps k
      | _ => evalA P o g h k
    | _ => evalA P o g h k
  | _ => evalA P o g h k

def evalOp (P : Program) (dr : Bool) (o : Oper) (g : Operand → D) (h : List Box) (k : D → List Box → T) : T :=
  cond dr (evalDr P o g h k) (cond (heapOp o.op) (evalH P o g h k) (evalB P o g h k))

/-- what a slot holds behind an operation that was passed over -/
def undD : D := .val (.tup [])
def gslot (ops : Array Oper) (j : Nat) : Option Tmp := (ops[j]?).bind (·.dst)

/-- the operations of a region, in the text's order -/
def evalOps (P : Program) (ops : Array Oper) (dr : Bool) : List Oper → St → (St → T) → T
  | [], st, k => k st
  | o :: rest, st, k =>
    match o.guard with
    | none => evalOp P dr o (getD st.s) st.h fun d h => evalOps P ops dr rest ⟨putO st.s o.dst d, h⟩ k
    | some (j, want) =>
      match gslot ops j with
      | some t =>
        match nth st.s t .unk with
        | .val (.bool b) =>
          .br b
            (cond want
              (evalOp P dr o (getD (st.s.set t (.val (.bool true)))) st.h fun d h => evalOps P ops dr rest ⟨putO (st.s.set t (.val (.bool true))) o.dst d, h⟩ k)
              (evalOps P ops dr rest ⟨putO (st.s.set t (.val (.bool true))) o.dst undD, st.h⟩ k))
            (cond want
              (evalOps P ops dr rest ⟨putO (st.s.set t (.val (.bool false))) o.dst undD, st.h⟩ k)
              (evalOp P dr o (getD (st.s.set t (.val (.bool false)))) st.h fun d h => evalOps P ops dr rest ⟨putO (st.s.set t (.val (.bool false))) o.dst d, h⟩ k))
        | .val (.tup []) => evalOps P ops dr rest ⟨putO st.s o.dst undD, st.h⟩ k
        | _ => .fail
      | none => .fail

/-- where the last part of a drawn region begins: the stores and assignments, each behind all that stands ahead of it -/
def isTail : Op → Bool
  | .store _ _ _ | .assign _ => true
  | _ => false
def hasEdge (o : Oper) (i : Nat) : Bool := o.after.any fun e => Nat.beq e.on i && Region.binds .any e
def namesT (o : Oper) : List Tmp := o.op.operands.toList.filterMap fun | .tmp t => some t | _ => none
/-- is i before j by at most f edges? -/
def reach (ops : Array Oper) : Nat → Nat → Nat → Bool
  | 0, _, _ => false
  | f + 1, j, i => match ops[j]? with
    | some o => hasEdge o i || o.after.any fun e => Region.binds .any e && reach ops f e.on i
    | none => false
def tailOk (ops : Array Oper) (m : Nat) : Bool :=
  (List.range ops.size).all fun j => Nat.blt j m || (List.range j).all fun i => reach ops 5 j i
def headOk (ops : Array Oper) (m : Nat) : Bool :=
  (List.range m).all fun i =>
    match ops[i]? with
    | none => false
    | some o =>
      (match o.dst with
       | none => false
       | some d => (List.range m).all fun j => Nat.beq i j || match ops[j]? with | some p => (match p.dst with | some e => !Nat.beq d e | none => false) | none => false) &&
      ((namesT o).all fun t => (List.range m).all fun j => match ops[j]? with | some p => (match p.dst with | some e => !Nat.beq t e || (Nat.blt j i && hasEdge o j) | none => false) | none => false) &&
      (match o.guard with
       | none => true
       | some (j, _) => Nat.blt j i && hasEdge o j)
def tailAt (ops : Array Oper) : Nat := cond (headOk ops ops.size) ops.size (ops.toList.takeWhile fun o => !isTail o.op).length
def backOk (ops : Array Oper) : Bool :=
  (List.range ops.size).all fun i => match ops[i]? with | some o => o.after.all fun e => !Region.binds .any e || Nat.blt e.on i | none => false
def drawOk (ops : Array Oper) : Bool := tailOk ops (tailAt ops) && headOk ops (tailAt ops) && backOk ops
/-- a move of the first part that may come later, too: nothing of the region writes what it reads, and who reads what it writes waits for it -/
def isFloat (ops : Array Oper) (m i : Nat) : Bool :=
  Nat.blt i m && match ops[i]? with
  | some o => o.guard.isNone && (match o.op, o.dst with
    | .move x, some d =>
      (match x with
      | .tmp u => (List.range ops.size).all fun j => match ops[j]? with | some p => (match p.dst with | some e => !Nat.beq u e | none => true) | none => true
      | .const _ => true
      | _ => false) &&
      (List.range ops.size).all fun j => Nat.blt j m || (match ops[j]? with | some p => (hasEdge p i || !((namesT p).any (Nat.beq d))) && (match p.dst with | some e => !Nat.beq d e | none => true) | none => true)
    | _, _ => false)
  | none => false
/-- the last part: stores and assignments alone -/
def tailPlain (ops : Array Oper) (m : Nat) : Bool :=
  (List.range ops.size).all fun j => Nat.blt j m || match ops[j]? with
  | some o => o.guard.isNone && (match o.op with | .store _ _ _ => o.dst.isNone | .assign _ => true | _ => false)
  | none => false
def tailOk3 (ops : Array Oper) (m : Nat) : Bool :=
  (List.range ops.size).all fun j => Nat.blt j m || (List.range j).all fun i => isFloat ops m i || reach ops 5 j i
def drawOk3 (ops : Array Oper) : Bool := tailPlain ops (tailAt ops) && tailOk3 ops (tailAt ops) && headOk ops (tailAt ops) && backOk ops

/-- what is stored into the block that slot d's alloc makes -/
def storeOf (d : Nat) : List Oper → Option Operand
  | [] => none
  | o :: rest =>
    match o.op with
    | .store _ (.tmp t) x => cond (Nat.beq t d) (some x) (storeOf d rest)
    | _ => storeOf d rest
/-- the check of a drawn region with allocs: all of it may run in any order that its edges allow -/
def drawOk2 (ops : Array Oper) : Bool :=
  ((List.range ops.size).all fun i =>
    match ops[i]? with
    | none => false
    | some o =>
      match o.op with
      | .alloc _ =>
        o.guard.isNone && (match o.dst with
        | none => false
        | some d => (List.range ops.size).all fun j => Nat.beq i j || match ops[j]? with | some p => (match p.dst with | some e => !Nat.beq d e | none => isAS p) | none => false)
      | .store t (.tmp a) x =>
        o.guard.isNone && o.dst.isNone &&
        ((List.range ops.size).any fun j => match ops[j]? with | some p => Nat.blt j i && hasEdge o j && (match p.op, p.dst with | .alloc u, some d => Nat.beq u t && Nat.beq d a | _, _ => false) | none => false) &&
        ((List.range ops.size).all fun j => Nat.beq i j || match ops[j]? with | some p => (match p.op with | .store _ (.tmp b) _ => !Nat.beq a b | _ => true) | none => false) &&
        (match x with
        | .tmp u => (List.range ops.size).all fun j => match ops[j]? with | some p => (match p.dst with | some e => !Nat.beq u e || (Nat.blt j i && hasEdge o j && !isAl p) | none => true) | none => false
        | _ => true)
      | _ =>
        (match o.dst with
        | none => false
        | some d => (List.range ops.size).all fun j => Nat.beq i j || match ops[j]? with | some p => (match p.dst with | some e => !Nat.beq d e | none => isAS p) | none => false) &&
        ((namesT o).all fun t => (List.range ops.size).all fun j => match ops[j]? with | some p => (match p.dst with | some e => !Nat.beq t e || (Nat.blt j i && hasEdge o j && !isAl p) | none => true) | none => false) &&
        (match o.guard with
        | none => true
        | some (j, _) => Nat.blt j i && hasEdge o j)) && backOk ops

/-- behind such a region: the blocks, in the text's order -/
def finA (P : Program) (ops : List Oper) : List Oper → St → (St → T) → T
  | [], st, k => k st
  | o :: rest, st, k =>
    match o.op, o.dst with
    | .alloc t, some d =>
      match zeroV P t with
      | some zs =>
        cond (Nat.blt d st.s.length)
        (match storeOf d ops with
        | some x =>
          match getD st.s x with
          | .val v => cond (okC v && Nat.blt 0 (sizeT P t) && Nat.beq (cellsV v).length (sizeT P t) && (cellsV v).all isCell && Nat.beq zs.length (sizeT P t)) (finA P ops rest ⟨st.s.set d (.own st.h.length 0), newB st.h (cellsV v)⟩ k) .fail
          | _ => .fail
        | none => finA P ops rest ⟨st.s.set d (.own st.h.length 0), newB st.h zs⟩ k) .fail
      | none => .fail
    | _, _ => finA P ops rest st k

def evalR (P : Program) (ops : Array Oper) (draw : Bool) (st : St) (k : St → T) : T :=
  cond draw
    (cond (ops.toList.any isAl) (cond (drawOk2 ops) (evalOps P ops true ops.toList st fun st' => finA P ops.toList ops.toList st' k) .fail) <| cond (drawOk ops || drawOk3 ops)
      (evalOps P ops true (ops.toList.take (tailAt ops)) st fun st' => evalOps P ops false (ops.toList.drop (tailAt ops)) st' k) .fail)
    (evalOps P ops false ops.toList st k)

def evalC (P : Program) : Code → St → (Ex → St → T) → T
  | .skip, st, k => k .normal st
  | .region _ ops draw, st, k => evalR P ops draw st (k .normal)
  | .seq a b, st, k => evalC P a st fun e st' => match e with
    | .normal => evalC P b st' k
    | e => k e st'
  | .cond c x y, st, k =>
    match getD st.s c with
    | .val (.bool t) => .br t (evalC P x st k) (evalC P y st k)
    | _ => .fail
  | .block id c, st, k => evalC P c st fun e st' => match e with
    | .exit i => cond (Nat.beq i id) (k .normal st') (k (.exit i) st')
    | e => k e st'
  | .exit id, st, k => k (.exit id) st
  | .ret, st, k => k .ret st
  | .loop body, st, k => .loop body st k
  | _, _, _ => .fail

def resD (P : Program) (st : St) : ResultVar → Option (Bool × V)
  | .tmp t => some (okV st.h (nth st.s t .unk), toV st.h (nth st.s t .unk))
  | .cell a t =>
    match nth st.s a .unk with
    | .own b off => cond (bx st.h b).alive (loadC P t (bx st.h b).cells off) none
    | _ => none
def resL (P : Program) (st : St) : List ResultVar → Option (Bool × List V)
  | [] => some (true, [])
  | r :: rs =>
    match resD P st r, resL P st rs with
    | some (c, v), some (d, vs) => some (c && d, v :: vs)
    | _, _ => none
def resT (P : Program) (rs : Array ResultVar) (st : St) : T :=
  match resL P st rs.toList with
  | some (c, [v]) => .br c (.ret v) .fail
  | some (c, vs) => .br c (.ret (.tup vs)) .fail
  | none => .fail

def initS (fn : Func) (ds : List V) : St := ⟨ds.map .val ++ List.replicate (fn.ntmps - ds.length) .unk, []⟩
/-- the tail of a function's run -/
def endK (P : Program) (fn : Func) : Ex → St → T
  | .normal, st => resT P fn.results st
  | .ret, st => resT P fn.results st
  | _, _ => .fail
def evalF (P : Program) (fn : Func) (ds : List V) : T :=
  match fn.body with
  | some c => evalC P c (initS fn ds) (endK P fn)
  | none => .fail

end Go.Proofs.YtcijnloneigfcaaGreatDoor
