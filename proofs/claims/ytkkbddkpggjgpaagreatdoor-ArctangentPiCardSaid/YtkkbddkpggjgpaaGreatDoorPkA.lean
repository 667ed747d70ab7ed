/-
  Lower layers: what functions of the program compute, and plain facts. Conditions: as the theorems say.
-/
import Derived.Calls
import Derived.Orders
import Derived.Below
import Derived.Laws.Sem
import Derived.Laws.Cells
import Derived.Laws.IdiomCopy
import Derived.Laws.NewBlocks
import Derived.Deep.MidRow
import Derived.Laws.Slices
set_option linter.unusedVariables false
set_option linter.unusedSimpArgs false
namespace Go.Proofs.YtkkbddkpggjgpaaGreatDoor
open Go.RowKit
inductive V where
 | unk
 | bool (b:Bool)
 | int (k:IntKind) (n:Int)
 | nil
 | sl (sz:Nat) (cells:List V)
 | pt (cells:List V) (off:Nat)
 | agg (l:List V)
 | tup (l:List V)
 | clos (f:FuncId) (caps:List V)
 /-- a method's function with its receiver -/
 | bnd (f:FuncId) (first:List V)
 deriving Inhabited
inductive D where
 | unk
 | val (v:V)
 | own (b off:Nat)
 | osl (b off len sz:Nat)
 | clo (f:FuncId) (caps:List (Nat × Nat))
 /-- as osl,and the box lies in this block -/
 | oslp (b off len sz β:Nat)
 deriving Inhabited
mutual
inductive Rd (w:World) (S:Nat→Prop):Value→V→Prop
 | unk {v}:Rd w S v .unk
 | bool {b}:Rd w S (.bool b) (.bool b)
 | int {k n}:Rd w S (.int k n) (.int k n)
 | nil:Rd w S (.slice none 0 0) .nil
 | nilsl {sz}:Rd w S (.slice none 0 0) (.sl sz [])
 | sl {b o n cap sz cells vals}:S b→b<w.heap.size→n≤cap→cells.length=n*sz→RdL w S vals cells →
   (∀ i v,vals[i]?=some v→w.cell? ⟨b,o+i,none⟩=some v)→Rd w S (.slice (some ⟨b,o,none⟩) n cap) (.sl sz cells)
 | pt {b o off cells vals}:S b→b<w.heap.size→RdL w S vals cells →
   (∀ i v,vals[i]?=some v→w.cell? ⟨b,o+i,none⟩=some v)→Rd w S (.pointer (some ⟨b,o+off,none⟩)) (.pt cells off)
 | agg {arr l}:RdL w S arr l→Rd w S (.agg arr.toArray) (.agg l)
 | tup {arr l}:RdL w S arr l→Rd w S (.tuple arr.toArray) (.tup l)
 | clos {f arr l}:RdL w S arr l→Rd w S (.func (.func f) #[] arr.toArray) (.clos f l)
 | bnd {f arr l}:RdL w S arr l→Rd w S (.func (.func f) arr.toArray #[]) (.bnd f l)
inductive RdL (w:World) (S:Nat→Prop):List Value→List V→Prop
 | nil:RdL w S [] []
 | cons {v x vs xs}:Rd w S v x→RdL w S vs xs→RdL w S (v::vs) (x::xs)
end
theorem RdL.length {w S vs xs}(h:RdL w S vs xs):vs.length=xs.length:=by
 induction vs generalizing xs with
 | nil=>cases h;rfl
 | cons v vs ih=>cases h with | cons _ h=>simp [ih h]
theorem RdL.get {w S vs xs}(h:RdL w S vs xs):∀ {i:Nat} {x:V},xs[i]?=some x→∃ v,vs[i]?=some v∧Rd w S v x:=by
 induction vs generalizing xs with
 | nil=>cases h;intro i x hx;simp at hx
 | cons v vs ih =>
  cases h with
  | cons h1 h2 =>
   intro i x hx
   cases i with
   | zero=>simp at hx;subst hx;exact⟨v,by simp,h1⟩
   | succ i=>simp at hx;obtain⟨u,hu,hr⟩:=ih h2 hx;exact⟨u,by simpa using hu,hr⟩
theorem RdL.get' {w S vs xs}(h:RdL w S vs xs):∀ {i:Nat} {v:Value},vs[i]?=some v→∃ x,xs[i]?=some x∧Rd w S v x:=by
 intro i v hv
 have hl:=h.length
 have hi:i<vs.length:=by
  rcases Nat.lt_or_ge i vs.length with h | h
  ·exact h
  ·rw[List.getElem?_eq_none h] at hv;cases hv
 have hx:xs[i]?=some xs[i]:=List.getElem?_eq_getElem (by omega)
 obtain⟨u,hu,hr⟩:=h.get hx
 rw[hv] at hu;cases hu
 exact⟨_,hx,hr⟩
theorem RdL.mk {w S}:∀ {vs:List Value} {xs:List V},vs.length=xs.length→(∀ (i:Nat) (v:Value) (x:V),vs[i]?=some v→xs[i]?=some x→Rd w S v x)→RdL w S vs xs
 | [],[],_,_=>.nil
 | [],_::_,h,_=>by simp at h
 | _::_,[],h,_=>by simp at h
 | v::vs,x::xs,h,hr=>.cons (hr 0 v x rfl rfl) (RdL.mk (by simpa using h) fun i v x hv hx=>hr (i+1) v x (by simpa using hv) (by simpa using hx))
theorem RdL.append {w S vs xs us ys}(h:RdL w S vs xs)(k:RdL w S us ys):RdL w S (vs ++ us) (xs ++ ys):=by
 induction vs generalizing xs with
 | nil=>cases h;exact k
 | cons v vs ih=>cases h with | cons h1 h2=>exact .cons h1 (ih h2)
theorem RdL.drop {w S vs xs}(h:RdL w S vs xs)(n:Nat):RdL w S (vs.drop n) (xs.drop n) :=
 RdL.mk (by simp [h.length]) fun i v x hv hx=>by
  rw[List.getElem?_drop] at hv hx
  obtain⟨u,hu,hr⟩:=h.get hx
  rw[hv] at hu;cases hu;exact hr
theorem RdL.take {w S vs xs}(h:RdL w S vs xs)(n:Nat):RdL w S (vs.take n) (xs.take n) :=
 RdL.mk (by simp [h.length]) fun i v x hv hx=>by
  rw[List.getElem?_take] at hv hx
  split at hv
  ·rename_i hi
   rw[if_pos hi] at hx
   obtain⟨u,hu,hr⟩:=h.get hx
   rw[hv] at hu;cases hu;exact hr
  ·cases hv
theorem RdL.set {w S vs xs v x}(h:RdL w S vs xs)(hv:Rd w S v x)(n:Nat):RdL w S (vs.set n v) (xs.set n x) :=
 RdL.mk (by simp [h.length]) fun i u y hu hy=>by
  rw[List.getElem?_set] at hu hy
  by_cases hi:n=i
  ·subst hi
   simp only [if_true] at hu hy
   split at hu
   ·rw[if_pos (by have:=h.length;omega)] at hy;cases hu;cases hy;exact hv
   ·cases hu
  ·simp only [hi,if_false] at hu hy
   obtain⟨u',hu',hr⟩:=h.get hy
   rw[hu] at hu';cases hu';exact hr
structure Lasts (w w':World) (S S':Nat→Prop):Prop where
 size:w.heap.size≤w'.heap.size
 block:∀ b,b<w.heap.size→S b→S' b∧w'.heap[b]?=w.heap[b]?
theorem Lasts.refl (w:World)(S:Nat→Prop):Lasts w w S S:=⟨Nat.le_refl _,fun _ _ h=>⟨h,rfl⟩⟩
theorem Lasts.trans {w1 w2 w3 S1 S2 S3}(h:Lasts w1 w2 S1 S2)(k:Lasts w2 w3 S2 S3):Lasts w1 w3 S1 S3 :=
 ⟨Nat.le_trans h.size k.size,fun b hb hs=>by
  obtain⟨h1,h2⟩:=h.block b hb hs
  obtain⟨k1,k2⟩:=k.block b (Nat.lt_of_lt_of_le hb h.size) h1
  exact⟨k1,k2.trans h2⟩⟩
theorem Lasts.of_below {w w':World}(h:Below w.heap.size w w')(S:Nat→Prop):Lasts w w' S S :=
 ⟨h.size,fun b hb hs=>⟨hs,h.block b hb⟩⟩
theorem cell_of_block {w w':World}{b o:Nat}(h:w'.heap[b]?=w.heap[b]?):w'.cell? ⟨b,o,none⟩=w.cell? ⟨b,o,none⟩:=by
 simp [World.cell?,h]
mutual
theorem Rd.lasts {w w' S S' v x}(hl:Lasts w w' S S'):Rd w S v x→Rd w' S' v x
 | .unk=>.unk
 | .bool=>.bool
 | .int=>.int
 | .nil=>.nil
 | .nilsl=>.nilsl
 | .sl hs hb hn hc hr hv =>
  .sl (hl.block _ hb hs).1 (Nat.lt_of_lt_of_le hb hl.size) hn hc (hr.lasts hl) fun i v h=>by
   rw[cell_of_block (hl.block _ hb hs).2];exact hv i v h
 | .pt hs hb hr hv =>
  .pt (hl.block _ hb hs).1 (Nat.lt_of_lt_of_le hb hl.size) (hr.lasts hl) fun i v h=>by
   rw[cell_of_block (hl.block _ hb hs).2];exact hv i v h
 | .agg h=>.agg (h.lasts hl)
 | .tup h=>.tup (h.lasts hl)
 | .clos h=>.clos (h.lasts hl)
 | .bnd h=>.bnd (h.lasts hl)
theorem RdL.lasts {w w' S S' vs xs}(hl:Lasts w w' S S'):RdL w S vs xs→RdL w' S' vs xs
 | .nil=>.nil
 | .cons h t=>.cons (h.lasts hl) (t.lasts hl)
end
structure Box where
 alive:Bool
 frozen:Bool
 cells:List V
 deriving Inhabited
inductive RdD (w:World) (S:Nat→Prop) (ρ:List Nat):Value→D→Prop
 | unk {v}:RdD w S ρ v .unk
 | val {v x}:Rd w S v x→RdD w S ρ v (.val x)
 | own {b off β}:ρ[b]?=some β→RdD w S ρ (.pointer (some ⟨β,off,none⟩)) (.own b off)
 | osl {b off len sz β cap e n}:ρ[b]?=some β→len≤cap→w.shape? β=some (e,n)→off+cap*sz≤n →
   RdD w S ρ (.slice (some ⟨β,off,none⟩) len cap) (.osl b off len sz)
 | clo {f:FuncId} {caps:List (Nat × Nat)} {arr:List Value}:arr.length=caps.length→(∀ (i b off:Nat),caps[i]?=some (b,off)→∃ β:Nat,ρ[b]?=some β∧arr[i]?=some (Value.pointer (some ⟨β,off,none⟩))) →
   RdD w S ρ (.func (.func f) #[] arr.toArray) (.clo f caps)
 | oslp {b off len sz β cap e n}:ρ[b]?=some β→len≤cap→w.shape? β=some (e,n)→off+cap*sz≤n →
   RdD w S ρ (.slice (some ⟨β,off,none⟩) len cap) (.oslp b off len sz β)
theorem RdD.lasts {w w' S S' ρ ρ' v d}(hl:Lasts w w' S S')(hsh:∀ b e n,w.shape? b=some (e,n)→w'.shape? b=some (e,n))
  (hρ:∀ (i β:Nat),ρ[i]?=some β→ρ'[i]?=some β) (h:RdD w S ρ v d):RdD w' S' ρ' v d:=by
 cases h with
 | unk=>exact .unk
 | val h=>exact .val (h.lasts hl)
 | own h=>exact .own (hρ _ _ h)
 | osl h hc hs hn=>exact .osl (hρ _ _ h) hc (hsh _ _ _ hs) hn
 | clo hlen h=>exact .clo hlen fun i b off hc=>let ⟨β,hb,ha⟩:=h i b off hc;⟨β,hρ _ _ hb,ha⟩
 | oslp h hc hs hn=>exact .oslp (hρ _ _ h) hc (hsh _ _ _ hs) hn
theorem Rd.int_inv {w S v k n}(h:Rd w S v (.int k n)):v=.int k n:=by cases h;rfl
theorem Rd.bool_inv {w S v b}(h:Rd w S v (.bool b)):v=.bool b:=by cases h;rfl
theorem RdD.val_inv {w S ρ v x}(h:RdD w S ρ v (.val x)):Rd w S v x:=by cases h;assumption
theorem RdD.int_inv {w S ρ v k n}(h:RdD w S ρ v (.val (.int k n))):v=.int k n:=h.val_inv.int_inv
theorem RdD.bool_inv {w S ρ v b}(h:RdD w S ρ v (.val (.bool b))):v=.bool b:=h.val_inv.bool_inv
theorem Rd.agg_inv {w S v l}(h:Rd w S v (.agg l)):∃ arr:List Value,v=.agg arr.toArray∧RdL w S arr l:=by
 cases h with | agg h=>exact⟨_,rfl,h⟩
theorem Rd.tup_inv {w S v l}(h:Rd w S v (.tup l)):∃ arr:List Value,v=.tuple arr.toArray∧RdL w S arr l:=by
 cases h with | tup h=>exact⟨_,rfl,h⟩
theorem RdD.own_inv {w S ρ v b off}(h:RdD w S ρ v (.own b off)):∃ β,ρ[b]?=some β∧v=.pointer (some ⟨β,off,none⟩):=by
 cases h with | own h=>exact⟨_,h,rfl⟩
def stab (S0:Nat→Prop)(ρ:List Nat)(h:List Box)(b:Nat):Prop :=
 S0 b∧∀ (i:Nat) (x:Box),h[i]?=some x→x.alive=true→x.frozen=false→ρ[i]?≠some b
structure Base extends World where
 ex:Nat→Prop
def Base.own (w0:Base)(β:Nat):Prop:=w0.heap.size≤β∨w0.ex β
def base (w:World):Base:=⟨w,fun _=>False⟩
structure Kept (w0:Base) (w:World):Prop where
 os:w.os=w0.os
 tape:w.tape=w0.tape
 output:w.output=w0.output
 size:w0.heap.size≤w.heap.size
 block:∀ k,k<w0.heap.size→¬ w0.ex k→w.heap[k]?=w0.heap[k]?
 shape:∀ b e n,w0.shape? b=some (e,n)→w.shape? b=some (e,n)
theorem shape_lt {w:World}{b n:Nat}{e:TypeId}(hs:w.shape? b=some (e,n)):b<w.heap.size:=by
 rcases Nat.lt_or_ge b w.heap.size with q | q
 ·exact q
 ·simp [World.shape?,Array.getElem?_eq_none q] at hs
theorem below_shape {w w':World}(h:Below w.heap.size w w')(b:Nat)(e:TypeId)(n:Nat)(hs:w.shape? b=some (e,n)):w'.shape? b=some (e,n):=by
 simpa [World.shape?,h.block b (shape_lt hs)] using hs
theorem Kept.refl (w:World)(x:Nat→Prop):Kept ⟨w,x⟩ w:=⟨rfl,rfl,rfl,Nat.le_refl _,fun _ _ _=>rfl,fun _ _ _ q=>q⟩
theorem Kept.step {w0:Base}{w w':World}(h:Kept w0 w)(k:Below w.heap.size w w'):Kept w0 w' :=
 ⟨k.os.trans h.os,k.tape.trans h.tape,k.output.trans h.output,Nat.le_trans h.size k.size,fun b hb hx=>(k.block b (Nat.lt_of_lt_of_le hb h.size)).trans (h.block b hb hx),fun b e n q=>below_shape k b e n (h.shape b e n q)⟩
theorem Kept.then {w0:Base}{w w':World}{β:Nat}(h:Kept w0 w)(hβ:w0.own β)(k:Kept ⟨w,fun b=>b=β⟩ w'):Kept w0 w' :=
 ⟨k.os.trans h.os,k.tape.trans h.tape,k.output.trans h.output,Nat.le_trans h.size k.size,fun b hb hx =>
  (k.block b (Nat.lt_of_lt_of_le hb h.size) (fun e=>hβ.elim (fun q=>absurd hb (by have e:b=β:=e;omega)) (fun q=>hx (by have e:b=β:=e;rw[e];exact q)))).trans (h.block b hb hx),fun b e n q=>k.shape b e n (h.shape b e n q)⟩
theorem Kept.below {w w':World}(h:Kept (base w) w'):Below w.heap.size w w':=⟨h.os,h.tape,h.output,h.size,fun k hk=>h.block k hk (fun q=>q)⟩
def Hold (C:World→Prop)(w0:Base):Prop:=∀ w,Kept w0 w→C w
structure HeapOk (w:World) (O:Nat→Prop) (S:Nat→Prop) (ρ:List Nat) (h:List Box):Prop where
 len:ρ.length=h.length
 low:∀ (i:Nat) (β:Nat),ρ[i]?=some β→O β∧β<w.heap.size
 inj:∀ (i j:Nat) (x y:Box) (β:Nat),h[i]?=some x→h[j]?=some y→x.alive=true→y.alive=true→ρ[i]?=some β→ρ[j]?=some β→i=j
 box:∀ (i:Nat) (x:Box) (β:Nat),h[i]?=some x→x.alive=true→ρ[i]?=some β →
  ∃ vals ty,w.heap[β]?=some (.cells vals ty (0,0))∧x.cells.length≤vals.size∧RdL w S (vals.toList.take x.cells.length) x.cells
end Go.Proofs.YtkkbddkpggjgpaaGreatDoor

namespace Go.Proofs.YtkkbddkpggjgpaaGreatDoor
theorem oA {p:Prop}(h:p:=by first | omega | (simp<;>omega)):p:=h
theorem oO {p:Prop}(h:p:=by omega):p:=h
theorem tT:true=true:=rfl
theorem aI {p q:Prop}(x:p)(y:q):p∧q:=⟨x,y⟩
end Go.Proofs.YtkkbddkpggjgpaaGreatDoor

namespace Go.Proofs.YtkkbddkpggjgpaaGreatDoor
inductive Ex where
 | normal
 | exit (id:Nat)
 | ret
 deriving Inhabited
structure St where
 s:List D
 h:List Box
 deriving Inhabited
inductive T where
 | fail
 | ret (v:V)
 | out (e:Ex) (st:St)
 | call (f:FuncId) (ds:List V) (k:V→T)
 | br (b:Bool) (x y:T)
 | alt (b:Bool) (x y:T)
 | any (x y:T)
 | call2 (f:FuncId) (ds:List V) (k:V→T) (kO:Nat→Nat→List V→T) (m:Option (List V × Nat × Nat × List V)) (kM:List V→V→T)
 | loop (body:Code) (st:St) (k:Ex→St→T)
 deriving Inhabited
def nth {α:Type}:List α→Nat→α→α
 | [],_,d=>d
 | x::_,0,_=>x
 | _::xs,n+1,d=>nth xs n d
def sizeT (P:Program)(t:TypeId):Nat:=P.cellsOf t
def kindT (P:Program)(t:TypeId):Option Bool :=
 match P.underlying t with
 | some (.struct _)=>some true
 | some (.array _ _)=>some true
 | some _=>some false
 | none=>none
def cellV:Value→V
 | .bool b=>.bool b
 | .int k n=>.int k n
 | .slice none 0 0=>.nil
 | _=>.unk
def constV:Value→V
 | .agg cs=>.agg (cs.toList.map cellV)
 | v=>cellV v
def zeroV (P:Program)(t:TypeId):Option (List V) :=
 match P.info? t with
 | some i =>
  match i.zero with
  | some v=>some (v.cells.toList.map cellV)
  | none=>none
 | none=>none
def unpin:D→D
 | .oslp b off len sz _=>.osl b off len sz
 | .unk=>.unk
 | .val v=>.val v
 | .own b off=>.own b off
 | .osl b off len sz=>.osl b off len sz
 | .clo f caps=>.clo f caps
def getD (s:List D):Operand→D
 | .tmp t=>unpin (nth s t .unk)
 | .const v=>.val (constV v)
 | .func f=>.val (.clos f [])
 | .global _=>.unk
def wRem (a b:Int):Int:=a.tmod b
def wShr (k:IntKind)(a b:Int):Int:=a.fdiv (2^(min b.toNat k.bits))
def wAnd (k:IntKind)(a b:Int):Int:=k.wrap (BitVec.ofInt k.bits a &&& BitVec.ofInt k.bits b).toNat
def wOr (k:IntKind)(a b:Int):Int:=k.wrap (BitVec.ofInt k.bits a ||| BitVec.ofInt k.bits b).toNat
def wXor (k:IntKind)(a b:Int):Int:=k.wrap (BitVec.ofInt k.bits a ^^^ BitVec.ofInt k.bits b).toNat
def wAndNot (k:IntKind)(a b:Int):Int:=k.wrap (BitVec.ofInt k.bits a &&& ~~~ BitVec.ofInt k.bits b).toNat
def iEq (a b:Int):Bool:=a == b
def iNe (a b:Int):Bool:=a != b
def iLt (a b:Int):Bool:=decide (a<b)
def iLe (a b:Int):Bool:=decide (a≤b)
def iGt (a b:Int):Bool:=decide (a > b)
def iGe (a b:Int):Bool:=decide (a≥b)
def bEq (a b:Bool):Bool:=a == b
def iMax (x y:Int):Int:=if y > x then y else x
def iMin (x y:Int):Int:=if y<x then y else x
def inB (i:Int)(n:Nat):Bool:=iLe 0 i && iLt i n
def fits (k:IntKind)(n:Int):Bool:=iLe k.min n && iLe n k.max
def binI (op:BinOp)(k:IntKind)(a b:Int):Option (Bool × V) :=
 match op with
 | .rem=>some (iNe b 0,.int k (wRem a b))
 | .and=>some (true,.int k (wAnd k a b))
 | .or=>some (true,.int k (wOr k a b))
 | .xor=>some (true,.int k (wXor k a b))
 | .andNot=>some (true,.int k (wAndNot k a b))
 | .eql=>some (true,.bool (iEq a b))
 | .neq=>some (true,.bool (iNe a b))
 | .lss=>some (true,.bool (iLt a b))
 | .leq=>some (true,.bool (iLe a b))
 | .gtr=>some (true,.bool (iGt a b))
 | .geq=>some (true,.bool (iGe a b))
 | _=>none
def kindEq:IntKind→IntKind→Bool
 | .i8,.i8 | .i16,.i16 | .i32,.i32 | .i64,.i64 | .u8,.u8 | .u16,.u16 | .u32,.u32 | .u64,.u64=>true
 | _,_=>false
def binV (P:Program)(op:BinOp)(xType:TypeId):D→D→Option (Bool × V)
 | .val (.int k a),.val (.int k' b) =>
  match op with
  | .shr=>some (iLe 0 b,.int k (wShr k a b))
  | op=>cond (kindEq k k') (binI op k a b) none
 | .val (.bool a),.val (.bool b) =>
  match P.underlying xType with
  | some .bool =>
   match op with
   | .eql=>some (true,.bool (bEq a b))
   | .neq=>some (true,.bool (!bEq a b))
   | _=>none
  | _=>none
 | _,_=>none
def binW (op:BinOp):D→D→Option (Bool × IntKind × Int)
 | .val (.int k a),.val (.int k' b) =>
  match op with
  | .add=>some (kindEq k k',k,a+b)
  | .sub=>some (kindEq k k',k,a-b)
  | .mul=>some (kindEq k k',k,a*b)
  | .quo=>some (kindEq k k' && iNe b 0,k,a.tdiv b)
  | .shl=>some (iLe 0 b,k,a*2^(min b.toNat k.bits))
  | _=>none
 | _,_=>none
def unV (op:UnOp):D→Option (Bool × V)
 | .val (.int k n) =>
  match op with
  | .xor=>some (true,.int k (wXor k (cond k.signed (-1) k.max) n))
  | _=>none
 | .val (.bool b) =>
  match op with
  | .not=>some (true,.bool (!b))
  | _=>none
 | _=>none
def unW (op:UnOp):D→Option (Bool × IntKind × Int)
 | .val (.int k n) =>
  match op with
  | .neg=>some (true,k,0-n)
  | _=>none
 | _=>none
def convW (P:Program)(src dst:TypeId):D→Option (Bool × IntKind × Int)
 | .val (.int _ n) =>
  match P.underlying src,P.underlying dst with
  | some _,some (.int k)=>some (true,k,n)
  | _,_=>none
 | _=>none
def slen (sz:Nat)(cells:List V):Nat :=
 match sz with
 | 1=>cells.length
 | n=>cells.length / n
def lenD:D→Option Nat
 | .val .nil=>some 0
 | .val (.sl sz c)=>cond (Nat.blt 0 sz) (some (slen sz c)) none
 | .osl _ _ n _=>some n
 | _=>none
def bx (h:List Box)(i:Nat):Box:=nth h i ⟨false,false,[]⟩
def isIntK:IntKind→V→Bool
 | k,.int k' _=>kindEq k k'
 | _,_=>false
def intV:V→Int
 | .int _ n=>n
 | _=>0
def loadC (P:Program)(t:TypeId)(cells:List V)(off:Nat):Option (Bool × V) :=
 match kindT P t with
 | some true=>some (Nat.ble (off+sizeT P t) cells.length,.agg ((cells.drop off).take (sizeT P t)))
 | some false =>
  match P.underlying t with
  | some (.int k)=>some (Nat.blt off cells.length && isIntK k (nth cells off .unk),.int k (intV (nth cells off .unk)))
  | _=>some (Nat.blt off cells.length,nth cells off .unk)
 | none=>none
def loadV (P:Program)(t:TypeId)(h:List Box):D→Option (Bool × V)
 | .own b off=>cond (bx h b).alive (loadC P t (bx h b).cells off) none
 | .val (.pt cells off)=>loadC P t cells off
 | _=>none
def isCell:V→Bool
 | .bool _ | .int _ _ | .nil | .sl _ _ | .pt _ _ | .clos _ _ | .bnd _ _=>true
 | _=>false
def cellsV:V→List V
 | .agg l=>l
 | v=>[v]
def splice (c:List V)(off:Nat):List V→List V
 | []=>c
 | v::vs=>splice (c.set off v) (off+1) vs
def setBox (h:List Box)(b:Nat)(x:Box):List Box:=h.set b x
def storeH (P:Program)(t:TypeId)(h:List Box):D→D→Option (Bool × List Box)
 | .own b off,.val v =>
  cond ((bx h b).alive && !(bx h b).frozen && Nat.blt 0 (sizeT P t) && Nat.beq (cellsV v).length (sizeT P t) && (cellsV v).all isCell)
   (some (Nat.ble (off+(cellsV v).length) (bx h b).cells.length,setBox h b ⟨true,false,splice (bx h b).cells off (cellsV v)⟩)) none
 | _,_=>none
def offF (P:Program)(s:TypeId)(f:Nat):Option (Nat × TypeId) :=
 match P.underlying s with
 | some (.struct fs) =>
  match fs[f]? with
  | some x=>cond (Nat.blt 0 (sizeT P x.type)) (some (x.offset,x.type)) none
  | none=>none
 | _=>none
def fieldAddrD (P:Program)(s:TypeId)(f:Nat):D→Option D
 | .own b off =>
  match offF P s f with
  | some (o,_)=>some (.own b (off+o))
  | none=>none
 | .val (.pt cells off) =>
  match offF P s f with
  | some (o,_)=>some (.val (.pt cells (off+o)))
  | none=>none
 | _=>none
def partV (P:Program)(t:TypeId)(l:List V)(off:Nat):Option (Bool × V) :=
 match kindT P t with
 | some true=>some (Nat.ble (off+sizeT P t) l.length,.agg ((l.drop off).take (sizeT P t)))
 | some false=>some (Nat.blt off l.length,nth l off .unk)
 | none=>none
def fieldV (P:Program)(s:TypeId)(f:Nat):D→Option (Bool × V)
 | .val (.agg l) =>
  match offF P s f with
  | some (o,t)=>partV P t l o
  | none=>none
 | _=>none
def placeB (P:Program)(t:TypeId):Option (Nat→Option (Nat × Nat)) :=
 match P.underlying t with
 | some (.struct fs)=>cond (fs.toList.all fun x=>Nat.blt 0 (sizeT P x.type))
  (some fun i=>(fs[i]?).map fun x=>(x.offset,sizeT P x.type)) none
 | some (.array _ e)=>cond (Nat.blt 0 (sizeT P e)) (some fun i=>some (i*sizeT P e,sizeT P e)) none
 | _=>none
def okC:V→Bool
 | .agg _=>true
 | v=>isCell v
def fillV (place:Nat→Option (Nat × Nat))(cells:List V):List (Nat × V)→Option (List V)
 | []=>some cells
 | (i,v)::rest =>
  match place i with
  | none=>none
  | some (off,size) =>
   cond (okC v && Nat.beq (cellsV v).length size && Nat.ble (off+size) cells.length) (fillV place (splice cells off (cellsV v)) rest) none
def valsD:List (Nat × D)→Option (List (Nat × V))
 | []=>some []
 | (i,.val v)::r =>
  match valsD r with
  | some l=>some ((i,v)::l)
  | none=>none
 | _::_=>none
def buildV (P:Program)(t:TypeId)(parts:List (Nat × D)):Option (Bool × V) :=
 match zeroV P t,valsD parts,placeB P t with
 | some zs,some ps,some pl =>
  match fillV pl zs ps with
  | some l=>some (true,.agg l)
  | none=>none
 | _,_,_=>none
def zrep (n:Nat)(zs:List V):List V :=
 match zs with
 | [z]=>List.replicate n z
 | zs=>(List.replicate n zs).flatten
def elemT (P:Program)(t:TypeId):Option (TypeId × Nat × List V) :=
 match P.underlying t with
 | some (.slice e) =>
  match zeroV P e with
  | some zs=>cond (Nat.beq zs.length (sizeT P e) && Nat.blt 0 (sizeT P e) && Nat.ble (P.bytesOf e) 1000) (some (e,sizeT P e,zs)) none
  | none=>none
 | _=>none
def buildSliceV (P : Program) (t : TypeId) (len : Nat) (parts : List (Nat × D)) : Option (Nat × List V) :=
  match elemT P t, valsD parts with
  | some (_, sz, zs), some ps =>
    cond (Nat.ble (len * sz) 1000)
      (match fillV (fun i => some (i * sz, sz)) (zrep len zs) ps with
       | some l => some (sz, l)
       | none => none) none
  | _, _ => none
def indexV (P : Program) (t : TypeId) : D → D → Option (Bool × V)
  | .val (.agg l), .val (.int _ i) =>
    match P.underlying t with
    | some (.array n e) => cond (Nat.blt 0 (sizeT P e))
      (match partV P e l (i.toNat * sizeT P e) with
       | some (c, v) => some (inB i n && c, v)
       | none => none) none
    | _ => none
  | _, _ => none
def indexAddrD (P:Program)(t:TypeId):D→D→Option (Bool × D)
 | .val (.sl sz cells),.val (.int _ i) =>
  match P.underlying t with
  | some (.slice e)=>cond (Nat.beq sz (sizeT P e) && Nat.blt 0 sz) (some (inB i (slen sz cells),.val (.pt cells (cond (Nat.beq sz 1) i.toNat (i.toNat*sz))))) none
  | _=>none
 | .osl b off len sz,.val (.int _ i) =>
  match P.underlying t with
  | some (.slice e)=>cond (Nat.beq sz (sizeT P e) && Nat.blt 0 sz) (some (inB i len,.own b (off+cond (Nat.beq sz 1) i.toNat (i.toNat*sz)))) none
  | _=>none
 | .own b off,.val (.int _ i) =>
  match P.underlying t with
  | some (.array n e)=>cond (Nat.blt 0 (sizeT P e) && Nat.blt 1 n) (some (inB i n,.own b (off+i.toNat*sizeT P e))) none
  | _=>none
 | _,_=>none
def boundD (d:Option D)(dflt:Int):Option Int :=
 match d with
 | none=>some dflt
 | some (.val (.int _ n))=>some n
 | _=>none
def sliceD (P:Program)(t:TypeId)(x:D)(lo hi:Option D):Option (Bool × D) :=
 match P.underlying t with
 | some (.slice e) =>
  match lenD x with
  | some n =>
   match boundD lo 0,boundD hi n with
   | some l,some m =>
    cond (Nat.blt 0 (sizeT P e))
     (match x with
     | .val .nil=>some (iLe 0 l && iLe l m && iLe m n,.val .nil)
     | .val (.sl sz cells)=>cond (Nat.beq sz (sizeT P e)) (some (iLe 0 l && iLe l m && iLe m n,.val (.sl sz ((cells.drop (cond (Nat.beq sz 1) l.toNat (l.toNat*sz))).take (cond (Nat.beq sz 1) (m-l).toNat ((m-l).toNat*sz)))))) none
     | .osl b off _ sz=>cond (Nat.beq sz (sizeT P e)) (some (iLe 0 l && iLe l m && iLe m n && (iEq l 0 || iLt l n),.osl b (off+cond (Nat.beq sz 1) l.toNat (l.toNat*sz)) (m-l).toNat sz)) none
     | _=>none) none
   | _,_=>none
  | none=>none
 | _=>none
def toV (h:List Box):D→V
 | .val v=>v
 | .osl b off len sz=>.sl sz (((bx h b).cells.drop off).take (cond (Nat.beq sz 1) len (len*sz)))
 | .own b off=>.pt (bx h b).cells off
 | .clo f caps=>.clos f (caps.map fun c=>.pt (bx h c.1).cells c.2)
 | .unk=>.unk
 | .oslp _ _ _ _ _=>.unk
def okV (h:List Box):D→Bool
 | .osl b off len sz=>(bx h b).alive && Nat.ble (off+cond (Nat.beq sz 1) len (len*sz)) (bx h b).cells.length
 | .own b _=>(bx h b).alive
 | .clo _ caps=>caps.all fun c=>(bx h c.1).alive
 | _=>true
def idsD:D→List Nat
 | .osl b _ _ _=>[b]
 | .own b _=>[b]
 | .clo _ caps=>caps.map (·.1)
 | _=>[]
def frz (h:List Box):List Nat→List Box
 | []=>h
 | b::bs=>frz (setBox h b { bx h b with frozen:=true }) bs
def foldI (f:Int→Int→Int)(k:IntKind)(acc:Int):List D→Option (Bool × V)
 | []=>some (true,.int k acc)
 | .val (.int _ y)::r=>foldI f k (f acc y) r
 | _=>none
def ownCaps:List D→Option (List (Nat × Nat))
 | []=>some []
 | .own b off::r =>
  match ownCaps r with
  | some l=>some ((b,off)::l)
  | none=>none
 | _=>none
def valCaps:List D→Option (List V)
 | []=>some []
 | .val v::r =>
  match valCaps r with
  | some l=>some (v::l)
  | none=>none
 | _=>none
def makeFuncD (f:FuncId)(ds:List D):Option D :=
 match valCaps ds with
 | some vs=>some (.val (.clos f vs))
 | none =>
  match ownCaps ds with
  | some cs=>some (.clo f cs)
  | none=>none
def bndD (f:FuncId)(ds:List D):Option D :=
 match valCaps ds with
 | some vs=>some (.val (.bnd f vs))
 | none=>none
def putO (s:List D)(dst:Option Tmp)(d:D):List D :=
 match dst with
 | some t=>s.set t d
 | none=>s
def go1 (h:List Box)(k:D→List Box→T):Option (Bool × V)→T
 | some (c,v)=>.br c (k (.val v) h) .fail
 | none=>.fail
def goW (h:List Box)(k:D→List Box→T):Option (Bool × IntKind × Int)→T
 | some (c,kd,n)=>.br c (.alt (fits kd n) (k (.val (.int kd n)) h) (k (.val (.int kd (kd.wrap n))) h)) .fail
 | none=>.fail
def go2 (h:List Box)(k:D→List Box→T):Option (Bool × D)→T
 | some (c,v)=>.br c (k v h) .fail
 | none=>.fail
def go3 (h:List Box)(k:D→List Box→T):Option D→T
 | some v=>k v h
 | none=>.fail
def callT (h:List Box)(f:FuncId)(args:List D)(caps:List V)(k:D→List Box→T):T :=
 .br (args.all (okV h)) (.call f (args.map (toV h) ++ caps) fun r=>k (.val r) (frz h (args.flatMap idsD))) .fail
def callB (h:List Box)(f:FuncId)(first:List V)(args:List D)(k:D→List Box→T):T :=
 .br (args.all (okV h)) (.call f (first ++ args.map (toV h)) fun r=>k (.val r) (frz h (args.flatMap idsD))) .fail
def goJ (P:Program)(h:List Box)(k:D→List Box→T)(t:TypeId)(dx:D)(kd:IntKind)(i:Int):Nat→T
 | 0=>.fail
 | n+1=>.alt (iEq i (n:Int)) (go1 h k (indexV P t dx (.val (.int kd (n:Int))))) (goJ P h k t dx kd i n)
def goI (P:Program)(h:List Box)(k:D→List Box→T)(t:TypeId)(dx di:D):T :=
 .alt true (go1 h k (indexV P t dx di)) (match di with | .val (.int kd i)=>goJ P h k t dx kd i 4 | _=>.fail)
def evalA (P:Program)(o:Oper)(g:Operand→D)(h:List Box)(k:D→List Box→T):T :=
 match o.op with
 | .move x=>k (g x) h
 | .assign x=>k (g x) h
 | .pick c a b =>
  match g c with
  | .val (.bool t)=>.br t (k (g a) h) (k (g b) h)
  | _=>.fail
 | .build t parts=>go1 h k (buildV P t (parts.toList.map fun p=>(p.1,g p.2)))
 | .load t a=>go1 h k (loadV P t h (g a))
 | .binOp op xt x y _ =>
  match binW op (g x) (g y) with
  | some r=>goW h k (some r)
  | none=>go1 h k (binV P op xt (g x) (g y))
 | .unOp op _ x =>
  match unW op (g x) with
  | some r=>goW h k (some r)
  | none=>go1 h k (unV op (g x))
 | .convert src dst x=>goW h k (convW P src dst (g x))
 | .makeFunc (.func f) first captured=>cond first.isEmpty (go3 h k (makeFuncD f (captured.toList.map g))) (cond captured.isEmpty (go3 h k (bndD f (first.toList.map g))) .fail)
 | .slice t x lo hi none=>go2 h k (sliceD P t (g x) (lo.map g) (hi.map g))
 | .fieldAddr s x f=>go3 h k (fieldAddrD P s f (g x))
 | .field s x f=>go1 h k (fieldV P s f (g x))
 | .indexAddr t x i=>go2 h k (indexAddrD P t (g x) (g i))
 | .index t x i=>goI P h k t (g x) (g i)
 | .extract x i =>
  match g x with
  | .val (.tup l)=>cond (Nat.blt i l.length) (k (.val (nth l i .unk)) h) .fail
  | _=>.fail
 | .call c =>
  match c.callee with
  | .value f =>
   match g f with
   | .val (.clos f caps)=>callT h f (c.args.toList.map g) caps k
   | .clo f caps=>cond (caps.all fun x=>(bx h x.1).alive)
     (callT (frz h (caps.map (·.1))) f (c.args.toList.map g) (caps.map fun x=>.pt (bx h x.1).cells x.2) k) .fail
   | .val (.bnd f first)=>callB h f first (c.args.toList.map g) k
   | _=>.fail
  | .builtin .len =>
   match c.args.toList,c.argTypes.toList with
   | [x],[t] =>
    match P.underlying t with
    | some (.slice _) =>
     match lenD (g x) with
     | some n=>k (.val (.int .i64 n)) h
     | none=>.fail
    | some (.array n _)=>k (.val (.int .i64 n)) h
    | _=>.fail
   | _,_=>.fail
  | .builtin .max =>
   match c.args.toList.map g with
   | .val (.int kd x)::r=>go1 h k (foldI iMax kd x r)
   | _=>.fail
  | .builtin .min =>
   match c.args.toList.map g with
   | .val (.int kd x)::r=>go1 h k (foldI iMin kd x r)
   | _=>.fail
  | _=>.fail
 | _=>.fail
def newB (h:List Box)(cells:List V):List Box:=h ++ [⟨true,false,cells⟩]
def srcV (h:List Box):D→Option (List V)
 | .val .nil=>some []
 | .val (.sl _ c)=>some c
 | .osl b off len sz=>cond (bx h b).alive (some (((bx h b).cells.drop off).take (cond (Nat.beq sz 1) len (len*sz)))) none
 | _=>none
def srcOk (h:List Box)(sz:Nat):D→Bool
 | .val .nil=>true
 | .val (.sl s _)=>Nat.beq s sz
 | .osl b off len s=>Nat.beq s sz && Nat.ble (off+cond (Nat.beq s 1) len (len*s)) (bx h b).cells.length
 | _=>false
def appendT (P:Program)(t xt:TypeId)(h:List Box)(s x:D)(k:D→List Box→T):T :=
 match elemT P t,cond (Nat.beq t xt) (lenD x) none,srcV h x with
 | some (_,sz,_),some n,some c =>
  match s with
  | .val .nil =>
   .br (srcOk h sz x && Nat.ble n 1073741824)
    (.br (Nat.beq n 0) (k (.val .nil) h) (k (.osl h.length 0 n sz) (newB h c))) .fail
  | .osl b off len s' =>
   cond (Nat.beq s' sz && Nat.beq off 0 && (bx h b).alive && !(bx h b).frozen)
    (.br (srcOk h sz x && c.all isCell && Nat.ble (len+n) 1073741824 && Nat.beq (bx h b).cells.length (cond (Nat.beq sz 1) len (len*sz)))
     (k (.osl h.length 0 (len+n) sz) (newB (setBox h b ⟨false,false,[]⟩) ((bx h b).cells ++ c))) .fail) .fail
  | _=>.fail
 | _,_,_=>.fail
def evalH (P:Program)(o:Oper)(g:Operand→D)(h:List Box)(k:D→List Box→T):T :=
 match o.op with
 | .alloc t =>
  match zeroV P t with
  | some zs=>k (.own h.length 0) (newB h zs)
  | none=>.fail
 | .box _ x =>
  match g x with
  | .val v=>cond (okC v) (k (.own h.length 0) (newB h (cellsV v))) .fail
  | _=>.fail
 | .store t a x =>
  match storeH P t h (g a) (g x) with
  | some (c,h')=>.br c (k .unk h') .fail
  | none=>.fail
 | .makeSlice t l c =>
  match elemT P t,g l,g c with
  | some (_,sz,zs),.val (.int _ n),.val (.int _ m) =>
   .br (iEq n m && iLe 0 n && iLe n 1073741824) (k (.osl h.length 0 n.toNat sz) (newB h (zrep n.toNat zs))) .fail
  | _,_,_=>.fail
 | .buildSlice t len parts =>
  match buildSliceV P t len (parts.toList.map fun p=>(p.1,g p.2)) with
  | some (sz,cells)=>k (.osl h.length 0 len sz) (newB h cells)
  | none=>.fail
 | .call { callee:=.builtin .append,args,argTypes } =>
  match args.toList,argTypes.toList with
  | [s,x],[t,xt]=>appendT P t xt h (g s) (g x) k
  | _,_=>.fail
 | .binOp .eql t x (.const (.slice none 0 0)) _ =>
  match P.underlying t with
  | some (.slice _) =>
   match g x with
   | .val .nil=>k (.val (.bool true)) h
   | .val (.sl _ c)=>.br (Nat.beq c.length 0) (.any (k (.val (.bool true)) h) (k (.val (.bool false)) h)) (k (.val (.bool false)) h)
   | .osl _ _ _ _=>k (.val (.bool false)) h
   | _=>.fail
  | _=>.fail
 | _=>.fail
def heapOp:Op→Bool
 | .binOp .eql _ _ (.const (.slice none 0 0)) _=>true
 | .alloc _ | .box _ _ | .store _ _ _ | .makeSlice _ _ _ | .buildSlice _ _ _=>true
 | .call { callee:=.builtin .append,.. }=>true
 | _=>false
def isAS (o:Oper):Bool :=
 match o.op with
 | .alloc _=>true
 | .store _ (.tmp _) _=>o.dst.isNone
 | _=>false
def isAl (o:Oper):Bool :=
 match o.op with
 | .alloc _=>true
 | _=>false
def evalDr (P:Program)(o:Oper)(g:Operand→D)(h:List Box)(k:D→List Box→T):T :=
 match o.op with
 | .buildSlice t len parts =>
  match buildSliceV P t len (parts.toList.map fun p=>(p.1,g p.2)) with
  | some (sz,cells)=>cond (Nat.beq cells.length (len*sz)) (k (.val (.sl sz cells)) h) .fail
  | none=>.fail
 | op=>cond (isAS o) (k .unk h) (cond (heapOp op) .fail (evalA P o g h k))
def mArg (h:List Box):List D→Option (List V × Nat × Nat × List V)
 | .osl b off len 1::rest=>some ((bx h b).cells,off,len,rest.map (toV h))
 | _=>none
def mTree (h:List Box)(args:List D)(caps:List V)(k:D→List Box→T)(cs:List V)(r:V):T :=
 match args with
 | .osl b _ _ 1::rest=>.br ((bx h b).alive && !(bx h b).frozen && !((rest.flatMap idsD).any (Nat.beq b)) && caps.isEmpty) (k (.val r) (setBox (frz h (rest.flatMap idsD)) b ⟨true,false,cs⟩)) .fail
 | _=>.fail
def call2T (h:List Box)(f:FuncId)(args:List D)(caps:List V)(k:D→List Box→T):T :=
 .br (args.all (okV h)) (.call2 f (args.map (toV h) ++ caps) (fun r=>k (.val r) (frz h (args.flatMap idsD)))
  (fun sz n c=>k (.osl (frz h (args.flatMap idsD)).length 0 n sz) (newB (frz h (args.flatMap idsD)) c))
  (mArg h args) (mTree h args caps k)) .fail
def evalB (P:Program)(o:Oper)(g:Operand→D)(h:List Box)(k:D→List Box→T):T :=
 match o.op with
 | .call c =>
  match c.callee with
  | .value fo =>
   match g fo with
   | .val (.clos f caps)=>call2T h f (c.args.toList.map g) caps k
   | _=>evalA P o g h k
  | _=>evalA P o g h k
 | _=>evalA P o g h k
def evalOp (P:Program)(dr:Bool)(o:Oper)(g:Operand→D)(h:List Box)(k:D→List Box→T):T :=
 cond dr (evalDr P o g h k) (cond (heapOp o.op) (evalH P o g h k) (evalB P o g h k))
def undD:D:=.val (.tup [])
def gslot (ops:Array Oper)(j:Nat):Option Tmp:=(ops[j]?).bind (·.dst)
def evalOps (P:Program)(ops:Array Oper)(dr:Bool):List Oper→St→(St→T)→T
 | [],st,k=>k st
 | o::rest,st,k =>
  match o.guard with
  | none=>evalOp P dr o (getD st.s) st.h fun d h=>evalOps P ops dr rest ⟨putO st.s o.dst d,h⟩ k
  | some (j,want) =>
   match gslot ops j with
   | some t =>
    match nth st.s t .unk with
    | .val (.bool b) =>
     .br b
      (cond want
       (evalOp P dr o (getD (st.s.set t (.val (.bool true)))) st.h fun d h=>evalOps P ops dr rest ⟨putO (st.s.set t (.val (.bool true))) o.dst d,h⟩ k)
       (evalOps P ops dr rest ⟨putO (st.s.set t (.val (.bool true))) o.dst undD,st.h⟩ k))
      (cond want
       (evalOps P ops dr rest ⟨putO (st.s.set t (.val (.bool false))) o.dst undD,st.h⟩ k)
       (evalOp P dr o (getD (st.s.set t (.val (.bool false)))) st.h fun d h=>evalOps P ops dr rest ⟨putO (st.s.set t (.val (.bool false))) o.dst d,h⟩ k))
    | .val (.tup [])=>evalOps P ops dr rest ⟨putO st.s o.dst undD,st.h⟩ k
    | _=>.fail
   | none=>.fail
def isTail:Op→Bool
 | .store _ _ _ | .assign _=>true
 | _=>false
def hasEdge (o:Oper)(i:Nat):Bool:=o.after.any fun e=>Nat.beq e.on i && Region.binds .any e
def namesT (o:Oper):List Tmp:=o.op.operands.toList.filterMap fun | .tmp t=>some t | _=>none
def reach (ops:Array Oper):Nat→Nat→Nat→Bool
 | 0,_,_=>false
 | f+1,j,i=>match ops[j]? with
  | some o=>hasEdge o i || o.after.any fun e=>Region.binds .any e && reach ops f e.on i
  | none=>false
def tailOk (ops:Array Oper)(m:Nat):Bool :=
 (List.range ops.size).all fun j=>Nat.blt j m || (List.range j).all fun i=>reach ops 5 j i
def headOk (ops : Array Oper) (m : Nat) : Bool :=
  (List.range m).all fun i =>
    match ops[i]? with
    | none => false
    | some o =>
      (match o.dst with
       | none => false
       | some d => (List.range m).all fun j => Nat.beq i j || match ops[j]? with | some p => (match p.dst with | some e => !Nat.beq d e | none => false) | none => false) &&
      ((namesT o).all fun t => (List.range m).all fun j => match ops[j]? with | some p => (match p.dst with | some e => !Nat.beq t e || (Nat.blt j i && hasEdge o j) | none => false) | none => false) &&
      (match o.guard with
       | none => true
       | some (j, _) => Nat.blt j i && hasEdge o j)
def backOk (ops:Array Oper):Bool :=
 (List.range ops.size).all fun i=>match ops[i]? with | some o=>o.after.all fun e=>!Region.binds .any e || Nat.blt e.on i | none=>false
def isFloat (ops:Array Oper)(m i:Nat):Bool :=
 Nat.blt i m && match ops[i]? with
 | some o=>o.guard.isNone && (match o.op,o.dst with
  | .move x,some d =>
   (match x with
   | .tmp u=>(List.range ops.size).all fun j=>match ops[j]? with | some p=>(match p.dst with | some e=>!Nat.beq u e | none=>true) | none=>true
   | .const _=>true
   | _=>false) &&
   (List.range ops.size).all fun j=>Nat.blt j m || (match ops[j]? with | some p=>(hasEdge p i || !((namesT p).any (Nat.beq d))) && (match p.dst with | some e=>!Nat.beq d e | none=>true) | none=>true)
  | _,_=>false)
 | none=>false
def tailPlain (ops:Array Oper)(m:Nat):Bool :=
 (List.range ops.size).all fun j=>Nat.blt j m || match ops[j]? with
 | some o=>o.guard.isNone && (match o.op with | .store _ _ _=>o.dst.isNone | .assign _=>true | _=>false)
 | none=>false
def tailOk3 (ops:Array Oper)(m:Nat):Bool :=
 (List.range ops.size).all fun j=>Nat.blt j m || (List.range j).all fun i=>isFloat ops m i || reach ops 5 j i
def isStOp:Op→Bool
 | .store _ _ _=>true
 | _=>false
def tailA (ops:Array Oper):Nat:=(ops.toList.takeWhile fun o=>!isTail o.op).length
def tailB (ops:Array Oper):Nat:=(ops.toList.takeWhile fun o=>!isStOp o.op).length
def tailAt (ops:Array Oper):Nat:=cond (headOk ops ops.size) ops.size
 (cond (tailOk ops (tailA ops) || (tailPlain ops (tailA ops) && tailOk3 ops (tailA ops)) || !headOk ops (tailB ops)) (tailA ops) (tailB ops))
def drawOk (ops:Array Oper):Bool:=tailOk ops (tailAt ops) && headOk ops (tailAt ops) && backOk ops
def drawOk3 (ops:Array Oper):Bool:=tailPlain ops (tailAt ops) && tailOk3 ops (tailAt ops) && headOk ops (tailAt ops) && backOk ops
def isLate (o:Oper):Bool :=
 match o.op with
 | .move _ | .pick _ _ _ | .extract _ _ | .fieldAddr _ _ _ | .load _ _ | .binOp _ _ _ _ _=>true
 | _=>false
def allSt (ops:Array Oper)(m s i:Nat):Bool:=(List.range s).all fun r=>reach ops 5 (m+r) i
def isStore (o:Oper):Bool:=match o.op with | .store _ _ _=>o.guard.isNone && o.dst.isNone | _=>false
def storesN (ops:Array Oper):Nat:=((ops.toList.drop (tailAt ops)).takeWhile isStore).length
def lateOk (ops:Array Oper)(m s:Nat):Bool :=
 tailOk ops (m+s) && headOk ops m && backOk ops && Nat.ble (m+s) ops.size &&
 ((List.range s).all fun r=>(match ops[m+r]? with
  | some o=>isStore o && ((namesT o).all fun u=>(List.range m).all fun i=>(match gslot ops i with | some t=>!Nat.beq t u | none=>true) || reach ops 5 (m+r) i)
  | none=>false) && (List.range r).all fun q=>reach ops 5 (m+r) (m+q)) &&
 ((List.range m).all fun i=>allSt ops m s i || (match ops[i]? with | some o=>isLate o | none=>false))
def ldOk (ops:Array Oper)(m s:Nat)(S:List D):Bool :=
 (List.range m).all fun i=>allSt ops m s i || (match ops[i]? with
  | some o=>(match o.op with
   | .load _ x=>(match getD S x with
    | .own b _=>(List.range s).all fun r=>(match ops[m+r]? with
     | some p=>(match p.op with
      | .store _ a _=>(match getD S a with | .own c _=>!Nat.beq b c | _=>false)
      | _=>false)
     | none=>false)
    | _=>false)
   | _=>true)
  | none=>true)
def storeOf (d:Nat):List Oper→Option Operand
 | []=>none
 | o::rest =>
  match o.op with
  | .store _ (.tmp t) x=>cond (Nat.beq t d) (some x) (storeOf d rest)
  | _=>storeOf d rest
def drawOk2 (ops:Array Oper):Bool :=
 ((List.range ops.size).all fun i =>
  match ops[i]? with
  | none=>false
  | some o =>
   match o.op with
   | .alloc _ =>
    o.guard.isNone && (match o.dst with
    | none=>false
    | some d=>(List.range ops.size).all fun j=>Nat.beq i j || match ops[j]? with | some p=>(match p.dst with | some e=>!Nat.beq d e | none=>isAS p) | none=>false)
   | .store t (.tmp a) x =>
    o.guard.isNone && o.dst.isNone &&
    ((List.range ops.size).any fun j=>match ops[j]? with | some p=>Nat.blt j i && hasEdge o j && (match p.op,p.dst with | .alloc u,some d=>Nat.beq u t && Nat.beq d a | _,_=>false) | none=>false) &&
    ((List.range ops.size).all fun j=>Nat.beq i j || match ops[j]? with | some p=>(match p.op with | .store _ (.tmp b) _=>!Nat.beq a b | _=>true) | none=>false) &&
    (match x with
    | .tmp u=>(List.range ops.size).all fun j=>match ops[j]? with | some p=>(match p.dst with | some e=>!Nat.beq u e || (Nat.blt j i && hasEdge o j && !isAl p) | none=>true) | none=>false
    | _=>true)
   | _ =>
    (match o.dst with
    | none=>false
    | some d=>(List.range ops.size).all fun j=>Nat.beq i j || match ops[j]? with | some p=>(match p.dst with | some e=>!Nat.beq d e | none=>isAS p) | none=>false) &&
    ((namesT o).all fun t=>(List.range ops.size).all fun j=>match ops[j]? with | some p=>(match p.dst with | some e=>!Nat.beq t e || (Nat.blt j i && hasEdge o j && !isAl p) | none=>true) | none=>false) &&
    (match o.guard with
    | none=>true
    | some (j,_)=>Nat.blt j i && hasEdge o j)) && backOk ops
def finA (P:Program)(ops:List Oper):List Oper→St→(St→T)→T
 | [],st,k=>k st
 | o::rest,st,k =>
  match o.op,o.dst with
  | .alloc t,some d =>
   match zeroV P t with
   | some zs =>
    cond (Nat.blt d st.s.length)
    (match storeOf d ops with
    | some x =>
     match getD st.s x with
     | .val v=>cond (okC v && Nat.blt 0 (sizeT P t) && Nat.beq (cellsV v).length (sizeT P t) && (cellsV v).all isCell && Nat.beq zs.length (sizeT P t)) (finA P ops rest ⟨st.s.set d (.own st.h.length 0),newB st.h (cellsV v)⟩ k) .fail
     | _=>.fail
    | none=>finA P ops rest ⟨st.s.set d (.own st.h.length 0),newB st.h zs⟩ k) .fail
   | none=>.fail
  | _,_=>finA P ops rest st k
def evalR (P:Program)(ops:Array Oper)(draw:Bool)(st:St)(k:St→T):T :=
 cond draw
  (cond (ops.toList.any isAl) (cond (drawOk2 ops) (evalOps P ops true ops.toList st fun st'=>finA P ops.toList ops.toList st' k) .fail)<|cond (drawOk ops || drawOk3 ops)
   (evalOps P ops true (ops.toList.take (tailAt ops)) st fun st'=>evalOps P ops false (ops.toList.drop (tailAt ops)) st' k)
   (cond (lateOk ops (tailAt ops) (storesN ops))
    (evalOps P ops true (ops.toList.take (tailAt ops)) st fun st'=>cond (ldOk ops (tailAt ops) (storesN ops) st'.s) (evalOps P ops false (ops.toList.drop (tailAt ops)) st' k) .fail) .fail))
  (evalOps P ops false ops.toList st k)
def evalC (P:Program):Code→St→(Ex→St→T)→T
 | .skip,st,k=>k .normal st
 | .region _ ops draw,st,k=>evalR P ops draw st (k .normal)
 | .seq a b,st,k=>evalC P a st fun e st'=>match e with
  | .normal=>evalC P b st' k
  | e=>k e st'
 | .cond c x y,st,k =>
  match getD st.s c with
  | .val (.bool t)=>.br t (evalC P x st k) (evalC P y st k)
  | _=>.fail
 | .block id c,st,k=>evalC P c st fun e st'=>match e with
  | .exit i=>cond (Nat.beq i id) (k .normal st') (k (.exit i) st')
  | e=>k e st'
 | .exit id,st,k=>k (.exit id) st
 | .ret,st,k=>k .ret st
 | .loop body,st,k=>.loop body st k
 | _,_,_=>.fail
def resD (P:Program)(st:St):ResultVar→Option (Bool × V)
 | .tmp t=>some (okV st.h (nth st.s t .unk),toV st.h (nth st.s t .unk))
 | .cell a t =>
  match nth st.s a .unk with
  | .own b off=>cond (bx st.h b).alive (loadC P t (bx st.h b).cells off) none
  | _=>none
def resL (P:Program)(st:St):List ResultVar→Option (Bool × List V)
 | []=>some (true,[])
 | r::rs =>
  match resD P st r,resL P st rs with
  | some (c,v),some (d,vs)=>some (c && d,v::vs)
  | _,_=>none
def resT (P:Program)(rs:Array ResultVar)(st:St):T :=
 match resL P st rs.toList with
 | some (c,[v])=>.br c (.ret v) .fail
 | some (c,vs)=>.br c (.ret (.tup vs)) .fail
 | none=>.fail
def initS (fn:Func)(ds:List V):St:=⟨ds.map .val ++ List.replicate (fn.ntmps-ds.length) .unk,[]⟩
def endK (P:Program)(fn:Func):Ex→St→T
 | .normal,st=>resT P fn.results st
 | .ret,st=>resT P fn.results st
 | _,_=>.fail
def evalF (P:Program)(fn:Func)(ds:List V):T :=
 match fn.body with
 | some c=>evalC P c (initS fn ds) (endK P fn)
 | none=>.fail
end Go.Proofs.YtkkbddkpggjgpaaGreatDoor

namespace Go.Proofs.YtkkbddkpggjgpaaGreatDoor
open Go.RowKit
def okFn (P:Program)(f:FuncId):Bool :=
 match P.funcs[f]? with
 | some fn=>fn.name != "runtime.NumGoroutine" && fn.body.isSome
 | none=>false
def Impl (P:Program)(C:World→Prop)(f:FuncId)(ds:List V)(r:V):Prop :=
 okFn P f=true∧∀ (w:World) (S:Nat→Prop) (args:List Value),C w→(∀ b,w.heap.size≤b→S b)→RdL w S args ds →
  Calls P f args.toArray w fun e w'=>∃ v,e=.returned v∧Rd w' S v r∧Below w.heap.size w w'
def isPrim:V→Bool
 | .unk | .bool _ | .int _ _ | .nil=>true
 | _=>false
def ImplO (P:Program)(C:World→Prop)(f:FuncId)(ds:List V)(sz n:Nat)(cells:List V):Prop :=
 okFn P f=true∧cells.all isPrim=true∧∀ (w:World) (S:Nat→Prop) (args:List Value),C w→(∀ b,w.heap.size≤b→S b)→RdL w S args ds →
  Calls P f args.toArray w fun e w'=>∃ β cap vals ty,e=.returned (.slice (some ⟨β,0,none⟩) n cap)∧w.heap.size≤β∧w'.heap[β]?=some (.cells vals ty (0,0)) ∧
   cells.length≤vals.size∧n≤cap∧cap*sz≤vals.size∧RdL w' S (vals.toList.take cells.length) cells∧Below w.heap.size w w'
def ImplM (P:Program)(C:World→Prop)(f:FuncId)(cs:List V)(off len:Nat)(ds:List V)(cs':List V)(r:V):Prop :=
 okFn P f=true∧isPrim r=true∧cs'.all isPrim=true∧cs'.length=cs.length∧∀ (w:World) (S:Nat→Prop) (β cap:Nat) (vals:Array Value) (ty:TypeId) (args:List Value),
  Hold C ⟨w,fun b=>b=β⟩→(∀ b,w.heap.size≤b→S b)→¬ S β→w.heap[β]?=some (.cells vals ty (0,0))→cs.length≤vals.size→RdL w S (vals.toList.take cs.length) cs →
  len≤cap→off+cap≤vals.size→RdL w S args ds →
  Calls P f (.slice (some ⟨β,off,none⟩) len cap::args).toArray w fun e w'=>∃ v vals',e=.returned v∧Rd w' S v r∧w'.heap[β]?=some (.cells vals' ty (0,0))∧vals'.size=vals.size ∧
   RdL w' S (vals'.toList.take cs.length) cs'∧Kept ⟨w,fun b=>b=β⟩ w'
def Stable (C:World→Prop):Prop:=∀ w w',C w→Below w.heap.size w w'→C w'
structure OkH (w0:Base) (S0:Nat→Prop) (w:World) (ρ:List Nat) (h:List Box):Prop where
 below:Kept w0 w
 heap:HeapOk w w0.own (stab S0 ρ h) ρ h
structure OkS (w0:Base) (S0:Nat→Prop) (st:St) (a:Act) (w:World) (ρ:List Nat):Prop where
 ok:OkH w0 S0 w ρ st.h
 size:a.tmps.size=st.s.length
 slots:∀ t,RdD w (stab S0 ρ st.h) ρ (a.tmps.getD t undef) (nth st.s t .unk)
 defers:a.defers = []
def Ex.to:Ex→Exit
 | .normal=>.normal
 | .exit id=>.exit id
 | .ret=>.ret
def LoopOk (P:Program)(C:World→Prop)(body:Code)(st:St)(R:Ex→St→Prop):Prop :=
 ∀ (w0:Base) (S0:Nat→Prop),Hold C w0→(∀ b,w0.own b→S0 b)→∀ a w ρ,OkS w0 S0 st a w ρ →
  (Code.loop body).wp P (fun e a' w'=>∃ ex st' ρ',e=ex.to∧R ex st'∧OkS w0 S0 st' a' w' ρ') a w
def T.wp (P:Program)(C:World→Prop)(Qr:V→Prop)(Qo:Ex→St→Prop):T→Prop
 | .fail=>False
 | .ret v=>Qr v
 | .out e st=>Qo e st
 | .call f ds k=>∃ r,Impl P C f ds r∧(k r).wp P C Qr Qo
 | .br b x y=>(b=true∧x.wp P C Qr Qo)∨(b=false∧y.wp P C Qr Qo)
 | .alt b x y=>(b=true∧x.wp P C Qr Qo)∨y.wp P C Qr Qo
 | .any x y=>x.wp P C Qr Qo∧y.wp P C Qr Qo
 | .call2 f ds k kO m kM=>(∃ r,Impl P C f ds r∧(k r).wp P C Qr Qo)∨(∃ sz n c,ImplO P C f ds sz n c∧(kO sz n c).wp P C Qr Qo) ∨
   ∃ cs off len dm cs' r,m=some (cs,off,len,dm)∧ImplM P C f cs off len dm cs' r∧(kM cs' r).wp P C Qr Qo
 | .loop body st k=>∃ R,LoopOk P C body st R∧∀ e st',R e st'→(k e st').wp P C Qr Qo
section
variable {P:Program} {C:World→Prop} {Qr:V→Prop} {Qo:Ex→St→Prop}
theorem of_br {b:Bool}{x y:T}(h:(T.br b x y).wp P C Qr Qo):(b=true∧x.wp P C Qr Qo)∨(b=false∧y.wp P C Qr Qo):=h
theorem of_brk {b:Bool}{x:T}(h:(T.br b x .fail).wp P C Qr Qo):b=true∧x.wp P C Qr Qo:=h.elim id fun q=>q.2.elim
theorem of_cond {b:Bool}{x y:T}(h:(cond b x y).wp P C Qr Qo):(b=true∧x.wp P C Qr Qo)∨(b=false∧y.wp P C Qr Qo):=by
 cases b
 ·exact .inr ⟨rfl,h⟩
 ·exact .inl ⟨rfl,h⟩
theorem of_chk {b:Bool}{x:T}(h:(cond b x .fail).wp P C Qr Qo):b=true∧x.wp P C Qr Qo:=by
 cases b
 ·exact h.elim
 ·exact⟨rfl,h⟩
theorem of_chk' {b:Bool}{y:T}(h:(cond b .fail y).wp P C Qr Qo):b=false∧y.wp P C Qr Qo:=by
 cases b
 ·exact⟨rfl,h⟩
 ·exact h.elim
end
theorem nth_eq {α:Type}(l:List α)(n:Nat)(d:α):nth l n d=(l[n]?).getD d:=by
 induction l generalizing n with
 | nil=>simp [nth]
 | cons x l ih=>cases n with
  | zero=>simp [nth]
  | succ n=>simp [nth,ih]
theorem nth_lt {α:Type}{l:List α}{n:Nat}(d:α)(h:n<l.length):l[n]?=some (nth l n d):=by
 rw[nth_eq,List.getElem?_eq_getElem h];rfl
theorem nth_set {α:Type}(l:List α)(n m:Nat)(x d:α):nth (l.set n x) m d=if n=m∧n<l.length then x else nth l m d:=by
 rw[nth_eq,nth_eq,List.getElem?_set]
 by_cases h:n=m
 ·subst h
  by_cases hl:n<l.length
  ·simp [hl]
  ·simp [hl]
 ·simp [h]
structure Fr (h h':List Box):Prop where
 len:h'.length=h.length
 box:∀ (i:Nat) (x:Box),h[i]?=some x→∃ y:Box,h'[i]?=some y∧y.alive=x.alive∧y.cells=x.cells∧(x.frozen=true→y.frozen=true)
theorem Fr.refl (h:List Box):Fr h h:=⟨rfl,fun _ x hx=>⟨x,hx,rfl,rfl,id⟩⟩
theorem Fr.trans {h1 h2 h3}(h:Fr h1 h2)(k:Fr h2 h3):Fr h1 h3:=⟨k.len.trans h.len,fun i x hx=>by
 obtain⟨y,hy,ya,yc,yf⟩:=h.box i x hx
 obtain⟨z,hz,za,zc,zf⟩:=k.box i y hy
 exact⟨z,hz,za.trans ya,zc.trans yc,fun q=>zf (yf q)⟩⟩
theorem Fr.back {h h'}(f:Fr h h'){i:Nat}{y:Box}(hy:h'[i]?=some y):∃ x:Box,h[i]?=some x∧y.alive=x.alive∧y.cells=x.cells∧(x.frozen=true→y.frozen=true):=by
 have hi:i<h'.length:=by
  rcases Nat.lt_or_ge i h'.length with q | q
  ·exact q
  ·rw[List.getElem?_eq_none q] at hy;cases hy
 have hi':i<h.length:=by rw[← f.len];exact hi
 have hx:h[i]?=some h[i]:=List.getElem?_eq_getElem hi'
 obtain⟨y',hy',r⟩:=f.box i _ hx
 rw[hy] at hy';cases hy'
 exact⟨_,hx,r⟩
theorem stab_fr {S0 ρ h h'}(f:Fr h h'){b:Nat}(hs:stab S0 ρ h b):stab S0 ρ h' b:=⟨hs.1,fun i y hy ya yf hb=>by
 obtain⟨x,hx,xa,_,xf⟩:=f.back hy
 exact hs.2 i x hx (xa ▸ ya) (by cases hxf:x.frozen with
  | false=>rfl
  | true=>rw[xf hxf] at yf;cases yf) hb⟩
theorem Lasts.fr {w S0 ρ h h'}(f:Fr h h'):Lasts w w (stab S0 ρ h) (stab S0 ρ h'):=⟨Nat.le_refl _,fun _ _ hs=>⟨stab_fr f hs,rfl⟩⟩
theorem OkH.fr {w0 S0 w ρ h h'}(k:OkH w0 S0 w ρ h)(f:Fr h h'):OkH w0 S0 w ρ h':=⟨k.below,{
 len:=k.heap.len.trans f.len.symm
 low:=k.heap.low
 inj:=fun i j x y β hx hy xa ya hi hj=>by
  obtain⟨x',hx',xa',_,_⟩:=f.back hx
  obtain⟨y',hy',ya',_,_⟩:=f.back hy
  exact k.heap.inj i j x' y' β hx' hy' (xa' ▸ xa) (ya' ▸ ya) hi hj
 box:=fun i y β hy ya hβ=>by
  obtain⟨x,hx,xa,xc,_⟩:=f.back hy
  obtain⟨vals,ty,h1,h2,h3⟩:=k.heap.box i x β hx (xa ▸ ya) hβ
  rw[xc]
  exact⟨vals,ty,h1,h2,h3.lasts (Lasts.fr f)⟩ }⟩
theorem RdD.fr {w S0 ρ h h' v d}(f:Fr h h')(hr:RdD w (stab S0 ρ h) ρ v d):RdD w (stab S0 ρ h') ρ v d :=
 hr.lasts (Lasts.fr f) (fun _ _ _ h=>h) (fun _ _ h=>h)
theorem bx_get {h:List Box}{i:Nat}(hi:(bx h i).alive=true):h[i]?=some (bx h i):=by
 unfold bx at *
 rw[nth_eq] at *
 cases hx:h[i]? with
 | none=>rw[hx] at hi;cases hi
 | some x=>rfl
theorem bx_of {h:List Box}{i:Nat}{x:Box}(hx:h[i]?=some x):bx h i=x:=by
 unfold bx;rw[nth_eq,hx];rfl
theorem Fr.bx {h h'}(f:Fr h h'){i:Nat}(hi:(bx h i).alive=true):(bx h' i).alive=true∧(bx h' i).cells=(bx h i).cells:=by
 obtain⟨y,hy,ya,yc,_⟩:=f.box i _ (bx_get hi)
 rw[bx_of hy]
 exact⟨ya.trans hi,yc⟩
theorem Fr.frz1 (h:List Box)(b:Nat):Fr h (setBox h b { Go.Proofs.YtkkbddkpggjgpaaGreatDoor.bx h b with frozen:=true }):=⟨by simp [setBox],fun i x hx=>by
 simp only [setBox,List.getElem?_set]
 by_cases hb:b=i
 ·subst hb
  have hl:b<h.length:=by
   rcases Nat.lt_or_ge b h.length with q | q
   ·exact q
   ·rw[List.getElem?_eq_none q] at hx;cases hx
  rw[if_pos rfl,if_pos hl]
  exact⟨_,rfl,by rw[bx_of hx],by rw[bx_of hx],fun _=>rfl⟩
 ·rw[if_neg hb];exact⟨x,hx,rfl,rfl,id⟩⟩
theorem Fr.frz:∀ (bs:List Nat) (h:List Box),Fr h (frz h bs)
 | [],h=>Fr.refl h
 | b::bs,h=>(Fr.frz1 h b).trans (Fr.frz bs _)
theorem frz1_frozen (h:List Box)(b:Nat){x:Box}(hx:(setBox h b { Go.Proofs.YtkkbddkpggjgpaaGreatDoor.bx h b with frozen:=true })[b]?=some x):x.frozen=true:=by
 simp only [setBox,List.getElem?_set,if_true] at hx
 split at hx
 ·cases hx;rfl
 ·cases hx
theorem frz_frozen:∀ (bs:List Nat) (h:List Box) (b:Nat) (x:Box),b∈bs→(frz h bs)[b]?=some x→x.frozen=true
 | c::bs,h,b,x,hb,hx=>by
  rcases List.mem_cons.1 hb with rfl | hb
  ·obtain⟨y,hy,_,_,yf⟩:=(Fr.frz bs (setBox h b { Go.Proofs.YtkkbddkpggjgpaaGreatDoor.bx h b with frozen:=true })).back hx
   exact yf (frz1_frozen h b hy)
  ·exact frz_frozen bs _ b x hb hx
theorem frz_other:∀ (bs:List Nat) (h:List Box) (b:Nat),b ∉ bs→(frz h bs)[b]?=h[b]?
 | [],_,_,_=>rfl
 | c::bs,h,b,hb=>by
  show (frz (setBox h c _) bs)[b]?=_
  rw[frz_other bs _ b (fun q=>hb (List.mem_cons_of_mem _ q))]
  simp only [setBox,List.getElem?_set]
  rw[if_neg (fun e=>hb (by rw[e];exact List.mem_cons_self))]
theorem Below.shapes {w w':World}(h:Below w.heap.size w w'):∀ b e n,w.shape? b=some (e,n)→w'.shape? b=some (e,n):=by
 intro b e n hs
 have hb:b<w.heap.size:=by
  rcases Nat.lt_or_ge b w.heap.size with q | q
  ·exact q
  ·simp [World.shape?,Array.getElem?_eq_none q] at hs
 simpa [World.shape?,h.block b hb] using hs
theorem OkH.grow {w0 S0 w w' ρ h}(k:OkH w0 S0 w ρ h)(hb:Below w.heap.size w w'):OkH w0 S0 w' ρ h:=⟨k.below.step hb,{
 len:=k.heap.len
 low:=fun i β hi=>⟨(k.heap.low i β hi).1,Nat.lt_of_lt_of_le (k.heap.low i β hi).2 hb.size⟩
 inj:=k.heap.inj
 box:=fun i x β hx xa hβ=>by
  obtain⟨vals,ty,h1,h2,h3⟩:=k.heap.box i x β hx xa hβ
  exact⟨vals,ty,(hb.block β (k.heap.low i β hβ).2).trans h1,h2,h3.lasts (Lasts.of_below hb _)⟩ }⟩
theorem RdD.grow {w w' S ρ v d}(hb:Below w.heap.size w w')(h:RdD w S ρ v d):RdD w' S ρ v d :=
 h.lasts (Lasts.of_below hb S) (Below.shapes hb) (fun _ _ h=>h)
def AllS (w:World)(S0:Nat→Prop)(ρ:List Nat):Prop:=(∀ b,w.heap.size≤b→S0 b)∧∀ (i β:Nat),ρ[i]?=some β→S0 β
theorem allS_of {w0 S0 w ρ h}(k:OkH w0 S0 w ρ h)(hS:∀ b,w0.own b→S0 b):AllS w S0 ρ :=
 ⟨fun b hb=>hS b (.inl (Nat.le_trans k.below.size hb)),fun i β hi=>hS β (k.heap.low i β hi).1⟩
theorem stab_new {w0 S0 w ρ h}(k:OkH w0 S0 w ρ h)(hS:AllS w S0 ρ):∀ b,w.heap.size≤b→stab S0 ρ h b:=fun b hb =>
 ⟨hS.1 b hb,fun i x _ _ _ hi=>by have:=(k.heap.low i b hi).2;omega⟩
theorem stab_frozen {w0 S0 w ρ h}(k:OkH w0 S0 w ρ h)(hS:AllS w S0 ρ){i β:Nat}{x:Box}(hx:h[i]?=some x)(xa:x.alive=true)(xf:x.frozen=true)
  (hβ:ρ[i]?=some β):stab S0 ρ h β :=
 ⟨hS.2 i β hβ,fun j y hy ya yf hj=>by
  have:=k.heap.inj i j x y β hx hy xa ya hβ hj
  subst this
  rw[hx] at hy;cases hy
  rw[xf] at yf;cases yf⟩
theorem OkH.cells {w0 S0 w ρ h}(k:OkH w0 S0 w ρ h){i β:Nat}(hi:(bx h i).alive=true)(hβ:ρ[i]?=some β) :
  ∃ vals:List Value,RdL w (stab S0 ρ h) vals (bx h i).cells∧∀ j v,vals[j]?=some v→w.cell? ⟨β,j,none⟩=some v∧w.frozen? ⟨β,j,none⟩=false:=by
 obtain⟨vals,ty,h1,h2,h3⟩:=k.heap.box i _ β (bx_get hi) hi hβ
 refine⟨_,h3,fun j v hv=>?_⟩
 rw[List.getElem?_take] at hv
 split at hv
 ·simp only [Array.getElem?_toList] at hv
  constructor
  ·simp [World.cell?,h1,hv]
  ·simp [World.frozen?,h1]
 ·cases hv
end Go.Proofs.YtkkbddkpggjgpaaGreatDoor

namespace Go.Proofs.YtkkbddkpggjgpaaGreatDoor
open Go.RowKit
variable {P:Program}
theorem size_of {t:TypeId}{n:Nat}(h:sizeT P t=n)(hn:0<n):∃ i,P.info? t=some i∧i.size=n:=by
 unfold sizeT Program.cellsOf at h
 cases hi:P.info? t with
 | none=>rw[hi] at h;simp at h;omega
 | some i=>rw[hi] at h;exact⟨i,rfl,by simpa using h⟩
theorem info_of_under {t:TypeId}{d:TypeDesc}(h:P.underlying t=some d):∃ i,P.info? t=some i∧i.size=sizeT P t:=by
 unfold Program.underlying at h
 unfold sizeT Program.cellsOf
 cases hi:P.info? t with
 | none=>rw[hi] at h;cases h
 | some i=>exact⟨i,rfl,by simp⟩
theorem run_under {t:TypeId}{d:TypeDesc}(h:P.underlying t=some d)(w:World):(underlying t).run P w=.ok d w:=by
 simp [underlying,h]
theorem run_sizeOf {t:TypeId}{n:Nat}(h:sizeT P t=n)(hn:0<n)(w:World):(sizeOf t).run P w=.ok n w:=by
 obtain⟨i,hi,hs⟩:=size_of h hn
 simp [sizeOf,typeInfo,hi,hs]
theorem kind_true {t:TypeId}(h:kindT P t=some true):∃ d,P.underlying t=some d∧d.isRow=true:=by
 unfold kindT at h
 split at h
 ·rename_i q;exact⟨_,q,rfl⟩
 ·rename_i q;exact⟨_,q,rfl⟩
 ·cases h
 ·cases h
theorem kind_false {t:TypeId}(h:kindT P t=some false)(w:World):(isAgg t).run P w=.ok false w:=by
 unfold kindT at h
 split at h
 ·cases h
 ·cases h
 ·rename_i d h1 h2 q
  unfold isAgg
  rw[Sem.run_bind,run_under q]
  cases d<;>first | rfl | (exact (h1 _ rfl).elim) | (exact (h2 _ _ rfl).elim)
 ·cases h
theorem blt_iff {a b:Nat}:Nat.blt a b=true↔a<b:=by
 unfold Nat.blt
 rw[Nat.ble_eq]
 omega
theorem kindEq_eq {k k':IntKind}(h:kindEq k k'=true):k=k':=by
 cases k<;>cases k'<;>first | rfl | (simp [kindEq] at h)
theorem isIntK_eq {k:IntKind}{v:V}(h:isIntK k v=true):v=.int k (intV v):=by
 cases v<;>first | (rw[kindEq_eq (show kindEq k _=true from h)];rfl) | cases h
theorem load_run {t:TypeId}{cells:List V}{off:Nat}{v:V}(hl:loadC P t cells off=some (true,v)){w:World}{S:Nat→Prop}{b o:Nat}{vals:List Value}
  (hr:RdL w S vals cells) (hv:∀ j u,vals[j]?=some u→w.cell? ⟨b,o+j,none⟩=some u) :
  ∃ x,(Instr.loadAt t (.pointer (some ⟨b,o+off,none⟩))).run P w=.ok x w∧Rd w S x v:=by
 unfold loadC at hl
 split at hl
 ·rename_i hk
  obtain⟨d,hd,hrow⟩:=kind_true hk
  obtain⟨i,hi,hs⟩:=info_of_under hd
  simp only [Option.some.injEq,Prod.mk.injEq,Nat.ble_eq] at hl
  obtain⟨hle,rfl⟩:=hl
  have hlen:((vals.drop off).take (sizeT P t)).length=sizeT P t:=by
   have:=hr.length
   simp;omega
  refine⟨_,run_loadAt_mid w b (o+off) t ((vals.drop off).take (sizeT P t)) d ?_ hd hrow (by simp [hi,hs,hlen]),.agg ((hr.drop off).take _)⟩
  intro j u hu
  rw[List.getElem?_take] at hu
  split at hu
  ·rw[List.getElem?_drop] at hu
   have:=hv _ _ hu
   rwa [show o+(off+j)=o+off+j by omega] at this
  ·cases hu
 ·rename_i hk
  split at hl
  ·simp only [Option.some.injEq,Prod.mk.injEq,Bool.and_eq_true] at hl
   obtain⟨⟨hlt,hi⟩,rfl⟩:=hl
   have hlt:=blt_iff.1 hlt
   obtain⟨u,hu,hru⟩:=hr.get (nth_lt .unk hlt)
   rw[isIntK_eq hi] at hru
   refine⟨u,?_,hru⟩
   simp [Instr.loadAt,Instr.sureAddr,loadVar,kind_false hk,hv _ _ hu]
  ·simp only [Option.some.injEq,Prod.mk.injEq] at hl
   obtain⟨hlt,rfl⟩:=hl
   have hlt:=blt_iff.1 hlt
   obtain⟨u,hu,hru⟩:=hr.get (nth_lt .unk hlt)
   refine⟨u,?_,hru⟩
   simp [Instr.loadAt,Instr.sureAddr,loadVar,kind_false hk,hv _ _ hu]
 ·cases hl
theorem cond_some {α:Type}{b:Bool}{x:Option α}{y:α}(h:cond b x none=some y):b=true∧x=some y:=by
 cases b
 ·cases h
 ·exact⟨rfl,h⟩
theorem eqGuard_int {op:BinOp}{t:TypeId}{x y:Operand}{k k':IntKind}{a b:Int}(w:World):(eqGuard op t x y (.int k a) (.int k' b)).run P w=.ok () w:=by
 unfold eqGuard
 split<;>rfl
theorem eqGuard_bool {op:BinOp}{t:TypeId}{x y:Operand}{a b:Bool}(w:World):(eqGuard op t x y (.bool a) (.bool b)).run P w=.ok () w:=by
 unfold eqGuard
 split<;>rfl
theorem wrap_fits {k:IntKind}{n:Int}(h:fits k n=true):k.wrap n=n:=by
 simp only [fits,Bool.and_eq_true,iLe,decide_eq_true_eq] at h
 unfold IntKind.wrap
 cases k<;>simp [IntKind.bits,IntKind.signed,IntKind.min,IntKind.max] at h ⊢<;>omega
theorem binW_run {op:BinOp}{xt:TypeId}{xo yo:Operand}{dx dy:D}{k:IntKind}{n:Int}(hb:binW op dx dy=some (true,k,n)){w:World}{S:Nat→Prop}{ρ:List Nat}{x y:Value}
  (hx:RdD w S ρ x dx) (hy:RdD w S ρ y dy):(do eqGuard op xt xo yo x y;binOp op xt x y:Sem Value).run P w=.ok (.int k (k.wrap n)) w:=by
 unfold binW at hb
 split at hb
 ·rename_i k a k' b
  obtain rfl:=hx.int_inv
  obtain rfl:=hy.int_inv
  rw[Sem.run_bind,eqGuard_int,Result.andThen_ok]
  cases op<;>simp only [Option.some.injEq,Prod.mk.injEq,Bool.and_eq_true,reduceCtorEq] at hb
  ·obtain⟨hk,rfl,rfl⟩:=hb
   obtain rfl:=kindEq_eq hk
   simp [binOp,Op.intArith]
  ·obtain⟨hk,rfl,rfl⟩:=hb
   obtain rfl:=kindEq_eq hk
   simp [binOp,Op.intArith]
  ·obtain⟨hk,rfl,rfl⟩:=hb
   obtain rfl:=kindEq_eq hk
   simp [binOp,Op.intArith]
  ·obtain⟨⟨hk,hne⟩,rfl,rfl⟩:=hb
   obtain rfl:=kindEq_eq hk
   simp only [binOp,Op.intDiv]
   rw[if_neg (by simp),if_neg (by simpa [iNe] using hne)]
   rfl
  ·obtain⟨hle,rfl,rfl⟩:=hb
   have hle:0≤b:=by simpa [iLe] using hle
   simp only [binOp,Op.shift]
   rw[if_neg (by omega)]
   rfl
 ·cases hb
theorem unW_run {op:UnOp}{dx:D}{k:IntKind}{n:Int}(hb:unW op dx=some (true,k,n)){w:World}{S:Nat→Prop}{ρ:List Nat}{x:Value}(hx:RdD w S ρ x dx) :
  (Op.unary op x).run P w=.ok (.int k (k.wrap n)) w:=by
 unfold unW at hb
 split at hb
 ·obtain rfl:=hx.int_inv
  cases op<;>simp only [Option.some.injEq,Prod.mk.injEq,reduceCtorEq] at hb
  obtain⟨_,rfl,rfl⟩:=hb
  simp [Op.unary,Op.intArith]
 ·cases hb
theorem convW_run {src dst:TypeId}{dx:D}{k:IntKind}{n:Int}(hb:convW P src dst dx=some (true,k,n)){w:World}{S:Nat→Prop}{ρ:List Nat}{x:Value}(hx:RdD w S ρ x dx) :
  (convert src dst x).run P w=.ok (.int k (k.wrap n)) w:=by
 unfold convW at hb
 split at hb
 ·obtain rfl:=hx.int_inv
  split at hb
  ·rename_i h1 h2
   simp only [Option.some.injEq,Prod.mk.injEq] at hb
   obtain⟨_,rfl,rfl⟩:=hb
   unfold convert
   rw[Sem.run_bind,run_under h1,Result.andThen_ok,Sem.run_bind,run_under h2,Result.andThen_ok]
   simp [Conv.intToInt]
  ·cases hb
 ·cases hb
theorem bin_run {op : BinOp} {xt : TypeId} {xo yo : Operand} {dx dy : D} {v : V} (hb : binV P op xt dx dy = some (true, v)) {w : World} {S : Nat → Prop} {ρ : List Nat} {x y : Value}
    (hx : RdD w S ρ x dx) (hy : RdD w S ρ y dy) :
    ∃ u, (do eqGuard op xt xo yo x y; binOp op xt x y : Sem Value).run P w = .ok u w ∧ Rd w S u v := by
  unfold binV at hb
  split at hb
  · rename_i k a k' b
    obtain rfl := hx.int_inv
    obtain rfl := hy.int_inv
    rw [Sem.run_bind, eqGuard_int, Result.andThen_ok]
    split at hb
    · simp only [Option.some.injEq, Prod.mk.injEq] at hb
      obtain ⟨hle, rfl⟩ := hb
      have hle : 0 ≤ b := by simpa [iLe] using hle
      refine ⟨_, ?_, .int⟩
      simp only [binOp, Op.shift]
      rw [if_neg (by omega)]
      rfl
    · rename_i h2
      obtain ⟨hk, hb2⟩ := cond_some hb
      have hk' := kindEq_eq hk
      subst hk'
      clear hb hk
      revert hb2
      intro hb
      cases op <;> first
        | exact (h2 rfl).elim
        | (simp only [binI, Option.some.injEq, Prod.mk.injEq] at hb
           obtain ⟨hc, rfl⟩ := hb
           first
             | (refine ⟨_, ?_, .int⟩; simp only [binOp, Op.intDiv, wRem]; rw [if_neg (by simp), if_neg (by simpa [iNe] using hc)]; rfl)
             | (refine ⟨_, ?_, .int⟩; simp [binOp, Op.intBits, wAnd, wOr, wXor, wAndNot]; done)
             | (refine ⟨_, ?_, .bool⟩; simp [binOp, Op.intCmp, iEq, iNe, iLt, iLe, iGt, iGe]; done))
        | (simp [binI] at hb)
        | (simp [binOp]; done)
  · rename_i a b
    obtain rfl := hx.bool_inv
    obtain rfl := hy.bool_inv
    rw [Sem.run_bind, eqGuard_bool, Result.andThen_ok]
    split at hb
    · rename_i hu
      have hq : (Op.equal xt (.bool a) (.bool b)).run P w = .ok (a == b) w := by
        unfold Op.equal Op.maxDepth Op.equalIn
        rw [Sem.run_bind, run_under hu, Result.andThen_ok]
        rfl
      cases op <;> first
        | (simp only [Option.some.injEq, Prod.mk.injEq] at hb
           obtain ⟨_, rfl⟩ := hb
           refine ⟨_, ?_, .bool⟩
           simp [binOp, hq, bEq])
        | cases hb
    · cases hb
  · cases hb
theorem un_run {op : UnOp} {dx : D} {v : V} (hb : unV op dx = some (true, v)) {w : World} {S : Nat → Prop} {ρ : List Nat} {x : Value} (hx : RdD w S ρ x dx) :
    ∃ u, (Op.unary op x).run P w = .ok u w ∧ Rd w S u v := by
  unfold unV at hb
  split at hb
  · rename_i k n
    obtain rfl := hx.int_inv
    cases op <;> first
      | (simp only [Option.some.injEq, Prod.mk.injEq] at hb
         obtain ⟨_, rfl⟩ := hb
         refine ⟨_, ?_, .int⟩
         simp only [Op.unary, Op.intBits, wXor]
         cases k.signed <;> rfl)
      | cases hb
  · rename_i b
    obtain rfl := hx.bool_inv
    cases op <;> first
      | (simp only [Option.some.injEq, Prod.mk.injEq] at hb
         obtain ⟨_, rfl⟩ := hb
         exact ⟨_, rfl, .bool⟩)
      | cases hb
  · cases hb
end Go.Proofs.YtkkbddkpggjgpaaGreatDoor
namespace Go.Proofs.YtkkbddkpggjgpaaGreatDoor
open Go.RowKit
variable {P:Program}
theorem part_run {t:TypeId}{l:List V}{off:Nat}{v:V}(hl:partV P t l off=some (true,v)){w:World}{S:Nat→Prop}{arr:List Value}(hr:RdL w S arr l) :
  ∃ x,(part t arr.toArray off).run P w=.ok x w∧Rd w S x v:=by
 unfold partV at hl
 split at hl
 ·rename_i hk
  obtain⟨d,hd,hrow⟩:=kind_true hk
  obtain⟨i,hi,hs⟩:=info_of_under hd
  simp only [Option.some.injEq,Prod.mk.injEq,Nat.ble_eq] at hl
  obtain⟨hle,rfl⟩:=hl
  have hagg:(isAgg t).run P w=.ok true w:=by
   unfold isAgg
   rw[Sem.run_bind,run_under hd w]
   cases d<;>simp_all
  refine⟨.agg ((arr.drop off).take (sizeT P t)).toArray,?_,.agg ((hr.drop off).take _)⟩
  simp [part,hagg,sizeOf,typeInfo,hi,hs]
 ·rename_i hk
  simp only [Option.some.injEq,Prod.mk.injEq] at hl
  obtain⟨hlt,rfl⟩:=hl
  obtain⟨u,hu,hru⟩:=hr.get (nth_lt .unk (blt_iff.1 hlt))
  refine⟨u,?_,hru⟩
  have hu':arr.toArray[off]?=some u:=by simpa using hu
  simp [part,kind_false hk,hu']
 ·cases hl
theorem offF_run {s f o:Nat}{t:TypeId}(h:offF P s f=some (o,t)):∃ fs x,P.underlying s=some (.struct fs)∧fs[f]?=some x∧x.offset=o∧x.type=t∧0<sizeT P t:=by
 unfold offF at h
 split at h
 ·rename_i fs hu
  split at h
  ·rename_i x hx
   obtain⟨hb,h⟩:=cond_some h
   simp only [Option.some.injEq,Prod.mk.injEq] at h
   obtain⟨rfl,rfl⟩:=h
   exact⟨fs,x,hu,hx,rfl,rfl,blt_iff.1 hb⟩
  ·cases h
 ·cases h
theorem fieldAt_run {s f o:Nat}{t:TypeId}(h:offF P s f=some (o,t))(w:World)(b off:Nat) :
  (Instr.fieldAt s (.pointer (some ⟨b,off,none⟩)) f).run P w=.ok (.pointer (some ⟨b,off+o,none⟩)) w:=by
 obtain⟨fs,x,hu,hx,rfl,rfl,hs⟩:=offF_run h
 have hz:(sizeOf x.type).run P w=.ok (sizeT P x.type) w:=run_sizeOf rfl hs w
 simp [Instr.fieldAt,run_under hu,hx,Instr.sureAddr,fieldPlace,hz,Nat.ne_of_gt hs,Addr.add_mid]
theorem fieldAddr_run {s f:Nat}{dx d:D}(h:fieldAddrD P s f dx=some d){w:World}{S:Nat→Prop}{ρ:List Nat}{x:Value}(hx:RdD w S ρ x dx) :
  ∃ u,(Instr.fieldAt s x f).run P w=.ok u w∧RdD w S ρ u d:=by
 unfold fieldAddrD at h
 split at h
 ·obtain⟨β,hβ,rfl⟩:=hx.own_inv
  split at h
  ·rename_i o t ho
   cases h
   exact⟨_,fieldAt_run ho w _ _,.own hβ⟩
  ·cases h
 ·rename_i cells off
  have hx:=hx.val_inv
  split at h
  ·rename_i o t ho
   cases h
   cases hx with
   | pt h1 h2 h3 h4 =>
    refine⟨_,fieldAt_run ho w _ _,.val ?_⟩
    rw[Nat.add_assoc]
    exact .pt h1 h2 h3 h4
  ·cases h
 ·cases h
theorem field_run {s f:Nat}{dx:D}{v:V}(h:fieldV P s f dx=some (true,v)){w:World}{S:Nat→Prop}{ρ:List Nat}{x:Value}(hx:RdD w S ρ x dx) :
  ∃ u,(Instr.field s x f).run P w=.ok u w∧Rd w S u v:=by
 unfold fieldV at h
 split at h
 ·obtain⟨arr,rfl,hr⟩:=hx.val_inv.agg_inv
  split at h
  ·rename_i o t ho
   obtain⟨fs,y,hu,hy,rfl,rfl,hs⟩:=offF_run ho
   obtain⟨u,h1,h2⟩:=part_run h hr
   exact⟨u,by simp [Instr.field,run_under hu,hy,asAgg,h1],h2⟩
  ·cases h
 ·cases h
theorem cells_rd {w:World}{S:Nat→Prop}{u:Value}{v:V}(h:Rd w S u v)(hc:okC v=true):RdL w S u.cells.toList (cellsV v):=by
 cases h with
 | agg h=>simpa [Value.cells,cellsV] using h
 | unk=>simp [okC,isCell] at hc
 | tup h=>simp [okC,isCell] at hc
 | bool=>exact .cons .bool .nil
 | int=>exact .cons .int .nil
 | nil=>exact .cons .nil .nil
 | nilsl=>exact .cons .nilsl .nil
 | sl h1 h2 h3 h4 h5 h6=>exact .cons (.sl h1 h2 h3 h4 h5 h6) .nil
 | pt h1 h2 h3 h4=>exact .cons (.pt h1 h2 h3 h4) .nil
 | clos h=>exact .cons (.clos h) .nil
 | bnd h=>exact .cons (.bnd h) .nil
def spliceW (c:List Value)(off:Nat):List Value→List Value
 | []=>c
 | v::vs=>spliceW (c.set off v) (off+1) vs
theorem splice_rd {w:World}{S:Nat→Prop}:∀ {vs:List Value} {xs:List V} {c:List Value} {d:List V} {off:Nat},RdL w S c d→RdL w S vs xs→RdL w S (spliceW c off vs) (splice d off xs)
 | [],[],_,_,_,hc,_=>hc
 | [],_::_,_,_,_,_,h=>nomatch h
 | _::_,[],_,_,_,_,h=>nomatch h
 | _::_,_::_,_,_,off,hc,.cons h1 h2=>by
  unfold spliceW splice
  exact splice_rd (hc.set h1 off) h2
theorem fold_splice (off:Nat):∀ (l:List Value) (k:Nat) (cs:Array Value),
  ((l.zipIdx k).foldl (fun (cs:Array Value) (x:Value × Nat)=>cs.setIfInBounds (off+x.2) x.1) cs).toList=spliceW cs.toList (off+k) l
 | [],_,_=>rfl
 | v::l,k,cs=>by
  simp only [List.zipIdx_cons,List.foldl_cons]
  rw[fold_splice off l (k+1)]
  simp [spliceW,Nat.add_assoc]
inductive RdP (w:World) (S:Nat→Prop):List (Nat × Value)→List (Nat × V)→Prop
 | nil:RdP w S [] []
 | cons {i u v us vs}:Rd w S u v→RdP w S us vs→RdP w S ((i,u)::us) ((i,v)::vs)
theorem fill_run {w:World}{S:Nat→Prop}(place:Nat→Option (Nat × Nat)):∀ {us:List (Nat × Value)} {vs:List (Nat × V)} {cells:Array Value} {zs l:List V},
  RdL w S cells.toList zs→RdP w S us vs→fillV place zs vs=some l→∃ cells',Instr.fill place cells us=some cells'∧RdL w S cells'.toList l
 | [],[],cells,zs,l,hc,_,h=>by cases h;exact⟨cells,rfl,hc⟩
 | [],_::_,_,_,_,_,h,_=>nomatch h
 | _::_,[],_,_,_,_,h,_=>nomatch h
 | (i,u)::us,(_,v)::vs,cells,zs,l,hc,.cons h1 h2,h=>by
  unfold fillV at h
  cases hp:place i with
  | none=>rw[hp] at h;cases h
  | some p =>
   obtain⟨off,size⟩:=p
   rw[hp] at h
   obtain⟨hb,h⟩:=cond_some h
   simp only [Bool.and_eq_true,Nat.beq_eq,Nat.ble_eq] at hb
   obtain⟨⟨hb1,hb2⟩,hb3⟩:=hb
   have hu:=cells_rd h1 hb1
   have hus:u.cells.size=size:=by have:=hu.length;simp at this;omega
   have hcs:cells.size=zs.length:=by have:=hc.length;simpa using this
   have e:(u.cells.zipIdx.foldl (fun (cs:Array Value) (x:Value × Nat)=>cs.setIfInBounds (off+x.2) x.1) cells).toList=spliceW cells.toList off u.cells.toList:=by
    rw[← Array.foldl_toList,Array.toList_zipIdx]
    exact fold_splice off _ 0 cells
   obtain⟨cells',hf,hr⟩:=fill_run place (cells:=u.cells.zipIdx.foldl (fun (cs:Array Value) (x:Value × Nat)=>cs.setIfInBounds (off+x.2) x.1) cells) (by rw[e];exact splice_rd hc hu) h2 h
   refine⟨cells',?_,hr⟩
   unfold Instr.fill
   rw[hp]
   simp only
   rw[if_neg (by simp [hus];omega)]
   exact hf
theorem zero_rd {w:World}{S:Nat→Prop}(v:Value):Rd w S v (cellV v):=by
 unfold cellV
 split<;>constructor
theorem zeros_rd {w:World}{S:Nat→Prop}(l:List Value):RdL w S l (l.map cellV):=by
 induction l with
 | nil=>exact .nil
 | cons v l ih=>exact .cons (zero_rd v) ih
theorem const_rd {w:World}{S:Nat→Prop}(v:Value):Rd w S v (constV v):=by
 unfold constV
 split
 ·rename_i cs
  have:=@Rd.agg w S cs.toList (cs.toList.map cellV) (zeros_rd _)
  simpa using this
 ·exact zero_rd v
theorem zeroV_run {t:TypeId}{zs:List V}(h:zeroV P t=some zs)(w:World):∃ z,(zeroValue t).run P w=.ok z w∧zs=z.cells.toList.map cellV ∧
  ∃ i,P.info? t=some i∧i.zero=some z:=by
 unfold zeroV at h
 split at h
 ·rename_i i hi
  split at h
  ·rename_i v hv
   cases h
   exact⟨v,by simp [zeroValue,typeInfo,hi,hv],rfl,i,hi,hv⟩
  ·cases h
 ·cases h
theorem mapM_run {α β:Type}(w:World)(f:α→Sem β)(g:α→β):∀ (l:List α),(∀ x∈l,(f x).run P w=.ok (g x) w)→(l.mapM f).run P w=.ok (l.map g) w
 | [],_=>rfl
 | x::l,h=>by
  rw[List.mapM_cons,Sem.run_bind,h x (by simp),Result.andThen_ok,Sem.run_bind,mapM_run w f g l (fun y hy=>h y (by simp [hy])),Result.andThen_ok]
  rfl
theorem vals_rd {w:World}{S:Nat→Prop}{ρ:List Nat}{ev:Operand→Value}{g:Operand→D}:∀ {parts:List (Nat × Operand)} {ps:List (Nat × V)},
  (∀ x∈parts,RdD w S ρ (ev x.2) (g x.2))→valsD (parts.map fun p=>(p.1,g p.2))=some ps→RdP w S (parts.map fun p=>(p.1,ev p.2)) ps
 | [],ps,_,h=>by cases h;exact .nil
 | (i,x)::parts,ps,hx,h=>by
  simp only [List.map_cons] at h ⊢
  have hx0:=hx (i,x) (by simp)
  generalize g x=gx at h hx0
  cases gx with
  | val v =>
   simp only [valsD] at h
   split at h
   ·rename_i l hl
    cases h
    exact .cons hx0.val_inv (vals_rd (fun y hy=>hx y (by simp [hy])) hl)
   ·cases h
  | unk=>cases h
  | own=>cases h
  | osl=>cases h
  | clo=>cases h
  | oslp=>cases h
theorem build_run {t:TypeId}{parts:Array (Nat × Operand)}{v:V}{g:Operand→D}(h:buildV P t (parts.toList.map fun p=>(p.1,g p.2))=some (true,v)){w:World}{S:Nat→Prop}
  {ρ:List Nat} {ev:Operand→Value} (hx:∀ x∈parts.toList,RdD w S ρ (ev x.2) (g x.2)) :
  ∃ u,(Instr.build t (parts.map fun (i,x)=>(i,ev x))).run P w=.ok u w∧Rd w S u v:=by
 unfold buildV at h
 split at h
 ·rename_i zs ps pl hz hp hpl
  split at h
  ·rename_i l hf
   simp only [Option.some.injEq,Prod.mk.injEq,true_and] at h
   subst h
   obtain⟨z,hz1,rfl,_⟩:=zeroV_run hz w
   have hps:=vals_rd hx hp
   obtain⟨cells',h1,h2⟩:=fill_run pl (zeros_rd z.cells.toList) hps hf
   have e:(parts.map fun (i,x)=>(i,ev x)).toList=parts.toList.map fun p=>(p.1,ev p.2):=by simp
   refine⟨.agg cells',?_,by simpa using Rd.agg h2⟩
   unfold placeB at hpl
   unfold Instr.build
   simp only [Sem.run_bind,hz1,Result.andThen_ok]
   split at hpl
   ·rename_i fs hu
    obtain⟨hb,hpl⟩:=cond_some hpl
    cases hpl
    have hall:∀ x∈fs.toList,0<sizeT P x.type:=fun x hx=>blt_iff.1 (List.all_eq_true.1 hb x hx)
    have hm:(fs.mapM (fun f=>do pure (f.offset,← sizeOf f.type):Field→Sem (Nat × Nat))).run P w=.ok (fs.map fun f=>(f.offset,sizeT P f.type)) w:=by
     rw[Array.mapM_eq_mapM_toList,Sem.run_map,mapM_run w _ (fun f=>(f.offset,sizeT P f.type))]
     ·simp only [Result.andThen_ok]
      congr 1
      apply Array.ext'
      simp
     ·intro x hx
      simp [run_sizeOf rfl (hall x hx)]
    simp only [run_under hu,Result.andThen_ok,Sem.run_bind,hm]
    have e2:(fun i:Nat=>(fs.map fun (f:Field)=>(f.offset,sizeT P f.type))[i]?)=fun i:Nat=>(fs[i]?).map fun (x:Field)=>(x.offset,sizeT P x.type):=by
     funext i
     rw[Array.getElem?_map]
    rw[e,e2,h1]
    rfl
   ·rename_i n el hu
    obtain⟨hb,hpl⟩:=cond_some hpl
    cases hpl
    simp only [run_under hu,Result.andThen_ok,Sem.run_bind,run_sizeOf (P:=P) (t:=el) rfl (blt_iff.1 hb)]
    rw[e,h1]
    rfl
   ·cases hpl
  ·cases h
 ·cases h
end Go.Proofs.YtkkbddkpggjgpaaGreatDoor
namespace Go.Proofs.YtkkbddkpggjgpaaGreatDoor
open Go.RowKit
variable {P:Program}
theorem inB_iff {i:Int}{n:Nat}:inB i n=true↔0≤i∧i<n:=by
 simp [inB,iLe,iLt]
theorem mul_cond (n sz:Nat):(cond (Nat.beq sz 1) n (n*sz))=n*sz:=by
 cases h:Nat.beq sz 1
 ·rfl
 ·rw[Nat.beq_eq] at h;subst h;simp
theorem index_run {t:TypeId}{dx di:D}{v:V}(h:indexV P t dx di=some (true,v)){w:World}{S:Nat→Prop}{ρ:List Nat}{x i:Value}(hx:RdD w S ρ x dx)(hi:RdD w S ρ i di) :
  ∃ u,(Instr.index t x i).run P w=.ok u w∧Rd w S u v:=by
 unfold indexV at h
 split at h
 ·rename_i l k i
  obtain⟨arr,rfl,hr⟩:=hx.val_inv.agg_inv
  obtain rfl:=hi.int_inv
  split at h
  ·rename_i n e hu
   obtain⟨hb,h⟩:=cond_some h
   split at h
   ·rename_i c v' hp
    simp only [Option.some.injEq,Prod.mk.injEq,Bool.and_eq_true] at h
    obtain⟨⟨hin,rfl⟩,rfl⟩:=h
    obtain⟨u,h1,h2⟩:=part_run hp hr
    refine⟨u,?_,h2⟩
    have hin:=inB_iff.1 hin
    simp [Instr.index,asIntOf,run_under hu,hin,run_sizeOf (P:=P) (t:=e) rfl (blt_iff.1 hb),h1]
   ·cases h
  ·cases h
 ·cases h
theorem slen_eq {sz:Nat}{cells:List V}{n:Nat}(hs:0<sz)(h:cells.length=n*sz):slen sz cells=n:=by
 unfold slen
 split
 ·omega
 ·rw[h];exact Nat.mul_div_cancel n hs
theorem indexAt_run {t e:TypeId}{k:IntKind}{i:Int}{n cap sz b o:Nat}(hu:P.underlying t=some (.slice e))(hs:sizeT P e=sz)(hpos:0<sz)(h0:0≤i)(h1:i<n)(w:World) :
  (Instr.indexAt t (.slice (some ⟨b,o,none⟩) n cap) (.int k i)).run P w=.ok (.pointer (some ⟨b,o+i.toNat*sz,none⟩)) w:=by
 simp [Instr.indexAt,asIntOf,run_under hu,h0,h1,run_sizeOf hs hpos,Addr.add_mid]
theorem indexAddr_run {t:TypeId}{dx di d:D}(h:indexAddrD P t dx di=some (true,d)){w:World}{S:Nat→Prop}{ρ:List Nat}{x i:Value}(hx:RdD w S ρ x dx)(hi:RdD w S ρ i di) :
  ∃ u,(Instr.indexAt t x i).run P w=.ok u w∧RdD w S ρ u d:=by
 unfold indexAddrD at h
 split at h
 ·rename_i sz cells k i
  obtain rfl:=hi.int_inv
  split at h
  ·rename_i e hu
   obtain⟨hb,h⟩:=cond_some h
   simp only [Bool.and_eq_true,Nat.beq_eq] at hb
   simp only [Option.some.injEq,Prod.mk.injEq] at h
   obtain⟨hin,rfl⟩:=h
   have hpos:=blt_iff.1 hb.2
   have hin:=inB_iff.1 hin
   have hx:=hx.val_inv
   cases hx with
   | nilsl=>simp only [slen_eq hpos (show ([]:List V).length=0*sz by simp)] at hin;omega
   | sl g1 g2 g3 g4 g5 g6 =>
    rename_i b o n cap vals
    rw[slen_eq hpos g4] at hin
    refine⟨_,indexAt_run hu hb.1.symm hpos hin.1 hin.2 w,.val ?_⟩
    rw[mul_cond]
    exact .pt g1 g2 g5 g6
  ·cases h
 ·rename_i b off len sz k i
  obtain rfl:=hi.int_inv
  split at h
  ·rename_i e hu
   obtain⟨hb,h⟩:=cond_some h
   simp only [Bool.and_eq_true,Nat.beq_eq] at hb
   simp only [Option.some.injEq,Prod.mk.injEq] at h
   obtain⟨hin,rfl⟩:=h
   have hpos:=blt_iff.1 hb.2
   have hin:=inB_iff.1 hin
   cases hx with
   | osl g1 g2 g3 g4 =>
    refine⟨_,indexAt_run hu hb.1.symm hpos hin.1 hin.2 w,?_⟩
    rw[mul_cond]
    exact .own g1
  ·cases h
 ·rename_i b off k i
  obtain rfl:=hi.int_inv
  obtain⟨β,hβ,rfl⟩:=hx.own_inv
  split at h
  ·rename_i n e hu
   obtain⟨hb,h⟩:=cond_some h
   simp only [Bool.and_eq_true] at hb
   simp only [Option.some.injEq,Prod.mk.injEq] at h
   obtain⟨hin,rfl⟩:=h
   have hin:=inB_iff.1 hin
   have hpos:=blt_iff.1 hb.1
   refine⟨_,?_,.own hβ⟩
   simp [Instr.indexAt,asIntOf,run_under hu,hin.1,hin.2,run_sizeOf (P:=P) (t:=e) rfl hpos,Addr.add_mid,Instr.sureAddr]
  ·cases h
 ·cases h
theorem sliceBound_run (k:IntKind)(i:Int)(y:Nat)(code:BoundsCode)(h0:0≤i)(h1:i≤y)(w:World):(Instr.sliceBound (.int k i) y code).run P w=.ok i.toNat w:=by
 simp [Instr.sliceBound,asIntOf,h0,h1]
theorem bound_val {d:Option D}{dflt l:Int}{w:World}{S:Nat→Prop}{ρ:List Nat}{v:Option Value}(h:boundD d dflt=some l)
  (r:∀ x,d=some x→∃ u,v=some u∧RdD w S ρ u x) (n:d=none→v=none):(v=none∧l=dflt)∨∃ k,v=some (.int k l):=by
 unfold boundD at h
 split at h
 ·cases h;exact .inl ⟨n rfl,rfl⟩
 ·cases h
  obtain⟨u,rfl,hu⟩:=r _ rfl
  obtain rfl:=hu.int_inv
  exact .inr ⟨_,rfl⟩
 ·cases h
theorem bounds_run {l m:Int}{len cap:Nat}(w:World){vl vh:Option Value}(hcap:len≤cap)
  (hl:(vl=none∧l=0)∨∃ k,vl=some (.int k l)) (hm:(vh=none∧m=len)∨∃ k,vh=some (.int k m)) (h0:0≤l) (h1:l≤m) (h2:m≤len) :
  (Instr.sliceBounds true len cap vl vh none).run P w=.ok (l.toNat,m.toNat,cap) w:=by
 unfold Instr.sliceBounds
 rcases hl with ⟨rfl,rfl⟩ | ⟨kl,rfl⟩<;>rcases hm with ⟨rfl,rfl⟩ | ⟨km,rfl⟩
 ·simp
 ·simp [sliceBound_run (P:=P) km m cap _ (by omega) (by omega) w]
 ·simp [sliceBound_run (P:=P) kl l len _ h0 (by omega) w]
 ·simp [sliceBound_run (P:=P) km m cap _ (by omega) (by omega) w,sliceBound_run (P:=P) kl l m.toNat _ h0 (by omega) w]
theorem lenD_sl {sz:Nat}{cells:List V}{n:Nat}(h:lenD (.val (.sl sz cells))=some n):0<sz∧n=slen sz cells:=by
 obtain⟨hb,h⟩:=cond_some h
 exact⟨blt_iff.1 hb,by cases h;rfl⟩
theorem slice_run {t:TypeId}{dx d:D}{lo hi:Option D}(h:sliceD P t dx lo hi=some (true,d)){w:World}{S:Nat→Prop}{ρ:List Nat}{x:Value}{vl vh:Option Value}(hx:RdD w S ρ x dx)
  (rl:∀ d,lo=some d→∃ v,vl=some v∧RdD w S ρ v d) (nl:lo=none→vl=none)
  (rh:∀ d,hi=some d→∃ v,vh=some v∧RdD w S ρ v d) (nh:hi=none→vh=none) :
  ∃ u,(Instr.sliceAt t x vl vh none).run P w=.ok u w∧RdD w S ρ u d:=by
 unfold sliceD at h
 split at h
 ·rename_i e hu
  split at h
  ·rename_i n hn
   split at h
   ·rename_i l m hl hm
    have h':=cond_some h
    clear h
    obtain⟨hpe',h⟩:=h'
    have hpe:=blt_iff.1 hpe'
    clear hpe'
    have bl:=bound_val hl rl nl
    have bh:=bound_val hm rh nh
    have base:∀ (a:Option Addr) (len cap:Nat),n=len→len≤cap→0≤l→l≤m→m≤n →
      (Instr.sliceAt t (.slice a len cap) vl vh none).run P w=.ok (.slice (if cap=l.toNat then a else a.map (·.add (l.toNat*sizeT P e))) (m.toNat-l.toNat) (cap-l.toNat)) w:=by
     intro a len cap h1 h2 h3 h4 h5
     subst h1
     unfold Instr.sliceAt
     rw[Sem.run_bind,run_under hu,Result.andThen_ok]
     simp only [Instr.slice,Sem.run_bind,run_under hu,Result.andThen_ok,bounds_run w h2 bl bh h3 h4 h5,run_sizeOf (P:=P) (t:=e) rfl hpe,Sem.run_pure]
    split at h
    ·-- nil
     simp only [Option.some.injEq,Prod.mk.injEq,Bool.and_eq_true,iLe,decide_eq_true_eq] at h
     obtain⟨⟨⟨h3,h4⟩,h5⟩,rfl⟩:=h
     cases hn
     have hx:=hx.val_inv
     cases hx
     refine⟨_,base none 0 0 rfl (Nat.le_refl _) h3 h4 h5,?_⟩
     have e1:l=0:=by omega
     have e2:m=0:=by omega
     rw[e1,e2]
     simp
     exact .val .nil
    ·rename_i sz cells
     obtain⟨hb,h⟩:=cond_some h
     rw[Nat.beq_eq] at hb
     simp only [Option.some.injEq,Prod.mk.injEq,Bool.and_eq_true,iLe,decide_eq_true_eq] at h
     obtain⟨⟨⟨h3,h4⟩,h5⟩,rfl⟩:=h
     obtain⟨hpos,rfl⟩:=lenD_sl hn
     have hx:=hx.val_inv
     simp only [mul_cond]
     cases hx with
     | nilsl =>
      have e0:slen sz ([]:List V)=0:=slen_eq hpos (by simp)
      refine⟨_,base none 0 0 e0 (Nat.le_refl _) h3 h4 h5,?_⟩
      rw[e0] at h5
      have e1:l=0:=by omega
      have e2:m=0:=by omega
      rw[e1,e2]
      simp
      exact .val .nilsl
     | sl g1 g2 g3 g4 g5 g6 =>
      rename_i b o n cap vals
      have e0:=slen_eq hpos g4
      refine⟨_,base _ n cap e0 g3 h3 h4 h5,?_⟩
      rw[e0] at h5
      have hlen:((cells.drop (l.toNat*sz)).take ((m-l).toNat*sz)).length=(m.toNat-l.toNat)*sz:=by
       have hle:(l.toNat+(m-l).toNat)*sz≤n*sz:=Nat.mul_le_mul_right sz (by omega)
       rw[Nat.add_mul] at hle
       rw[List.length_take,List.length_drop,g4,show (m.toNat-l.toNat)=(m-l).toNat by omega]
       omega
      by_cases hc:cap=l.toNat
      ·rw[if_pos hc]
       have hz:m.toNat-l.toNat=0:=by omega
       rw[hz,Nat.zero_mul] at hlen
       have hnil:=List.eq_nil_of_length_eq_zero hlen
       rw[hz,hnil]
       exact .val (.sl g1 g2 (Nat.zero_le _) (by simp) .nil (fun i v hv=>by simp at hv))
      ·rw[if_neg hc]
       simp only [Option.map_some,Addr.add_mid]
       refine .val (.sl g1 g2 (by omega) hlen ((g5.drop (l.toNat*sz)).take ((m-l).toNat*sz)) ?_)
       intro i v hv
       rw[List.getElem?_take] at hv
       split at hv
       ·rw[List.getElem?_drop] at hv
        have:=g6 _ _ hv
        rw[← hb]
        rwa [Nat.add_assoc]
       ·cases hv
    ·rename_i b off len sz
     obtain⟨hb,h⟩:=cond_some h
     rw[Nat.beq_eq] at hb
     simp only [Option.some.injEq,Prod.mk.injEq,Bool.and_eq_true,iLe,decide_eq_true_eq] at h
     obtain⟨⟨⟨⟨h3,h4⟩,h5⟩,h6⟩,rfl⟩:=h
     cases hn
     have h6:l=0∨l<n:=by simpa [iEq,iLt] using h6
     simp only [mul_cond]
     cases hx with
     | osl g1 g2 g3 g4 =>
      rename_i β cap ty k
      refine⟨_,base _ n cap rfl g2 h3 h4 h5,?_⟩
      have hk:off+l.toNat*sz+(cap-l.toNat)*sz=off+cap*sz:=by
       rw[Nat.add_assoc,← Nat.add_mul,show l.toNat+(cap-l.toNat)=cap by omega]
      by_cases hc:cap=l.toNat
      ·have e1:l=0:=by omega
       have e2:m=0:=by omega
       rw[if_pos hc,e1,e2]
       simp only [Int.toNat_zero,Nat.zero_mul,Nat.add_zero,Nat.sub_zero,Int.sub_self]
       exact .osl g1 (Nat.zero_le _) g3 g4
      ·rw[if_neg hc]
       simp only [Option.map_some,Addr.add_mid]
       rw[show m.toNat-l.toNat=(m-l).toNat by omega,← hb]
       exact .osl g1 (by omega) g3 (by omega)
    ·cases h
   ·cases h
  ·cases h
 ·cases h
end Go.Proofs.YtkkbddkpggjgpaaGreatDoor
