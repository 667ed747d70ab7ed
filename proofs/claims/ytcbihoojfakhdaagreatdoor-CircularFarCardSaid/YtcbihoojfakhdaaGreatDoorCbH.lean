/-
  Lower layers: what functions of the program compute, and zyt facts. Conditions: as the theorems say.
-/
import Derived.Lib.BitFns
import Derived.Lib.TrailingZeros
import Derived.Test.YtcbihoojfakhdaaGreatDoorCbG
set_option linter.unusedVariables false
set_option linter.unusedSimpArgs false
namespace Go.Proofs.YtcbihoojfakhdaaGreatDoor
open Go.RowKit
set_option maxRecDepth 100000
def nat_size_0_mk (l:List Nat)(x:Int):St:=⟨mkS 19 [(0,(.val (.sl 1 (U l)))),(3,(.val (.int .i64 x)))],[]⟩
def nat_size_0_I (l:List Nat)(x:Int):Prop:=0≤x∧x≤l.length∧val l=val (l.take (x).toNat)
def nat_size_0_mu (_:List Nat)(x:Int):Nat:=(x).toNat
def nat_size_0_ex (l:List Nat)(y:Int):Ex × St:=(.exit 0,⟨mkS 19 [(0,(.val (.sl 1 (U l)))),(3,(.val (.int .i64 y)))],[]⟩)
def nat_size_0_J (l:List Nat)(y:Int):Prop:=y=((limbs (val l)).length:Int)
abbrev nat_size_0_N (l:List Nat):=NX (nat_size_0_mk l) (nat_size_0_I l) (nat_size_0_mu l) (nat_size_0_ex l) (nat_size_0_J l)
theorem z9x (l:List Nat)(c0:Dig l)(c1:l.length≤1073741824)(x0:Int)(hI:nat_size_0_I l x0):LoopOk Tryz.prog Amb (loopN Tryz.f189 0) (nat_size_0_mk l x0) (fun e st_=>∃ y,nat_size_0_J l y∧nat_size_0_ex l y=(e,st_)) :=
 z6m hP hAmb ⟨[0,3],0,[]⟩ (nat_size_0_mk l) (nat_size_0_I l) (nat_size_0_mu l) (nat_size_0_ex l) (nat_size_0_J l) x0 hI (fun n=>.lit<|.both (.lits 3<|.yes<|.lit<|.yes<|.lit<|.yes<|.lits 3<|.both (.lit<|.yes<|.fin2 ⟨[0,3],0,[]⟩) (.fin2 ⟨[0,3],0,[]⟩)) (.lits 7<|.fin2 ⟨[0,3],0,[]⟩)) (by
  rintro n hI
  have hI:0≤n∧n≤l.length∧val l=val (l.take (n).toNat):=hI
  obtain ⟨h1,h2,h3⟩:=hI
  have e0:=z6n l
  exact z6d (aI True.intro (aI (fun (h101:(iGt n 0)=true)=>have _gh101:=z77 h101; aI (z7s oA:(fits .i64 (n-1))=true) (aI (z7o oA:(inB (n-1) ((U l).length))=true) (aI (ld_U oA:(Nat.blt ((n-1).toNat) (U l).length && isIntK .u32 (nth (U l) ((n-1).toNat) .unk))=true) (aI (fun (h102:(iEq (gi l ((n-1).toNat)) 0)=true)=>have _gh102:=z7b h102; aI (z7s oA:(fits .i64 (n-1))=true) (aI tT ((z6j (n-1) (show 0≤(n-1)∧(n-1)≤l.length∧val l=val (l.take ((n-1)).toNat) from ⟨by omega,by omega,z8b oO oO h3 (by assumption)⟩) (show (n-1).toNat<n.toNat by omega):nat_size_0_N l n .normal (nat_size_0_mk l (n-1)))))) (fun (h103:(iEq (gi l ((n-1).toNat)) 0)=false)=>have _gh103:=z7c h103; aI tT ((z6k 0 ((nat_size_0_ex l n).2) n (show n=((limbs (val l)).length:Int) from z8c c0 h1 h2 h3 (by first | exact .inl oO | exact .inr (by assumption))) rfl:nat_size_0_N l n (.exit 0) ((nat_size_0_ex l n).2)))))))) (fun (h104:(iGt n 0)=false)=>have _gh104:=z78 h104; aI tT ((z6k 0 ((nat_size_0_ex l n).2) n (show n=((limbs (val l)).length:Int) from z8c c0 h1 h2 h3 (by first | exact .inl oO | exact .inr (by assumption))) rfl:nat_size_0_N l n (.exit 0) ((nat_size_0_ex l n).2)))))) (by kernel_rfl))
theorem z9y (l:List Nat)(c0:Dig l)(c1:l.length≤1073741824):Impl Tryz.prog Amb 189 [(.sl 1 (U l))] (.int .i64 ((limbs (val l)).length:Int)):=by
 exact z6e hP hAmb Tryz.func189 (by kernel_rfl) (.loop ⟨[0,3],0,[]⟩ ((nat_size_0_mk l ((U l).length:Int))) (Int) (nat_size_0_ex l) (nat_size_0_J l) (fun y=>.lit<|.ret))
  (z6d (aI True.intro (aI tT (aI (rfl:(nat_size_0_mk l ((U l).length:Int))=(nat_size_0_mk l ((U l).length:Int))) (aI (z9x l c0 c1 ((U l).length:Int) (show 0≤((U l).length:Int)∧((U l).length:Int)≤l.length∧val l=val (l.take (((U l).length:Int)).toNat) from ⟨by omega,by rw [z6n]; omega,by rw [z6n]; simp⟩)) (fun y (hJ:nat_size_0_J l y)=>have hJ:y=((limbs (val l)).length:Int):=hJ; have j1:=hJ; (z5x (by rw [hJ]):vsub (.int .i64 y) (.int .i64 ((limbs (val l)).length:Int)))))))) (by kernel_rfl))
theorem z9z (n:Nat)(c0:L n≤1073741824):Impl Tryz.prog Amb 189 [N n] (.int .i64 (L n:Int)):=by
 have h:=z9y (limbs n) (z6y n) c0
 rwa [z6x] at h
theorem za0 (c:List V)(c0:c.all isCell=true)(c1:c.length≤1073741824):Impl Tryz.prog Amb 230 [(.sl 1 c)] (.sl 1 c):=by
 exact z6e hP hAmb Tryz.func230 (by kernel_rfl) (.both (.both (.lits 2<|.ret) (.lit<|.yes<|.yes<|.ret)) (.lit<|.yes<|.yes<|.ret))
  (z6d (aI True.intro (aI (fun (h1:Nat.beq c.length 0=true)=>aI ((by rw [show c = [] from List.eq_nil_of_length_eq_zero (Nat.eq_of_beq_eq_true h1)]; exact z5y 1:vsub .nil (.sl 1 c))) (aI (z7r (z7r (z7r (rfl) (by first | assumption | exact z6u _)) (z7y oA)) (by first | rfl | (simp<;>omega) | (rw [z8g]; simp)):(true && c.all isCell && Nat.ble (0+c.length) 1073741824 && Nat.beq ([]:List V).length 0)=true) (aI (z81 oA:((true && Nat.ble (0+(0+c.length)) (([]:List V) ++ c).length) && true)=true) (z5x (by simp):vsub (.sl 1 (List.take (0+c.length) (List.drop 0 (([]:List V) ++ c)))) (.sl 1 c))))) (fun (h2:Nat.beq c.length 0=false)=>aI (z7r (z7r (z7r (rfl) (by first | assumption | exact z6u _)) (z7y oA)) (by first | rfl | (simp<;>omega) | (rw [z8g]; simp)):(true && c.all isCell && Nat.ble (0+c.length) 1073741824 && Nat.beq ([]:List V).length 0)=true) (aI (z81 oA:((true && Nat.ble (0+(0+c.length)) (([]:List V) ++ c).length) && true)=true) (z5x (by simp):vsub (.sl 1 (List.take (0+c.length) (List.drop 0 (([]:List V) ++ c)))) (.sl 1 c)))))) (by kernel_rfl))
theorem za1 (c:List V)(l:List Nat)(c0:c=U l)(c1:Dig l)(c2:l.length≤1073741824):Impl Tryz.prog Amb 189 [.sl 1 c] (.int .i64 ((limbs (val l)).length:Int)):=by
 subst c0
 exact z9y l c1 c2
theorem za2 (l:List Nat)(c0:Dig l)(c1:l.length≤1073741824):Impl Tryz.prog Amb 187 [(.sl 1 (U l))] (N (val l)):=by
 have e0:=z8v c0
 have e1:=z8d c0
 have e2:=z6n l
 exact z6e hP hAmb Tryz.func187 (by kernel_rfl) (.lit<|.call (.int .i64 ((limbs (val l)).length:Int))<|.yes<|.lit<|.call (.sl 1 (List.take ((((limbs (val l)).length:Int)-0).toNat) (List.drop 0 (U l))))<|.lit<|.ret)
  (z6d (aI True.intro (aI (z9y l oA oA) (aI (z7r (z7r (rfl) (z7g oA)) (z7g oA):((true && (iLe (0:Int) ((limbs (val l)).length:Int))) && (iLe ((limbs (val l)).length:Int) ((U l).length:Int)))=true) (aI (za0 (List.take ((((limbs (val l)).length:Int)-0).toNat) (List.drop 0 (U l))) (by rw [z8v c0]; exact z6u _) (by rw [z8v c0]; exact Nat.le_trans (Nat.le_of_eq (z6o _)) oO)) ((z5x (congrArg (V.sl 1) (z8v c0)):vsub (.sl 1 (List.take ((((limbs (val l)).length:Int)-0).toNat) (List.drop 0 (U l)))) (N (val l)))))))) (by kernel_rfl))
theorem za3 (n:Nat)(c0:L n≤1073741824):Impl Tryz.prog Amb 187 [N n] (N n):=by
 have h:=za2 (limbs n) (z6y n) c0
 rwa [z6x] at h
theorem za4 (x y:Int)(c0:0≤x∧x<4294967296)(c1:0≤y∧y<4294967296):Impl Tryz.prog Amb 187 [.sl 1 [.int .u32 x,.int .u32 y]] (N (x+4294967296*y).toNat):=by
 have h:=za2 [x.toNat,y.toNat] (fun d hd=>by
  rcases List.mem_cons.1 hd with rfl | hd
  ·omega
  ·rcases List.mem_cons.1 hd with rfl | hd
   ·omega
   ·cases hd) (by simp)
 have e:U [x.toNat,y.toNat] = [.int .u32 x,.int .u32 y]:=by
  simp only [U,List.map_cons,List.map_nil]
  rw [Int.toNat_of_nonneg c0.1,Int.toNat_of_nonneg c1.1]
 have v:val [x.toNat,y.toNat]=(x+4294967296*y).toNat:=by simp only [val]; omega
 rwa [e,v] at h
theorem za5 (x:Int)(c0:(0:Int)≤x∧x<18446744073709551616):Impl Tryz.prog Amb 192 [(.int .u64 x)] (N ((x).toNat)):=by
 have e0:=z7v x
 have e1:=z7v (x / 4294967296)
 exact z6e hP hAmb Tryz.func192 (by kernel_rfl) (.lit<|.no<|.lits 2<|.no<|.lit<|.call (N (((IntKind.wrap .u32 x)+4294967296*(IntKind.wrap .u32 (Int.fdiv x (2^32)))).toNat))<|.lit<|.ret)
  (z6d (aI True.intro (aI (za4 (IntKind.wrap .u32 x) (IntKind.wrap .u32 (Int.fdiv x (2^32))) (by rw [z7v]; omega) (by rw [z7v,z9c]; omega)) ((z5x (congrArg N (by rw [z7v,z7v,z9c]; omega)):vsub (N (((IntKind.wrap .u32 x)+4294967296*(IntKind.wrap .u32 (Int.fdiv x (2^32)))).toNat)) (N ((x).toNat)))))) (by kernel_rfl))
theorem za6 (n:Int)(c0:0≤n∧n≤1048576):Impl Tryz.prog Amb 188 [(.int .i64 n)] (.int .i64 n):=by
 exact z6e hP hAmb Tryz.func188 (by kernel_rfl) (.lits 3<|.ret)
  (z6d (aI True.intro ((z5x (congrArg (V.int .i64) (by unfold iMin iMax; split<;>split<;>omega)):vsub (.int .i64 (iMin (iMax n (0:Int)) (1048576:Int))) (.int .i64 n)))) (by kernel_rfl))
theorem za7 (n:Nat)(c0:L n≤1073741824):Impl Tryz.prog Amb 231 [(N n)] (.bool true):=by
 exact z6e hP hAmb Tryz.func231 (by kernel_rfl) (.lit<|.call (.int .i64 (L n:Int))<|.lits 2<|.ret)
  (z6d (aI True.intro (aI (z9z n oA) ((z5x (congrArg V.bool (z7i (by rw [z8g]))):vsub (.bool (iEq (L n:Int) ((lim n).length:Int))) (.bool true))))) (by kernel_rfl))
def nat_Cmp_0_mk (a b:Nat)(x:Int):St:=⟨mkS 46 [(0,(.val (N a))),(1,(.val (N b))),(4,(.val (.int .i64 0))),(7,(.val (.int .i64 x)))],[]⟩
def nat_Cmp_0_I (a b:Nat)(x:Int):Prop:=-1≤x∧x<L a∧(limbs a).drop (x+1).toNat=(limbs b).drop (x+1).toNat
def nat_Cmp_0_mu (_ _:Nat)(x:Int):Nat:=(x+1).toNat
def nat_Cmp_0_ex (_ _:Nat)(y:(Int)⊕(Unit)):Ex × St:=Sum.elim (fun (y:Int)=>(.ret,⟨mkS 46 [(4,(.val (.int .i64 y)))],[]⟩)) (fun (y:Unit)=>(.exit 1,⟨mkS 46 [],[]⟩)) y
def nat_Cmp_0_J (a b:Nat)(y:(Int)⊕(Unit)):Prop:=Sum.elim (fun (y:Int)=>y=cmpN a b) (fun (y:Unit)=>a=b) y
abbrev nat_Cmp_0_N (a b:Nat):=NX (nat_Cmp_0_mk a b) (nat_Cmp_0_I a b) (nat_Cmp_0_mu a b) (nat_Cmp_0_ex a b) (nat_Cmp_0_J a b)
theorem za8 (a b:Nat)(c0:L a=L b)(c1:L a≤1073741824)(x0:Int)(hI:nat_Cmp_0_I a b x0):LoopOk Tryz.prog Amb (loopN Tryz.f183 0) (nat_Cmp_0_mk a b x0) (fun e st_=>∃ y,nat_Cmp_0_J a b y∧nat_Cmp_0_ex a b y=(e,st_)) :=
 z6m hP hAmb ⟨[0,1,4,7],0,[]⟩ (nat_Cmp_0_mk a b) (nat_Cmp_0_I a b) (nat_Cmp_0_mu a b) (nat_Cmp_0_ex a b) (nat_Cmp_0_J a b) x0 hI (fun i=>.lit<|.both (.yes<|.yes<|.yes<|.yes<|.lit<|.both (.fin2 ⟨[4],0,[]⟩) (.yes<|.yes<|.yes<|.yes<|.lit<|.both (.fin2 ⟨[4],0,[]⟩) (.lit<|.yes<|.fin2 ⟨[0,1,4,7],0,[]⟩))) (.fin2 ⟨[],0,[]⟩)) (by
  rintro i hI
  have hI:-1≤i∧i<L a∧(limbs a).drop (i+1).toNat=(limbs b).drop (i+1).toNat:=hI
  obtain ⟨h1,h2,h3⟩:=hI
  have e0:=z8g a
  have e1:=z8g b
  have h4:0≤i→(limbs a).drop (i.toNat+1)=(limbs b).drop (i.toNat+1):=fun h=>by rw [show i.toNat+1=(i+1).toNat by omega]; exact h3
  exact z6d (aI True.intro (aI (fun (h101:(iGe i 0)=true)=>have _gh101:=z79 h101; aI (z7o oA:(inB i ((lim a).length))=true) (aI (ld_L oA:(Nat.blt i.toNat (lim a).length && isIntK .u32 (nth (lim a) i.toNat .unk))=true) (aI (z7o oA:(inB i ((lim b).length))=true) (aI (ld_L oA:(Nat.blt i.toNat (lim b).length && isIntK .u32 (nth (lim b) i.toNat .unk))=true) (aI (fun (h102:(iLt (gi (limbs a) i.toNat) (gi (limbs b) i.toNat))=true)=>have _gh102:=z73 h102; aI tT ((z6l ((nat_Cmp_0_ex a b (.inl (-1))).2) (.inl (-1)) (show (-1)=cmpN a b from (z8s (z8x oO oO (h4 oO) (by assumption))).symm) rfl:nat_Cmp_0_N a b i .ret ((nat_Cmp_0_ex a b (.inl (-1))).2)))) (fun (h103:(iLt (gi (limbs a) i.toNat) (gi (limbs b) i.toNat))=false)=>have _gh103:=z74 h103; aI (z7o oA:(inB i ((lim a).length))=true) (aI (ld_L oA:(Nat.blt i.toNat (lim a).length && isIntK .u32 (nth (lim a) i.toNat .unk))=true) (aI (z7o oA:(inB i ((lim b).length))=true) (aI (ld_L oA:(Nat.blt i.toNat (lim b).length && isIntK .u32 (nth (lim b) i.toNat .unk))=true) (aI (fun (h104:(iGt (gi (limbs a) i.toNat) (gi (limbs b) i.toNat))=true)=>have _gh104:=z77 h104; aI tT ((z6l ((nat_Cmp_0_ex a b (.inl 1)).2) (.inl 1) (show 1=cmpN a b from (z8t (z8x oO oO (h4 oO).symm (by assumption))).symm) rfl:nat_Cmp_0_N a b i .ret ((nat_Cmp_0_ex a b (.inl 1)).2)))) (fun (h105:(iGt (gi (limbs a) i.toNat) (gi (limbs b) i.toNat))=false)=>have _gh105:=z78 h105; aI (z7s oA:(fits .i64 (i-1))=true) (aI tT ((z6j (i-1) (show -1≤(i-1)∧(i-1)<L a∧(limbs a).drop ((i-1)+1).toNat=(limbs b).drop ((i-1)+1).toNat from ⟨by omega,by omega,by rw [show (i-1+1).toNat=i.toNat by omega]; exact z8y oO oO (h4 oO) (by unfold gi at *; omega)⟩) (show (i-1+1).toNat<(i+1).toNat by omega):nat_Cmp_0_N a b i .normal (nat_Cmp_0_mk a b (i-1)))))))))))))))) (fun (h106:(iGe i 0)=false)=>have _gh106:=z7a h106; aI tT ((z6k 1 ((nat_Cmp_0_ex a b (.inr ())).2) (.inr ()) (show a=b from z8z (by rw [← show (i+1).toNat=0 by omega]; exact h3)) rfl:nat_Cmp_0_N a b i (.exit 1) ((nat_Cmp_0_ex a b (.inr ())).2)))))) (by kernel_rfl))
theorem za9 (a:Nat)(b:Nat)(c0:L a≤1073741824)(c1:L b≤1073741824):Impl Tryz.prog Amb 183 [(N a),(N b)] (.int .i64 (cmpN a b)):=by
 have e0:=z8g a
 have e1:=z8g b
 exact z6e hP hAmb Tryz.func183 (by kernel_rfl) (.lit<|.call (.int .i64 (L a:Int))<|.lit<|.call (.int .i64 (L b:Int))<|.lit<|.both (.lit<|.ret) (.lit<|.both (.lit<|.ret) (.lit<|.yes<|.loop2 ⟨[0,1,4,7],0,[]⟩ ((nat_Cmp_0_mk a b ((L a:Int)-1))) (Int) (Unit) (nat_Cmp_0_ex a b) (nat_Cmp_0_J a b) (fun y=>.lit<|.ret) (fun y=>.lit<|.ret))))
  (z6d (aI True.intro (aI (z9z a oA) (aI (z9z b oA) (aI (fun (h1:(iLt (L a:Int) (L b:Int))=true)=>have _gh1:=z73 h1; (z5x (congrArg (V.int .i64) (z8s (z8k oO)).symm):vsub (.int .i64 (-1)) (.int .i64 (cmpN a b)))) (fun (h2:(iLt (L a:Int) (L b:Int))=false)=>have _gh2:=z74 h2; aI (fun (h3:(iGt (L a:Int) (L b:Int))=true)=>have _gh3:=z77 h3; (z5x (congrArg (V.int .i64) (z8t (z8k oO)).symm):vsub (.int .i64 1) (.int .i64 (cmpN a b)))) (fun (h4:(iGt (L a:Int) (L b:Int))=false)=>have _gh4:=z78 h4; aI (z7s oA:(fits .i64 ((L a:Int)-1))=true) (aI tT (aI (rfl:(nat_Cmp_0_mk a b ((L a:Int)-1))=(nat_Cmp_0_mk a b ((L a:Int)-1))) (aI (za8 a b oO c0 ((L a:Int)-1) (show -1≤((L a:Int)-1)∧((L a:Int)-1)<L a∧(limbs a).drop (((L a:Int)-1)+1).toNat=(limbs b).drop (((L a:Int)-1)+1).toNat from ⟨by omega,by omega,by rw [List.drop_eq_nil_of_le (by unfold L at *; omega),List.drop_eq_nil_of_le (by unfold L at *; omega)]⟩)) (aI (fun (y:Int) (hJ:nat_Cmp_0_J a b (.inl y))=>have hJ:y=cmpN a b:=hJ; (z5x (congrArg (V.int .i64) hJ):vsub (.int .i64 y) (.int .i64 (cmpN a b)))) (fun (y:Unit) (hJ:nat_Cmp_0_J a b (.inr y))=>have hJ:a=b:=hJ; (z5x (congrArg (V.int .i64) (z8u hJ).symm):vsub (.int .i64 0) (.int .i64 (cmpN a b)))))))))))))) (by kernel_rfl))
theorem zaa (c:List V)(c0:c.all isPrim=true)(c1:c.all isCell=true)(c2:c.length≤1073741824)(c3:c.length≠0):ImplO Tryz.prog Amb 230 [(.sl 1 c)] 1 (0+c.length) c:=by
 exact z6g hP hAmb Tryz.func230 (by kernel_rfl) (by assumption) (.no<|.lit<|.yes<|.fin2 ⟨[2],2,[]⟩)
  (z6d (aI True.intro (aI (z7x c3:Nat.beq c.length 0=false) (aI (z7r (z7r (z7r (rfl) (by first | assumption | exact z6u _)) (z7y oA)) (by first | rfl | (simp<;>omega) | (rw [z8g]; simp)):(true && c.all isCell && Nat.ble (0+c.length) 1073741824 && Nat.beq ([]:List V).length 0)=true) (aI tT (⟨.inl rfl,1,2,rfl,rfl,rfl,⟨[],by simp [bx,nth]⟩⟩:EndO Tryz.f230.results 1 (0+c.length) c .ret ⟨mkS 8 [(2,(.osl 1 0 (0+c.length) 1))],[⟨false,false,([]:List V)⟩,⟨true,false,(([]:List V) ++ c)⟩]⟩))))) (by kernel_rfl))
end Go.Proofs.YtcbihoojfakhdaaGreatDoor

namespace Go.Proofs.YtcbihoojfakhdaaGreatDoor
open Go.RowKit
set_option maxRecDepth 100000
def nat_Add_0_mk (a b:Nat)(x:Int × Int × List V × List Nat):St:=⟨mkS 60 [(0,(.val (N a))),(1,(.val (N b))),(5,(.osl 0 0 ((((lim a).length:Int)+1).toNat) 1)),(6,(.val (.int .u64 x.2.1))),(20,(.val (N a))),(21,(.val (.int .i64 ((lim a).length:Int)))),(22,(.val (.int .i64 x.1)))],[⟨true,false,x.2.2.1⟩]⟩
def nat_Add_0_I (a b:Nat)(x:Int × Int × List V × List Nat):Prop:=x.2.2.1=U x.2.2.2∧AddInv a b x.1 x.2.1 x.2.2.2
def nat_Add_0_mu (a _:Nat)(x:Int × Int × List V × List Nat):Nat:=((L a:Int)-x.1).toNat
def nat_Add_0_ex (a _:Nat)(y:Int × List Nat):Ex × St:=(.exit 0,⟨mkS 60 [(0,(.val (N a))),(5,(.osl 0 0 ((((lim a).length:Int)+1).toNat) 1)),(6,(.val (.int .u64 y.1)))],[⟨true,false,(U y.2)⟩]⟩)
def nat_Add_0_J (a b:Nat)(y:Int × List Nat):Prop:=AddInv a b (L a:Int) y.1 y.2
abbrev nat_Add_0_N (a b:Nat):=NX (nat_Add_0_mk a b) (nat_Add_0_I a b) (nat_Add_0_mu a b) (nat_Add_0_ex a b) (nat_Add_0_J a b)
theorem zab (a b:Nat)(c0:L a≤1073741824)(x0:Int × Int × List V × List Nat)(hI:nat_Add_0_I a b x0):LoopOk Tryz.prog Amb (loopN Tryz.f222 0) (nat_Add_0_mk a b x0) (fun e st_=>∃ y,nat_Add_0_J a b y∧nat_Add_0_ex a b y=(e,st_)) :=
 z6m hP hAmb ⟨[0,1,5,6,20,21,22],1,[]⟩ (nat_Add_0_mk a b) (nat_Add_0_I a b) (nat_Add_0_mu a b) (nat_Add_0_ex a b) (nat_Add_0_J a b) x0 hI (fun (i,c,o,l)=>.lit<|.both (.yes<|.yes<|.lit<|.yes<|.lit<|.yes<|.lit<|.both (.yes<|.yes<|.lit<|.yes<|.lit<|.yes<|.lit<|.no<|.yes<|.yes<|.lits 2<|.yes<|.fin2 ⟨[0,1,5,6,20,21,22],1,[]⟩) (.lit<|.no<|.yes<|.yes<|.lits 2<|.yes<|.fin2 ⟨[0,1,5,6,20,21,22],1,[]⟩)) (.fin2 ⟨[0,5,6],1,[]⟩)) (by
  rintro ⟨i,c,o,l⟩ hI
  have hI:o=U l∧AddInv a b i c l:=hI
  obtain ⟨rfl,h1⟩:=hI
  have ⟨p0,p1,p2,p3,p4,_⟩:=h1
  have e0:=z8g a
  have e1:=z8g b
  have g0:=z8a (z6y a) i.toNat
  have g1:=z89 (limbs a) i.toNat
  have g2:=z8a (z6y b) i.toNat
  have g3:=z89 (limbs b) i.toNat
  have g4:=z6n l
  exact z6d (aI True.intro (aI (fun (h101:(iLt i ((lim a).length:Int))=true)=>have _gh101:=z73 h101; aI (z7o oA:(inB i ((lim a).length))=true) (aI (ld_L oA:(Nat.blt i.toNat (lim a).length && isIntK .u32 (nth (lim a) i.toNat .unk))=true) (aI (z7t oA:(fits .u64 (gi (limbs a) i.toNat))=true) (aI (z7t oA:(fits .u64 (c+(gi (limbs a) i.toNat)))=true) (aI (fun (h102:(iLt i ((lim b).length:Int))=true)=>have _gh102:=z73 h102; aI (z7o oA:(inB i ((lim b).length))=true) (aI (ld_L oA:(Nat.blt i.toNat (lim b).length && isIntK .u32 (nth (lim b) i.toNat .unk))=true) (aI (z7t oA:(fits .u64 (gi (limbs b) i.toNat))=true) (aI (z7t oA:(fits .u64 ((c+(gi (limbs a) i.toNat))+(gi (limbs b) i.toNat)))=true) (aI (z7o oA:(inB i ((((lim a).length:Int)+1).toNat))=true) (aI (z7y oA:(Nat.ble ((0+i.toNat)+1) (U l).length)=true) (aI (z7s oA:(fits .i64 (i+1))=true) (aI tT ((z6j ((i+1),(Int.fdiv ((c+(gi (limbs a) i.toNat))+(gi (limbs b) i.toNat)) (2^32)),(List.set (U l) (0+i.toNat) (.int .u32 (IntKind.wrap .u32 ((c+(gi (limbs a) i.toNat))+(gi (limbs b) i.toNat))))),(l.set i.toNat (IntKind.wrap .u32 ((c+(gi (limbs a) i.toNat))+(gi (limbs b) i.toNat))).toNat)) (show (List.set (U l) (0+i.toNat) (.int .u32 (IntKind.wrap .u32 ((c+(gi (limbs a) i.toNat))+(gi (limbs b) i.toNat)))))=U (l.set i.toNat (IntKind.wrap .u32 ((c+(gi (limbs a) i.toNat))+(gi (limbs b) i.toNat))).toNat)∧AddInv a b (i+1) (Int.fdiv ((c+(gi (limbs a) i.toNat))+(gi (limbs b) i.toNat)) (2^32)) (l.set i.toNat (IntKind.wrap .u32 ((c+(gi (limbs a) i.toNat))+(gi (limbs b) i.toNat))).toNat) from ⟨setU _ oO (by rw [z7v]; omega),z9e h1 oO (by first | rfl | (rw [z91 (show (limbs b).length≤i.toNat from (show L b≤i.toNat by omega))]; omega))⟩) (show ((L a:Int)-(i+1)).toNat<((L a:Int)-i).toNat by omega):nat_Add_0_N a b (i,c,(U l),l) .normal (nat_Add_0_mk a b ((i+1),(Int.fdiv ((c+(gi (limbs a) i.toNat))+(gi (limbs b) i.toNat)) (2^32)),(List.set (U l) (0+i.toNat) (.int .u32 (IntKind.wrap .u32 ((c+(gi (limbs a) i.toNat))+(gi (limbs b) i.toNat))))),(l.set i.toNat (IntKind.wrap .u32 ((c+(gi (limbs a) i.toNat))+(gi (limbs b) i.toNat))).toNat))))))))))))) (fun (h103:(iLt i ((lim b).length:Int))=false)=>have _gh103:=z74 h103; aI (z7o oA:(inB i ((((lim a).length:Int)+1).toNat))=true) (aI (z7y oA:(Nat.ble ((0+i.toNat)+1) (U l).length)=true) (aI (z7s oA:(fits .i64 (i+1))=true) (aI tT ((z6j ((i+1),(Int.fdiv (c+(gi (limbs a) i.toNat)) (2^32)),(List.set (U l) (0+i.toNat) (.int .u32 (IntKind.wrap .u32 (c+(gi (limbs a) i.toNat))))),(l.set i.toNat (IntKind.wrap .u32 (c+(gi (limbs a) i.toNat))).toNat)) (show (List.set (U l) (0+i.toNat) (.int .u32 (IntKind.wrap .u32 (c+(gi (limbs a) i.toNat)))))=U (l.set i.toNat (IntKind.wrap .u32 (c+(gi (limbs a) i.toNat))).toNat)∧AddInv a b (i+1) (Int.fdiv (c+(gi (limbs a) i.toNat)) (2^32)) (l.set i.toNat (IntKind.wrap .u32 (c+(gi (limbs a) i.toNat))).toNat) from ⟨setU _ oO (by rw [z7v]; omega),z9e h1 oO (by first | rfl | (rw [z91 (show (limbs b).length≤i.toNat from (show L b≤i.toNat by omega))]; omega))⟩) (show ((L a:Int)-(i+1)).toNat<((L a:Int)-i).toNat by omega):nat_Add_0_N a b (i,c,(U l),l) .normal (nat_Add_0_mk a b ((i+1),(Int.fdiv (c+(gi (limbs a) i.toNat)) (2^32)),(List.set (U l) (0+i.toNat) (.int .u32 (IntKind.wrap .u32 (c+(gi (limbs a) i.toNat))))),(l.set i.toNat (IntKind.wrap .u32 (c+(gi (limbs a) i.toNat))).toNat)))))))))))))) (fun (h104:(iLt i ((lim a).length:Int))=false)=>have _gh104:=z74 h104; aI tT ((z6k 0 ((nat_Add_0_ex a b (c,l)).2) (c,l) (show AddInv a b (L a:Int) c l from (show i=(L a:Int) by omega) ▸ h1) rfl:nat_Add_0_N a b (i,c,(U l),l) (.exit 0) ((nat_Add_0_ex a b (c,l)).2)))))) (by kernel_rfl))
theorem zac (a:Nat)(b:Nat)(c0:L a≤33554432)(c1:L b≤33554432):Impl Tryz.prog Amb 222 [(N a),(N b)] (N (a+b)):=by
 have e0:=z8g a
 have e1:=z8g b
 exact z6e hP hAmb Tryz.func222 (by kernel_rfl) (.lit<|.both (.lit<|.yes<|.yes<|.loop ⟨[0,1,5,6,20,21,22],1,[]⟩ ((nat_Add_0_mk b a (0,0,(List.replicate ((((lim b).length:Int)+1).toNat) (.int .u32 0)),(List.replicate (L b+1) 0)))) (Int × List Nat) (nat_Add_0_ex b a) (nat_Add_0_J b a) (fun y=>.lit<|.no<|.yes<|.yes<|.yes<|.call (.int .i64 ((limbs (val (y.2.set (L b) y.1.toNat))).length:Int))<|.yes<|.yes<|.ret)) (.lit<|.yes<|.yes<|.loop ⟨[0,1,5,6,20,21,22],1,[]⟩ ((nat_Add_0_mk a b (0,0,(List.replicate ((((lim a).length:Int)+1).toNat) (.int .u32 0)),(List.replicate (L a+1) 0)))) (Int × List Nat) (nat_Add_0_ex a b) (nat_Add_0_J a b) (fun y=>.lit<|.no<|.yes<|.yes<|.yes<|.call (.int .i64 ((limbs (val (y.2.set (L a) y.1.toNat))).length:Int))<|.yes<|.yes<|.ret)))
  (z6d (aI True.intro (aI (fun (h1:(iLt ((lim a).length:Int) ((lim b).length:Int))=true)=>have _gh1:=z73 h1; aI (z7s oA:(fits .i64 (((lim b).length:Int)+1))=true) (aI (z7z oA:(((iEq (((lim b).length:Int)+1) (((lim b).length:Int)+1)) && (iLe 0 (((lim b).length:Int)+1))) && (iLe (((lim b).length:Int)+1) 1073741824))=true) (aI tT (aI (rfl:(nat_Add_0_mk b a (0,0,(List.replicate ((((lim b).length:Int)+1).toNat) (.int .u32 0)),(List.replicate (L b+1) 0)))=(nat_Add_0_mk b a (0,0,(List.replicate ((((lim b).length:Int)+1).toNat) (.int .u32 0)),(List.replicate (L b+1) 0)))) (aI (zab b a oO (0,0,(List.replicate ((((lim b).length:Int)+1).toNat) (.int .u32 0)),(List.replicate (L b+1) 0)) (show (List.replicate ((((lim b).length:Int)+1).toNat) (.int .u32 0))=U (List.replicate (L b+1) 0)∧AddInv b a 0 0 (List.replicate (L b+1) 0) from ⟨by rw [z8g]; exact z6v _,z9d _ _⟩)) (fun y (hJ:nat_Add_0_J b a y)=>have hJ:AddInv b a (L b:Int) y.1 y.2:=hJ; have ⟨_,_,q2,q3,q4,_⟩:=hJ; have q5:=z6n y.2; have q6:=z8d (z9f oO hJ).1; have q7:=(z9f oO hJ).2.1; aI (z7o oA:(inB ((lim b).length:Int) ((((lim b).length:Int)+1).toNat))=true) (aI (z7y oA:(Nat.ble ((0+((lim b).length:Int).toNat)+1) (U y.2).length)=true) (aI (z80 oA:((true && Nat.ble (0+(((lim b).length:Int)+1).toNat) (List.set (U y.2) (0+((lim b).length:Int).toNat) (.int .u32 (IntKind.wrap .u32 y.1))).length) && true)=true) (aI (za1 (List.take ((((lim b).length:Int)+1).toNat) (List.drop 0 (List.set (U y.2) (0+((lim b).length:Int).toNat) (.int .u32 (IntKind.wrap .u32 y.1))))) (y.2.set (L b) y.1.toNat) (tkU (setU y.2 (show _=L b by omega) (by rw [z7v]; omega)) (by rw [(z9f oO hJ).2.1]; omega)) (z9f oO hJ).1 (by rw [(z9f oO hJ).2.1]; omega)) (aI (z7r (z7r (z7r (rfl) (z7g oA)) (z7g oA)) (rfl):(((true && (iLe (0:Int) ((limbs (val (y.2.set (L b) y.1.toNat))).length:Int))) && (iLe ((limbs (val (y.2.set (L b) y.1.toNat))).length:Int) ((((lim b).length:Int)+1).toNat:Int))) && true)=true) (aI (z81 oA:((true && Nat.ble (0+(((limbs (val (y.2.set (L b) y.1.toNat))).length:Int)-0).toNat) (List.set (U y.2) (0+((lim b).length:Int).toNat) (.int .u32 (IntKind.wrap .u32 y.1))).length) && true)=true) (z5x (congrArg (V.sl 1) (z99 (setU y.2 (show _=L b by omega) (by rw [z7v]; omega)) (z9f oO hJ).1 (by rw [(z9f oO hJ).2.2]<;>omega))):vsub (.sl 1 (List.take ((((limbs (val (y.2.set (L b) y.1.toNat))).length:Int)-0).toNat) (List.drop 0 (List.set (U y.2) (0+((lim b).length:Int).toNat) (.int .u32 (IntKind.wrap .u32 y.1)))))) (N (a+b)))))))))))))) (fun (h2:(iLt ((lim a).length:Int) ((lim b).length:Int))=false)=>have _gh2:=z74 h2; aI (z7s oA:(fits .i64 (((lim a).length:Int)+1))=true) (aI (z7z oA:(((iEq (((lim a).length:Int)+1) (((lim a).length:Int)+1)) && (iLe 0 (((lim a).length:Int)+1))) && (iLe (((lim a).length:Int)+1) 1073741824))=true) (aI tT (aI (rfl:(nat_Add_0_mk a b (0,0,(List.replicate ((((lim a).length:Int)+1).toNat) (.int .u32 0)),(List.replicate (L a+1) 0)))=(nat_Add_0_mk a b (0,0,(List.replicate ((((lim a).length:Int)+1).toNat) (.int .u32 0)),(List.replicate (L a+1) 0)))) (aI (zab a b oO (0,0,(List.replicate ((((lim a).length:Int)+1).toNat) (.int .u32 0)),(List.replicate (L a+1) 0)) (show (List.replicate ((((lim a).length:Int)+1).toNat) (.int .u32 0))=U (List.replicate (L a+1) 0)∧AddInv a b 0 0 (List.replicate (L a+1) 0) from ⟨by rw [z8g]; exact z6v _,z9d _ _⟩)) (fun y (hJ:nat_Add_0_J a b y)=>have hJ:AddInv a b (L a:Int) y.1 y.2:=hJ; have ⟨_,_,q2,q3,q4,_⟩:=hJ; have q5:=z6n y.2; have q6:=z8d (z9f oO hJ).1; have q7:=(z9f oO hJ).2.1; aI (z7o oA:(inB ((lim a).length:Int) ((((lim a).length:Int)+1).toNat))=true) (aI (z7y oA:(Nat.ble ((0+((lim a).length:Int).toNat)+1) (U y.2).length)=true) (aI (z80 oA:((true && Nat.ble (0+(((lim a).length:Int)+1).toNat) (List.set (U y.2) (0+((lim a).length:Int).toNat) (.int .u32 (IntKind.wrap .u32 y.1))).length) && true)=true) (aI (za1 (List.take ((((lim a).length:Int)+1).toNat) (List.drop 0 (List.set (U y.2) (0+((lim a).length:Int).toNat) (.int .u32 (IntKind.wrap .u32 y.1))))) (y.2.set (L a) y.1.toNat) (tkU (setU y.2 (show _=L a by omega) (by rw [z7v]; omega)) (by rw [(z9f oO hJ).2.1]; omega)) (z9f oO hJ).1 (by rw [(z9f oO hJ).2.1]; omega)) (aI (z7r (z7r (z7r (rfl) (z7g oA)) (z7g oA)) (rfl):(((true && (iLe (0:Int) ((limbs (val (y.2.set (L a) y.1.toNat))).length:Int))) && (iLe ((limbs (val (y.2.set (L a) y.1.toNat))).length:Int) ((((lim a).length:Int)+1).toNat:Int))) && true)=true) (aI (z81 oA:((true && Nat.ble (0+(((limbs (val (y.2.set (L a) y.1.toNat))).length:Int)-0).toNat) (List.set (U y.2) (0+((lim a).length:Int).toNat) (.int .u32 (IntKind.wrap .u32 y.1))).length) && true)=true) (z5x (congrArg (V.sl 1) (z99 (setU y.2 (show _=L a by omega) (by rw [z7v]; omega)) (z9f oO hJ).1 (by rw [(z9f oO hJ).2.2]<;>omega))):vsub (.sl 1 (List.take ((((limbs (val (y.2.set (L a) y.1.toNat))).length:Int)-0).toNat) (List.drop 0 (List.set (U y.2) (0+((lim a).length:Int).toNat) (.int .u32 (IntKind.wrap .u32 y.1)))))) (N (a+b)))))))))))))))) (by kernel_rfl))
theorem zad (x y b:Int)(c0:0≤x∧x<4294967296)(c1:0≤y∧y<4294967296)(c2:0≤b∧b≤1):Impl Tryz.prog Amb 244 [(.int .u32 x),(.int .u32 y),(.int .u32 b)] (.tup [(.int .u32 ((x-y-b)%4294967296)),(.int .u32 (if x<y+b then 1 else 0))]):=by
 exact z6e hP hAmb Tryz.func244 (by kernel_rfl) (.lit<|.no<|.lit<|.no<|.lits 8<|.ret)
  (z6d (aI True.intro ((by rw [z9o ⟨c0.1,c0.2,c1.1,c1.2,c2.1,c2.2⟩,show IntKind.wrap .u32 (IntKind.wrap .u32 (x-y)-b)=(x-y-b)%4294967296 by rw [z7v,z7v]; omega]; exact z5w _:vsub (.tup [(.int .u32 (IntKind.wrap .u32 ((IntKind.wrap .u32 (x-y))-b))),(.int .u32 (Int.fdiv (wOr .u32 (wAnd .u32 (wXor .u32 (4294967295:Int) x) y) (wAnd .u32 (wXor .u32 (4294967295:Int) (wXor .u32 x y)) (IntKind.wrap .u32 ((IntKind.wrap .u32 (x-y))-b)))) (2^31)))]) (.tup [(.int .u32 ((x-y-b)%4294967296)),(.int .u32 (if x<y+b then 1 else 0))])))) (by kernel_rfl))
def nat_Sub_0_mk (a b:Nat)(x:Int × Int × List V × List Nat):St:=⟨mkS 48 [(0,(.val (N a))),(1,(.val (N b))),(6,(.osl 0 0 ((L a:Int).toNat) 1)),(7,(.val (.int .u32 x.2.1))),(18,(.val (.int .i64 ((L a:Int).toNat:Int)))),(19,(.val (.int .i64 x.1)))],[⟨true,false,x.2.2.1⟩]⟩
def nat_Sub_0_I (a b:Nat)(x:Int × Int × List V × List Nat):Prop:=x.2.2.1=U x.2.2.2∧SubInv a b x.1 x.2.1 x.2.2.2
def nat_Sub_0_mu (a _:Nat)(x:Int × Int × List V × List Nat):Nat:=((L a:Int)-x.1).toNat
def nat_Sub_0_ex (a _:Nat)(y:Int × List Nat):Ex × St:=(.exit 0,⟨mkS 48 [(6,(.osl 0 0 ((L a:Int).toNat) 1))],[⟨true,false,(U y.2)⟩]⟩)
def nat_Sub_0_J (a b:Nat)(y:Int × List Nat):Prop:=SubInv a b (L a:Int) y.1 y.2
abbrev nat_Sub_0_N (a b:Nat):=NX (nat_Sub_0_mk a b) (nat_Sub_0_I a b) (nat_Sub_0_mu a b) (nat_Sub_0_ex a b) (nat_Sub_0_J a b)
theorem zae (a b:Nat)(c0:L a≤1073741824)(x0:Int × Int × List V × List Nat)(hI:nat_Sub_0_I a b x0):LoopOk Tryz.prog Amb (loopN Tryz.f223 0) (nat_Sub_0_mk a b x0) (fun e st_=>∃ y,nat_Sub_0_J a b y∧nat_Sub_0_ex a b y=(e,st_)) :=
 z6m hP hAmb ⟨[0,1,6,7,18,19],1,[]⟩ (nat_Sub_0_mk a b) (nat_Sub_0_I a b) (nat_Sub_0_mu a b) (nat_Sub_0_ex a b) (nat_Sub_0_J a b) x0 hI (fun (i,c,o,l)=>.lit<|.both (.lit<|.both (.yes<|.yes<|.yes<|.yes<|.lit<|.call (.tup [(.int .u32 (((gi (limbs a) i.toNat)-(gi (limbs b) i.toNat)-c)%4294967296)),(.int .u32 (if (gi (limbs a) i.toNat)<(gi (limbs b) i.toNat)+c then 1 else 0))])<|.yes<|.yes<|.lit<|.yes<|.fin2 ⟨[0,1,6,7,18,19],1,[]⟩) (.yes<|.yes<|.lit<|.call (.tup [(.int .u32 (((gi (limbs a) i.toNat)-0-c)%4294967296)),(.int .u32 (if (gi (limbs a) i.toNat)<0+c then 1 else 0))])<|.yes<|.yes<|.lit<|.yes<|.fin2 ⟨[0,1,6,7,18,19],1,[]⟩)) (.fin2 ⟨[6],1,[]⟩)) (by
  rintro ⟨i,c,o,l⟩ hI
  have hI:o=U l∧SubInv a b i c l:=hI
  obtain ⟨rfl,h1⟩:=hI
  have ⟨p0,p1,p2,p3,p4,_⟩:=h1
  have e0:=z8g a
  have e1:=z8g b
  have g0:=z8a (z6y a) i.toNat
  have g1:=z89 (limbs a) i.toNat
  have g2:=z8a (z6y b) i.toNat
  have g3:=z89 (limbs b) i.toNat
  have g4:=z6n l
  exact z6d (aI True.intro (aI (fun (h101:(iLt i ((L a:Int).toNat:Int))=true)=>have _gh101:=z73 h101; aI (fun (h102:(iLt i ((lim b).length:Int))=true)=>have _gh102:=z73 h102; aI (z7o oA:(inB i ((lim b).length))=true) (aI (ld_L oA:(Nat.blt i.toNat (lim b).length && isIntK .u32 (nth (lim b) i.toNat .unk))=true) (aI (z7o oA:(inB i ((lim a).length))=true) (aI (ld_L oA:(Nat.blt i.toNat (lim a).length && isIntK .u32 (nth (lim a) i.toNat .unk))=true) (aI (zad (gi (limbs a) i.toNat) (gi (limbs b) i.toNat) c oA oA oA) (aI (z7o oA:(inB i ((L a:Int).toNat))=true) (aI (z7y oA:(Nat.ble ((0+i.toNat)+1) (U l).length)=true) (aI (z7s oA:(fits .i64 (i+1))=true) (aI tT ((z6j ((i+1),(if (gi (limbs a) i.toNat)<(gi (limbs b) i.toNat)+c then 1 else 0),(List.set (U l) (0+i.toNat) (.int .u32 (((gi (limbs a) i.toNat)-(gi (limbs b) i.toNat)-c)%4294967296))),(l.set i.toNat (((gi (limbs a) i.toNat)-(gi (limbs b) i.toNat)-c)%4294967296).toNat)) (show (List.set (U l) (0+i.toNat) (.int .u32 (((gi (limbs a) i.toNat)-(gi (limbs b) i.toNat)-c)%4294967296)))=U (l.set i.toNat (((gi (limbs a) i.toNat)-(gi (limbs b) i.toNat)-c)%4294967296).toNat)∧SubInv a b (i+1) (if (gi (limbs a) i.toNat)<(gi (limbs b) i.toNat)+c then 1 else 0) (l.set i.toNat (((gi (limbs a) i.toNat)-(gi (limbs b) i.toNat)-c)%4294967296).toNat) from ⟨setU _ oO oO,by first | exact z9h h1 oO rfl | exact z9h h1 oO (z91 (show (limbs b).length≤i.toNat from (show L b≤i.toNat by omega))).symm⟩) (show ((L a:Int)-(i+1)).toNat<((L a:Int)-i).toNat by omega):nat_Sub_0_N a b (i,c,(U l),l) .normal (nat_Sub_0_mk a b ((i+1),(if (gi (limbs a) i.toNat)<(gi (limbs b) i.toNat)+c then 1 else 0),(List.set (U l) (0+i.toNat) (.int .u32 (((gi (limbs a) i.toNat)-(gi (limbs b) i.toNat)-c)%4294967296))),(l.set i.toNat (((gi (limbs a) i.toNat)-(gi (limbs b) i.toNat)-c)%4294967296).toNat)))))))))))))) (fun (h103:(iLt i ((lim b).length:Int))=false)=>have _gh103:=z74 h103; aI (z7o oA:(inB i ((lim a).length))=true) (aI (ld_L oA:(Nat.blt i.toNat (lim a).length && isIntK .u32 (nth (lim a) i.toNat .unk))=true) (aI (zad (gi (limbs a) i.toNat) 0 c oA oA oA) (aI (z7o oA:(inB i ((L a:Int).toNat))=true) (aI (z7y oA:(Nat.ble ((0+i.toNat)+1) (U l).length)=true) (aI (z7s oA:(fits .i64 (i+1))=true) (aI tT ((z6j ((i+1),(if (gi (limbs a) i.toNat)<0+c then 1 else 0),(List.set (U l) (0+i.toNat) (.int .u32 (((gi (limbs a) i.toNat)-0-c)%4294967296))),(l.set i.toNat (((gi (limbs a) i.toNat)-0-c)%4294967296).toNat)) (show (List.set (U l) (0+i.toNat) (.int .u32 (((gi (limbs a) i.toNat)-0-c)%4294967296)))=U (l.set i.toNat (((gi (limbs a) i.toNat)-0-c)%4294967296).toNat)∧SubInv a b (i+1) (if (gi (limbs a) i.toNat)<0+c then 1 else 0) (l.set i.toNat (((gi (limbs a) i.toNat)-0-c)%4294967296).toNat) from ⟨setU _ oO oO,by first | exact z9h h1 oO rfl | exact z9h h1 oO (z91 (show (limbs b).length≤i.toNat from (show L b≤i.toNat by omega))).symm⟩) (show ((L a:Int)-(i+1)).toNat<((L a:Int)-i).toNat by omega):nat_Sub_0_N a b (i,c,(U l),l) .normal (nat_Sub_0_mk a b ((i+1),(if (gi (limbs a) i.toNat)<0+c then 1 else 0),(List.set (U l) (0+i.toNat) (.int .u32 (((gi (limbs a) i.toNat)-0-c)%4294967296))),(l.set i.toNat (((gi (limbs a) i.toNat)-0-c)%4294967296).toNat))))))))))))) (fun (h104:(iLt i ((L a:Int).toNat:Int))=false)=>have _gh104:=z74 h104; aI tT ((z6k 0 ((nat_Sub_0_ex a b (c,l)).2) (c,l) (show SubInv a b (L a:Int) c l from (show i=(L a:Int) by omega) ▸ h1) rfl:nat_Sub_0_N a b (i,c,(U l),l) (.exit 0) ((nat_Sub_0_ex a b (c,l)).2)))))) (by kernel_rfl))
theorem zaf (a:Nat)(b:Nat)(c0:L a≤67108864)(c1:L b≤67108864)(c2:b≤a):Impl Tryz.prog Amb 223 [(N a),(N b)] (.tup [(N (a-b)),(.bool true)]):=by
 have e0:=z8g a
 have e1:=z8g b
 have e2:0≤cmpN a b:=by unfold cmpN; split<;>(try split)<;>omega
 exact z6e hP hAmb Tryz.func223 (by kernel_rfl) (.lit<|.call (.int .i64 (cmpN a b))<|.lit<|.no<|.lit<|.call (.int .i64 (L a:Int))<|.yes<|.loop ⟨[0,1,6,7,18,19],1,[]⟩ ((nat_Sub_0_mk a b (0,0,(List.replicate ((L a:Int).toNat) (.int .u32 0)),(List.replicate (L a) 0)))) (Int × List Nat) (nat_Sub_0_ex a b) (nat_Sub_0_J a b) (fun y=>.yes<|.call (.int .i64 ((limbs (val y.2)).length:Int))<|.yes<|.yes<|.ret))
  (z6d (aI True.intro (aI (za9 a b oA oA) (aI (z7k oO:(iLt (cmpN a b) 0)=false) (aI (z9z a oA) (aI (z7z oA:(((iEq (L a:Int) (L a:Int)) && (iLe 0 (L a:Int))) && (iLe (L a:Int) 1073741824))=true) (aI tT (aI (rfl:(nat_Sub_0_mk a b (0,0,(List.replicate ((L a:Int).toNat) (.int .u32 0)),(List.replicate (L a) 0)))=(nat_Sub_0_mk a b (0,0,(List.replicate ((L a:Int).toNat) (.int .u32 0)),(List.replicate (L a) 0)))) (aI (zae a b oO (0,0,(List.replicate ((L a:Int).toNat) (.int .u32 0)),(List.replicate (L a) 0)) (show (List.replicate ((L a:Int).toNat) (.int .u32 0))=U (List.replicate (L a) 0)∧SubInv a b 0 0 (List.replicate (L a) 0) from ⟨z6v _,z9g _ _⟩)) (fun y (hJ:nat_Sub_0_J a b y)=>have hJ:SubInv a b (L a:Int) y.1 y.2:=hJ; have ⟨_,_,q2,q3,q4,_⟩:=hJ; have q5:=z6n y.2; have q6:=z8d (z9i c2 hJ).1; have q7:=(z9i c2 hJ).2.1; aI (z80 oA:((true && Nat.ble (0+(L a:Int).toNat) (U y.2).length) && true)=true) (aI (za1 (List.take ((L a:Int).toNat) (List.drop 0 (U y.2))) y.2 (tkU rfl oO) (z9i c2 hJ).1 oO) (aI (z7r (z7r (z7r (rfl) (z7g oA)) (z7g oA)) (rfl):(((true && (iLe (0:Int) ((limbs (val y.2)).length:Int))) && (iLe ((limbs (val y.2)).length:Int) ((L a:Int).toNat:Int))) && true)=true) (aI (z81 oA:((true && Nat.ble (0+(((limbs (val y.2)).length:Int)-0).toNat) (U y.2).length) && (true && true))=true) (z5z (z5x (congrArg (V.sl 1) (z99 rfl (z9i c2 hJ).1 (z9i c2 hJ).2.2))) (z5w _):vsub (.tup [(.sl 1 (List.take ((((limbs (val y.2)).length:Int)-0).toNat) (List.drop 0 (U y.2)))),(.bool true)]) (.tup [(N (a-b)),(.bool true)])))))))))))))) (by kernel_rfl))
end Go.Proofs.YtcbihoojfakhdaaGreatDoor

namespace Go.Proofs.YtcbihoojfakhdaaGreatDoor
theorem zag (k:Nat):(4294967296:Nat)^k=2^(32*k):=by rw [show (4294967296:Nat)=2^32 from rfl,← Nat.pow_mul]
theorem zah {n:Int}(h:0≤n):Int.tdiv n 32=n / 32:=Int.tdiv_eq_ediv_of_nonneg h
theorem zai {n:Int}(h:0≤n):wRem n 32=n%32:=Int.tmod_eq_emod_of_nonneg h
theorem zaj (k:Nat):(2:Int)^k=((2^k:Nat):Int):=by simp
theorem zak {x r:Nat}(hx:x<4294967296)(hr:r<32):x*2^r<9223372036854775808:=by
 have h2:2^r≤2^31:=Nat.pow_le_pow_right (by omega) (by omega)
 calc x*2^r≤x*2^31:=Nat.mul_le_mul_left _ h2
  _<_:=by omega
theorem zal {p q r:Nat}(hp:p<2^r):p ||| 2^r*q=p+2^r*q:=by
 rw [Nat.or_comm,← Nat.two_pow_add_eq_or_of_lt hp,Nat.add_comm]
theorem set2 (l:List Nat){k k' k2 k2':Nat}{w w2:Int}{d d2:Nat}(h1:k=k')(h2:w=(d:Int))(h3:k2=k2')(h4:w2=(d2:Int)) :
  List.set (List.set (U l) k (.int .u32 w)) k2 (.int .u32 w2)=U ((l.set k' d).set k2' d2):=by
 rw [setU l h1 h2,setU _ h3 h4]
theorem zam {n:Int}(h:0≤n):min (wRem n (32:Int)).toNat (IntKind.bits .u64)=n.toNat%32:=by
 rw [zai h,show IntKind.bits .u64=64 from rfl]; omega
theorem zan (a k:Nat){n:Int}(h:0≤n):0≤gi (limbs a) k*2^(min (wRem n (32:Int)).toNat (IntKind.bits .u64))∧gi (limbs a) k*2^(min (wRem n (32:Int)).toNat (IntKind.bits .u64))<9223372036854775808:=by
 rw [zam h,z6q,zaj,← Int.natCast_mul]
 have:=zak (z88 (z6y a) k) (show n.toNat%32<32 by omega)
 omega
theorem zao (x:Int):IntKind.wrap .u32 x=((IntKind.wrap .u32 x).toNat:Int):=by rw [z7v]; omega
theorem zap (x y:Int):wOr .u32 x y=((wOr .u32 x y).toNat:Int):=zao _
def ShlInv (a n:Nat)(i:Int)(out:List Nat):Prop :=
 0≤i∧i≤L a∧out.length=L a+n / 32+1∧Dig out∧val (out.take (i.toNat+n / 32+1))=val ((limbs a).take i.toNat)*2^n∧out.getD (i.toNat+n / 32) 0<2^(n%32)
theorem zaq (a n:Nat):ShlInv a n 0 (List.replicate (L a+n / 32+1) 0):=by
 refine ⟨by omega,by omega,by simp,z86 _,?_,?_⟩
 ·rw [List.take_replicate,z70]; simp [val]
 ·rw [List.getD_eq_getElem?_getD,List.getElem?_replicate]
  have:=Nat.two_pow_pos (n%32)
  split<;>simpa using this
theorem zar {a n:Nat}{i p y:Int}{out:List Nat}(h:ShlInv a n i out)(hi:i<L a)(hp:p=gi out (i.toNat+n / 32))(hy:y=gi (limbs a) i.toNat*2^(n%32)) :
  ShlInv a n (i+1) ((out.set (i.toNat+n / 32) (wOr .u32 p (IntKind.wrap .u32 y)).toNat).set (i.toNat+n / 32+1) (IntKind.wrap .u32 (Int.fdiv y (2^32))).toNat):=by
 obtain ⟨h0,h1,h2,h3,h4,h5⟩:=h
 have gx:=z88 (z6y a) i.toNat
 have gp:=z88 h3 (i.toNat+n / 32)
 rw [z6q] at hp hy
 have htk:=z92 out (i.toNat+n / 32)
 have hta:=z92 (limbs a) i.toNat
 generalize (limbs a).getD i.toNat 0=x at *
 have hsum:=h5
 generalize hP:out.getD (i.toNat+n / 32) 0=P at *
 have hr:n%32<32:=by omega
 have hb:=zak gx hr
 have hyN:y=((x*2^(n%32):Nat):Int):=by rw [hy,zaj]; simp
 generalize hY:x*2^(n%32)=Y at *
 subst hyN
 subst hp
 have e1:IntKind.wrap .u32 ((Y:Nat):Int)=((Y%4294967296:Nat):Int):=by rw [z7v]; omega
 have e2:IntKind.wrap .u32 (Int.fdiv ((Y:Nat):Int) (2^32))=((Y / 4294967296:Nat):Int):=by rw [z9c,z7v]; omega
 have hlo:Y%4294967296=2^(n%32)*(x%2^(32-n%32)):=by
  rw [← hY,Nat.mul_comm x,show (4294967296:Nat)=2^(n%32)*2^(32-n%32) by rw [← Nat.pow_add,show n%32+(32-n%32)=32 by omega],Nat.mul_mod_mul_left]
 have e3:wOr .u32 ((P:Nat):Int) ((Y%4294967296:Nat):Int)=((P+Y%4294967296:Nat):Int):=by
  rw [z9l gp (Nat.mod_lt _ (by omega)),hlo,zal h5]
 have hsumlt:P+Y%4294967296<4294967296:=by
  have:P ||| Y%4294967296<2^32:=Nat.or_lt_two_pow (by omega) (by omega)
  rw [hlo,zal h5,← hlo] at this
  omega
 have hhi:Y / 4294967296<2^(n%32):=by
  rw [← hY]
  apply Nat.div_lt_of_lt_mul
  exact Nat.mul_lt_mul_of_pos_right gx (Nat.two_pow_pos _)
 rw [e1,e2,e3,Int.toNat_natCast,Int.toNat_natCast]
 refine ⟨by omega,by omega,by simpa using h2,z87 (z87 h3 hsumlt _) (by omega) _,?_,?_⟩
 ·rw [show (i+1).toNat=i.toNat+1 by omega,show i.toNat+1+n / 32+1=(i.toNat+n / 32+1)+1 by omega,z96 _ _ (by simp; omega),z96 _ _ (by omega),hta]
  rw [Nat.add_mul,← h4,htk]
  have hB:4294967296^i.toNat*x*2^n=4294967296^(i.toNat+n / 32)*Y:=by
   rw [← hY,zag,zag,Nat.mul_add,Nat.pow_add,Nat.mul_assoc,Nat.mul_assoc,Nat.mul_left_comm (2^(32*(n / 32))),← Nat.pow_add,show 32*(n / 32)+n%32=n by omega]
  rw [hB,Nat.pow_succ,Nat.mul_assoc (4294967296^_),Nat.mul_add,Nat.add_assoc,Nat.add_assoc,Nat.add_assoc,← Nat.mul_add (4294967296^_) (Y%4294967296),Nat.mod_add_div]
 ·rw [show (i+1).toNat+n / 32=i.toNat+n / 32+1 by omega,z94 _ _ (by simp; omega)]
  exact hhi
theorem zas {a n:Nat}{out:List Nat}(h:ShlInv a n (L a:Int) out):Dig out∧out.length=L a+n / 32+1∧val out=a*2^n:=by
 obtain ⟨h0,h1,h2,h3,h4,h5⟩:=h
 refine ⟨h3,h2,?_⟩
 rw [Int.toNat_natCast,z98 a (Nat.le_refl _),z97 out (by omega)] at h4
 exact h4
theorem zat (s:Int)(k:Nat):Int.fdiv s (2^k)=s / ((2^k:Nat):Int):=by
 rw [Int.fdiv_eq_ediv_of_nonneg _ (by rw [zaj]; exact Int.natCast_nonneg _),zaj]
theorem zau (l:List Nat)(k:Nat)(hD:Dig l):val (l.drop k)=val l / 4294967296^k:=by
 by_cases h:k≤l.length
 ·have e:=z6z (l.take k) (l.drop k)
  rw [List.take_append_drop,List.length_take,Nat.min_eq_left h] at e
  have hl:=z71 (z83 hD k)
  rw [List.length_take,Nat.min_eq_left h] at hl
  rw [e,Nat.add_mul_div_left _ _ (Nat.pow_pos (by omega)),Nat.div_eq_of_lt hl,Nat.zero_add]
 ·have hl:=z71 hD
  rw [List.drop_eq_nil_of_le (by omega),Nat.div_eq_of_lt]
  ·rfl
  ·exact Nat.lt_of_lt_of_le hl (Nat.pow_le_pow_right (by omega) (by omega))
theorem zav (l:List Nat)(k:Nat)(hD:Dig l):l.getD k 0=val l / 4294967296^k%4294967296:=by
 rw [← zau l k hD]
 by_cases h:k<l.length
 ·rw [List.drop_eq_getElem_cons h,val,List.getD_eq_getElem?_getD,List.getElem?_eq_getElem h]
  have:=hD _ (List.getElem_mem h)
  simp only [Option.getD_some]
  omega
 ·rw [List.drop_eq_nil_of_le (by omega),List.getD_eq_getElem?_getD,List.getElem?_eq_none (by omega)]
  rfl
theorem zaw (a k:Nat):(limbs a).getD k 0=a / 4294967296^k%4294967296:=by
 rw [zav _ _ (z6y a),z6x]
def ShrInv (a n:Nat)(i:Int)(out:List Nat):Prop :=
 0≤i∧i≤((L a-n / 32:Nat):Int)∧out.length=L a-n / 32∧Dig out∧val (out.take i.toNat)=a / 2^n%4294967296^i.toNat
theorem zax (a n:Nat):ShrInv a n 0 (List.replicate (L a-n / 32) 0):=⟨by omega,by omega,by simp,z86 _,by simp [val,Nat.mod_one]⟩
theorem zay (a n i:Nat):a / 2^n / 4294967296^i%4294967296 =
  ((limbs a).getD (i+n / 32) 0+(limbs a).getD (i+n / 32+1) 0*4294967296) / 2^(n%32)%4294967296:=by
 rw [zaw,zaw,Nat.pow_succ,← Nat.div_div_eq_div_mul a]
 have e:a / 2^n / 4294967296^i=a / 4294967296^(i+n / 32) / 2^(n%32):=by
  rw [Nat.div_div_eq_div_mul,Nat.div_div_eq_div_mul,zag,zag,← Nat.pow_add,← Nat.pow_add]
  congr 2
  omega
 rw [e]
 generalize a / 4294967296^(i+n / 32)=q
 have hr:2^(n%32)*2^(32-n%32)=4294967296:=by rw [← Nat.pow_add,show n%32+(32-n%32)=32 by omega]
 have hq:q=(q%4294967296+q / 4294967296%4294967296*4294967296)+2^(n%32)*(2^(32-n%32)*(4294967296*(q / 4294967296 / 4294967296))):=by
  rw [← Nat.mul_assoc,hr]; omega
 conv=>lhs; rw [hq]
 rw [Nat.add_mul_div_left _ _ (Nat.two_pow_pos _),Nat.mul_left_comm,Nat.add_mul_mod_self_left]
theorem zaz {a n:Nat}{i y:Int}{out:List Nat}(h:ShrInv a n i out)(hi:i<((L a-n / 32:Nat):Int))
  (hy:y=gi (limbs a) (i.toNat+n / 32)+gi (limbs a) (i.toNat+n / 32+1)*4294967296) :
  ShrInv a n (i+1) (out.set i.toNat (IntKind.wrap .u32 (Int.fdiv y (2^(n%32)))).toNat):=by
 obtain ⟨h0,h1,h2,h3,h4⟩:=h
 rw [z6q,z6q] at hy
 have hd:=zay a n i.toNat
 have hyN:y=(((limbs a).getD (i.toNat+n / 32) 0+(limbs a).getD (i.toNat+n / 32+1) 0*4294967296:Nat):Int):=by rw [hy]; simp
 rw [hyN]
 generalize (limbs a).getD (i.toNat+n / 32) 0+(limbs a).getD (i.toNat+n / 32+1) 0*4294967296=Y at *
 have e1:IntKind.wrap .u32 (Int.fdiv (Y:Int) (2^(n%32)))=((Y / 2^(n%32)%4294967296:Nat):Int):=by rw [zat,z7v]; simp
 rw [e1,Int.toNat_natCast,← hd]
 refine ⟨by omega,by omega,by simpa using h2,z87 h3 (by omega) _,?_⟩
 rw [show (i+1).toNat=i.toNat+1 by omega,z96 _ _ (by omega),h4,Nat.pow_succ,Nat.mod_mul]
theorem zb0 {a n:Nat}{out:List Nat}(h:ShrInv a n ((L a-n / 32:Nat):Int) out)(hw:n / 32<L a):Dig out∧out.length=L a-n / 32∧val out=a / 2^n:=by
 obtain ⟨h0,h1,h2,h3,h4⟩:=h
 refine ⟨h3,h2,?_⟩
 rw [Int.toNat_natCast,z97 out (by omega),Nat.mod_eq_of_lt] at h4
 ·exact h4
 ·apply Nat.div_lt_of_lt_mul
  refine Nat.lt_of_lt_of_le (L_lt a) ?_
  rw [zag,zag,← Nat.pow_add]
  exact Nat.pow_le_pow_right (by omega) (by omega)
theorem zb1 {a n:Nat}(hw:L a≤n / 32):a / 2^n=0:=by
 apply Nat.div_eq_of_lt
 refine Nat.lt_of_lt_of_le (L_lt a) ?_
 rw [zag]
 exact Nat.pow_le_pow_right (by omega) (by omega)
theorem zb2 {a:Int}(h:0≤a):(BitVec.ofInt 64 a).toNat=a.toNat%18446744073709551616:=by
 obtain ⟨n,rfl⟩:=Int.eq_ofNat_of_zero_le h
 rw [BitVec.ofInt_natCast,BitVec.toNat_ofNat,Int.toNat_natCast]
theorem zb3 {a b:Nat}(ha:a<4294967296)(hb:b<4294967296):wOr .u64 (a:Int) ((b:Int)*4294967296)=(a:Int)+(b:Int)*4294967296:=by
 have e:(b:Int)*4294967296=((4294967296*b:Nat):Int):=by omega
 have h1:a ||| 4294967296*b=a+4294967296*b:=zal (r:=32) ha
 rw [e]
 show IntKind.wrap .u64 ((BitVec.ofInt 64 (a:Int) ||| BitVec.ofInt 64 ((4294967296*b:Nat):Int)).toNat:Int)=_
 rw [BitVec.toNat_or,zb2 (by omega),zb2 (by omega),z7w,Int.toNat_natCast,Int.toNat_natCast,Nat.mod_eq_of_lt (show a<18446744073709551616 by omega),Nat.mod_eq_of_lt (by omega),h1]
 omega
theorem zb4 (a k k2:Nat):wOr .u64 (gi (limbs a) k) (gi (limbs a) k2*2^32)=gi (limbs a) k+gi (limbs a) k2*4294967296:=by
 rw [z6q,z6q]
 exact zb3 (z88 (z6y a) k) (z88 (z6y a) k2)
theorem zb5 {a n:Nat}(hw:L a≤n / 32):a%2^n=a:=by
 apply Nat.mod_eq_of_lt
 refine Nat.lt_of_lt_of_le (L_lt a) ?_
 rw [zag]
 exact Nat.pow_le_pow_right (by omega) (by omega)
theorem zb6 {x r:Nat}(hx:x<4294967296)(hr:r<32):wAnd .u32 (x:Int) (2^r-1)=((x%2^r:Nat):Int):=by
 have h1:(2:Int)^r-1=((2^r-1:Nat):Int):=by have:=Nat.two_pow_pos r; rw [zaj]; omega
 have h2:2^r≤2^31:=Nat.pow_le_pow_right (by omega) (by omega)
 rw [h1,z9k hx (by omega),Nat.and_two_pow_sub_one_eq_mod]
theorem zb7 {a n:Nat}(hw:n / 32<L a):val (((limbs a).take (n / 32+1)).set (n / 32) ((limbs a).getD (n / 32) 0%2^(n%32)))=a%2^n:=by
 have hl:((limbs a).take (n / 32+1)).length=n / 32+1:=by rw [List.length_take]; unfold L at hw; omega
 rw [← z97 (((limbs a).take (n / 32+1)).set (n / 32) _) (n:=n / 32+1) (by simp; omega),z96 _ _ (by omega),List.take_take,Nat.min_eq_left (by omega)]
 have hs:=z92 (limbs a) (n / 32)
 have e:=z6z ((limbs a).take (n / 32)) ((limbs a).drop (n / 32))
 rw [List.take_append_drop,z6x,List.length_take,Nat.min_eq_left (by unfold L at hw; omega),zau _ _ (z6y a),z6x] at e
 have hlt:=z71 (z83 (z6y a) (n / 32))
 rw [List.length_take,Nat.min_eq_left (by unfold L at hw; omega)] at hlt
 rw [zaw]
 generalize val ((limbs a).take (n / 32))=t at *
 have hn:2^n=4294967296^(n / 32)*2^(n%32):=by rw [zag,← Nat.pow_add]; congr 1; omega
 rw [hn,Nat.mod_mul]
 have h1:a%4294967296^(n / 32)=t:=by
  have:=congrArg (·%4294967296^(n / 32)) e
  simp only [Nat.add_mul_mod_self_left] at this
  rw [this,Nat.mod_eq_of_lt hlt]
 rw [h1]
 have hr:2^(32-n%32)*2^(n%32)=4294967296:=by rw [← Nat.pow_add,show 32-n%32+n%32=32 by omega]
 rw [← hr,Nat.mod_mul_left_mod]
def nbits (n:Nat):Nat:=if n=0 then 0 else Nat.log2 n+1
theorem zb8 {n k:Nat}(h1:2^k≤n)(h2:n<2^(k+1)):nbits n=k+1:=by
 have h0:n≠0:=by have:=Nat.two_pow_pos k; omega
 unfold nbits
 rw [if_neg h0]
 have:=(Nat.log2_eq_iff h0).2 ⟨h1,h2⟩
 omega
theorem zb9 (n:Nat):n<2^nbits n:=by
 unfold nbits
 split
 ·omega
 ·exact Nat.lt_log2_self
theorem zba {n:Nat}(h:n≠0):2^(nbits n-1)≤n:=by
 unfold nbits
 rw [if_neg h]
 exact Nat.log2_self_le h
theorem nbits_zero:nbits 0=0:=rfl
theorem zbb {n:Nat}(h:n≠0):0<nbits n:=by unfold nbits; rw [if_neg h]; omega
theorem zbc : ∀ (f x : Nat), x < 2 ^ f → Lib.bitLenAux f x = nbits x
  | 0, x, h => by have : x = 0 := by simpa using h
                  subst this; rfl
  | f + 1, x, h => by
    by_cases h0 : x = 0
    · subst h0; simp [Lib.bitLenAux, nbits]
    · rw [Lib.bitLenAux, if_neg h0, zbc f (x / 2) (by rw [Nat.pow_succ] at h; omega)]
      by_cases h1 : x / 2 = 0
      · have : x = 1 := by omega
        subst this; rfl
      · have a1 := zba h1
        have a2 := zb9 (x / 2)
        have a3 := zbb h1
        rw [Nat.add_comm]
        refine (zb8 ?_ ?_).symm
        · rw [show nbits (x / 2) = nbits (x / 2) - 1 + 1 by omega, Nat.pow_succ]; omega
        · rw [Nat.pow_succ]; omega
theorem zbd {x:Nat}(h:x<4294967296):Lib.bitLen x=nbits x:=zbc 64 x (by omega)
theorem zbe {a:Nat}(h:a≠0):nbits a=32*(L a-1)+nbits ((limbs a).getD (L a-1) 0):=by
 have hp:=z8i h
 have hlow:=z8j h
 have hlt:=L_lt a
 rw [zaw]
 have hq:a / 4294967296^(L a-1)%4294967296=a / 4294967296^(L a-1):=by
  apply Nat.mod_eq_of_lt
  apply Nat.div_lt_of_lt_mul
  rw [← Nat.pow_succ,show (L a-1).succ=L a by omega]
  exact hlt
 rw [hq]
 have h0:a / 4294967296^(L a-1)≠0:=by
  have:=Nat.div_pos hlow (Nat.pow_pos (by omega)); omega
 have a1:=zba h0
 have a2:=zb9 (a / 4294967296^(L a-1))
 have a3:=zbb h0
 generalize hk:nbits (a / 4294967296^(L a-1))=k at *
 rw [show 32*(L a-1)+k=(32*(L a-1)+k-1)+1 by omega]
 apply zb8
 ·rw [show 32*(L a-1)+k-1=(k-1)+32*(L a-1) by omega,Nat.pow_add,← zag]
  exact (Nat.le_div_iff_mul_le (Nat.pow_pos (by omega))).1 a1
 ·rw [show 32*(L a-1)+k-1+1=k+32*(L a-1) by omega,Nat.pow_add,← zag]
  exact (Nat.div_lt_iff_lt_mul (Nat.pow_pos (by omega))).1 a2
theorem zbf (a i:Nat):a.testBit i=decide ((limbs a).getD (i / 32) 0 / 2^(i%32)%2=1):=by
 rw [zaw,Nat.testBit_eq_decide_div_mod_eq]
 congr 1
 have e:a / 2^i=a / 4294967296^(i / 32) / 2^(i%32):=by
  rw [Nat.div_div_eq_div_mul,zag,← Nat.pow_add]; congr 2; omega
 rw [e]
 generalize a / 4294967296^(i / 32)=q
 have hr:2^(i%32)*2^(32-i%32)=4294967296:=by rw [← Nat.pow_add,show i%32+(32-i%32)=32 by omega]
 have h2:2^(32-i%32)=2*2^(31-i%32):=by rw [← Nat.pow_succ',show (31-i%32).succ=32-i%32 by omega]
 have hq:q=q%4294967296+2^(i%32)*(2*(2^(31-i%32)*(q / 4294967296))):=by
  rw [← Nat.mul_assoc 2,← h2,← Nat.mul_assoc,hr]; omega
 conv=>lhs; lhs; rw [hq]
 rw [Nat.add_mul_div_left _ _ (Nat.two_pow_pos _),Nat.add_mul_mod_self_left]
theorem zbg (a:Nat):0<L a→(nbits a:Int)=32*((L a:Int)-1)+(Lib.bitLen (gi (limbs a) ((L a:Int)-1).toNat).toNat:Int)∧Lib.bitLen (gi (limbs a) ((L a:Int)-1).toNat).toNat≤32:=by
 intro h
 have h0:a≠0:=fun e=>by subst e; rw [L_zero] at h; omega
 have ht:=zbe h0
 rw [z6q,show ((L a:Int)-1).toNat=L a-1 by omega,Int.toNat_natCast,zbd (z88 (z6y a) _)]
 refine ⟨by omega,?_⟩
 have h1:=z88 (z6y a) (L a-1)
 generalize (limbs a).getD (L a-1) 0=x at *
 rcases Nat.lt_or_ge 32 (nbits x) with q | q
 ·exfalso
  have hx:x≠0:=fun e=>by subst e; rw [nbits_zero] at q; omega
  have:=zba hx
  have:2^32≤2^(nbits x-1):=Nat.pow_le_pow_right (by omega) (by omega)
  omega
 ·exact q
theorem zbh {n:Int}(h:0≤n):min (wRem n (32:Int)).toNat (IntKind.bits .u32)=n.toNat%32:=by
 rw [zai h,show IntKind.bits .u32=32 from rfl]; omega
theorem zbi {a:Nat}{i:Int}(h:0≤i) :
  iEq (wAnd .u32 (Int.fdiv (gi (limbs a) (Int.tdiv i (32:Int)).toNat) (2^(min (wRem i (32:Int)).toNat (IntKind.bits .u32)))) (1:Int)) 1=a.testBit i.toNat:=by
 rw [zbh h,zah h,show (i / 32).toNat=i.toNat / 32 by omega,z6q,zat,zbf]
 have hx:=z88 (z6y a) (i.toNat / 32)
 generalize (limbs a).getD (i.toNat / 32) 0=x at *
 have hq:x / 2^(i.toNat%32)≤x:=Nat.div_le_self _ _
 rw [← Int.natCast_ediv]
 have:=z9k (a:=x / 2^(i.toNat%32)) (b:=1) (by omega) (by omega)
 rw [show (1:Int)=((1:Nat):Int) from rfl,this,Nat.and_one_is_mod]
 unfold iEq
 rw [Bool.eq_iff_iff]
 simp only [beq_iff_eq,decide_eq_true_eq]
 omega
theorem zbj {a:Nat}{i:Int}(h0:0≤i)(h:L a≤i.toNat / 32):a.testBit i.toNat=false:=by
 rw [zbf,List.getD_eq_getElem?_getD,List.getElem?_eq_none (show (limbs a).length≤i.toNat / 32 from h)]
 simp
theorem zbk {n:Int}(h:0≤n){x:Int}(hx:0≤x∧x<4294967296):wAnd .u32 x ((1:Int)*2^(min (wRem n (32:Int)).toNat (IntKind.bits .u32))-1)=((x.toNat%2^(n.toNat%32):Nat):Int):=by
 rw [zbh h,Int.one_mul]
 have:=zb6 (x:=x.toNat) (r:=n.toNat%32) (by omega) (by omega)
 rwa [Int.toNat_of_nonneg hx.1] at this
theorem zbl {n:Int}(h:0≤n):1≤(1:Int)*2^(min (wRem n (32:Int)).toNat (IntKind.bits .u32))∧(1:Int)*2^(min (wRem n (32:Int)).toNat (IntKind.bits .u32))≤2147483648:=by
 rw [zbh h,Int.one_mul,zaj]
 have h1:=Nat.two_pow_pos (n.toNat%32)
 have h2:2^(n.toNat%32)≤2^31:=Nat.pow_le_pow_right (by omega) (by omega)
 omega
theorem zbm {a:Nat}{n:Int}(hn:0≤n)(h:n.toNat / 32<L a):(List.take ((((Int.tdiv n (32:Int))+1)-0).toNat) (List.drop 0 (lim a)))=U ((limbs a).take (n.toNat / 32+1)):=by
 rw [zah hn,show ((n / 32+1)-0).toNat=n.toNat / 32+1 by omega,List.drop_zero]; exact z6s _ _
theorem zbn {a:Nat}{n:Int}(hn:0≤n)(h:n.toNat / 32<L a):(List.take ((((Int.tdiv n (32:Int))+1)-0).toNat) (List.drop 0 (lim a))).length=n.toNat / 32+1:=by
 rw [zbm hn h,z6n,List.length_take]; unfold L at h; omega
theorem zbo {a:Nat}{n:Int}(hn:0≤n)(h:n.toNat / 32<L a) :
  (Nat.blt (0+(Int.tdiv n (32:Int)).toNat) (List.take ((((Int.tdiv n (32:Int))+1)-0).toNat) (List.drop 0 (lim a))).length && isIntK .u32 (nth (List.take ((((Int.tdiv n (32:Int))+1)-0).toNat) (List.drop 0 (lim a))) (0+(Int.tdiv n (32:Int)).toNat) .unk))=true:=by
 rw [zbm hn h]
 refine ld_U ?_
 rw [List.length_take,zah hn]; unfold L at h; omega
theorem zbp {a:Nat}{n:Int}(hn:0≤n)(h:n.toNat / 32<L a) :
  List.set (List.take ((((Int.tdiv n (32:Int))+1)-0).toNat) (List.drop 0 (lim a))) (0+(Int.tdiv n (32:Int)).toNat) (.int .u32 (wAnd .u32 (intV (nth (List.take ((((Int.tdiv n (32:Int))+1)-0).toNat) (List.drop 0 (lim a))) (0+(Int.tdiv n (32:Int)).toNat) .unk)) (((1:Int)*2^(min (wRem n (32:Int)).toNat (IntKind.bits .u32)))-1)))=U (((limbs a).take (n.toNat / 32+1)).set (n.toNat / 32) ((limbs a).getD (n.toNat / 32) 0%2^(n.toNat%32))):=by
 have hk:0+(Int.tdiv n (32:Int)).toNat=n.toNat / 32:=by rw [zah hn]; omega
 rw [zbm hn h,hk]
 have e:intV (nth (U ((limbs a).take (n.toNat / 32+1))) (n.toNat / 32) .unk)=gi (limbs a) (n.toNat / 32):=by
  show gi ((limbs a).take (n.toNat / 32+1)) (n.toNat / 32)=_
  rw [z6q,z6q,List.getD_eq_getElem?_getD,List.getD_eq_getElem?_getD,List.getElem?_take,if_pos (by omega)]
 rw [e,zbk hn ⟨z89 _ _,z8a (z6y a) _⟩,z6q,Int.toNat_natCast]
 exact setU _ rfl rfl
theorem zbq {a:Nat}{n:Int}(h:n.toNat / 32<L a):Dig (((limbs a).take (n.toNat / 32+1)).set (n.toNat / 32) ((limbs a).getD (n.toNat / 32) 0%2^(n.toNat%32)))∧(((limbs a).take (n.toNat / 32+1)).set (n.toNat / 32) ((limbs a).getD (n.toNat / 32) 0%2^(n.toNat%32))).length=n.toNat / 32+1∧val (((limbs a).take (n.toNat / 32+1)).set (n.toNat / 32) ((limbs a).getD (n.toNat / 32) 0%2^(n.toNat%32)))=a%2^n.toNat:=by
 refine ⟨z87 (z83 (z6y a) _) (Nat.lt_of_le_of_lt (Nat.mod_le _ _) (z88 (z6y a) _)) _,?_,zb7 h⟩
 rw [List.length_set,List.length_take]; unfold L at h; omega
def tz (n:Nat):Nat:=if n=0 then 0 else if n%2=1 then 0 else tz (n / 2)+1
termination_by n
decreasing_by omega
theorem zbr {n:Nat}(h:n≠0):n%2^tz n=0∧n / 2^tz n%2=1:=by
 induction n using Nat.strongRecOn with
 | _ n ih =>
  rw [tz,if_neg h]
  split
  ·rename_i h1; simpa [Nat.mod_one] using h1
  ·rename_i h1
   obtain ⟨i1,i2⟩:=ih (n / 2) (by omega) (by omega)
   rw [Nat.pow_succ,Nat.mul_comm,← Nat.div_div_eq_div_mul]
   refine ⟨?_,i2⟩
   rw [Nat.mod_mul,i1,Nat.mul_zero,Nat.add_zero]
   omega
theorem zbs {n k:Nat}(h0:n%2^k=0)(h1:n / 2^k%2=1):tz n=k:=by
 have hn:n≠0:=fun e=>by subst e; simp at h1
 obtain ⟨s0,s1⟩:=zbr hn
 -- both split n alike
 have key:∀ {i j:Nat},n%2^i=0→n / 2^i%2=1→n%2^j=0→j≤i:=by
  intro i j a b c
  rcases Nat.lt_or_ge i j with q | q
  ·exfalso
   have e:2^j=2^i*(2*2^(j-i-1)):=by rw [← Nat.pow_succ',← Nat.pow_add]; congr 1; omega
   have d:2^j ∣ n:=Nat.dvd_of_mod_eq_zero c
   obtain ⟨m,hm⟩:=d
   rw [e,Nat.mul_assoc] at hm
   rw [hm,Nat.mul_div_cancel_left _ (Nat.two_pow_pos _),Nat.mul_assoc,Nat.mul_mod_right] at b
   omega
  ·exact q
 exact Nat.le_antisymm (key h0 h1 s0) (key s0 s1 h0)
theorem zbt {x:Nat}(h0:x≠0)(h:x<4294967296):Lib.ctz 32 x=tz x∧tz x<32:=by
 obtain ⟨m,h1,h2⟩:=Lib.ctzFrom_spec 32 x (by omega) h
 have e:Lib.ctz 32 x=Lib.ctzFrom 32 x:=by unfold Lib.ctz; rw [if_neg h0]
 have t:tz x=Lib.ctzFrom 32 x:=by
  generalize Lib.ctzFrom 32 x=k at *
  apply zbs
  ·rw [h1]; exact Nat.mul_mod_right _ _
  ·rw [h1,Nat.mul_div_cancel_left _ (Nat.two_pow_pos _)]; omega
 rw [e,t]; exact ⟨rfl,h2⟩
theorem zbu {a i:Nat}(hz:(limbs a).take i=List.replicate i 0)(hi:i<L a)(hx:(limbs a).getD i 0≠0):tz a=32*i+tz ((limbs a).getD i 0):=by
 have e:=z8w (limbs a) i hi
 rw [z6x,hz,z70,Nat.zero_add] at e
 obtain ⟨s0,s1⟩:=zbr hx
 have hlt:=(zbt hx (z88 (z6y a) i)).2
 generalize (limbs a).getD i 0=x at *
 generalize val ((limbs a).drop (i+1))=r at *
 generalize tz x=k at *
 have hs:(4294967296:Nat)=2^k*(2*2^(31-k)):=by rw [← Nat.pow_succ',← Nat.pow_add,show k+(31-k).succ=32 by omega]
 obtain ⟨y,rfl⟩:=Nat.dvd_of_mod_eq_zero s0
 have e2:2^k*y+4294967296*r=2^k*(y+2*(2^(31-k)*r)):=by rw [Nat.mul_add,hs]; simp only [Nat.mul_assoc]
 rw [e2,zag,← Nat.mul_assoc,← Nat.pow_add] at e
 rw [Nat.mul_div_cancel_left _ (Nat.two_pow_pos _)] at s1
 apply zbs
 ·rw [e]; exact Nat.mul_mod_right _ _
 ·rw [e,Nat.mul_div_cancel_left _ (Nat.two_pow_pos _)]; omega
theorem zbv {a i:Nat}(hz:(limbs a).take i=List.replicate i 0)(hi:i<L a)(hx:gi (limbs a) i=0):(limbs a).take (i+1)=List.replicate (i+1) 0:=by
 have hi':i<(limbs a).length:=hi
 rw [z6q] at hx
 rw [List.take_succ_eq_append_getElem hi',hz,List.replicate_succ']
 rw [List.getD_eq_getElem?_getD,List.getElem?_eq_getElem hi'] at hx
 simp only [Option.getD_some] at hx
 rw [show (limbs a)[i]=0 by omega]
theorem zbw {a:Nat}(hz:(limbs a).take (L a)=List.replicate (L a) 0):tz a=0:=by
 have:a=0:=by
  have h:=congrArg val hz
  rwa [z98 a (Nat.le_refl _),z70] at h
 subst this; rw [tz]; rfl
theorem zbx {a:Nat}{i:Int}(h0:0≤i)(hz:(limbs a).take i.toNat=List.replicate i.toNat 0)(hi:i<L a)(hx:gi (limbs a) i.toNat≠0) :
  32*i+(Lib.ctz 32 (gi (limbs a) i.toNat).toNat:Int)=(tz a:Int)∧Lib.ctz 32 (gi (limbs a) i.toNat).toNat<32:=by
 rw [z6q] at hx
 have hx':(limbs a).getD i.toNat 0≠0:=by omega
 have h1:=zbt hx' (z88 (z6y a) _)
 rw [z6q,Int.toNat_natCast,zbu hz (by omega) hx',h1.1]
 refine ⟨by omega,by omega⟩
end Go.Proofs.YtcbihoojfakhdaaGreatDoor
