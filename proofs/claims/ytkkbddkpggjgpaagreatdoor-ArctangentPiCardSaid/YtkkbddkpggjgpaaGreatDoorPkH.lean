/-
  Lower layers: what functions of the program compute, and plain facts. Conditions: as the theorems say.
-/
import Derived.Lib.BitFns
import Derived.Lib.TrailingZeros
import Derived.Test.YtkkbddkpggjgpaaGreatDoorPkG
set_option linter.unusedVariables false
set_option linter.unusedSimpArgs false
namespace Go.Proofs.YtkkbddkpggjgpaaGreatDoor
open Go.RowKit
set_option maxRecDepth 100000
def nat_size_0_mk (l:List Nat)(x:Int):St:=⟨mkS 19 [(0,(.val (.sl 1 (U l)))),(3,(.val (.int .i64 x)))],[]⟩
def nat_size_0_I (l:List Nat)(x:Int):Prop:=0≤x∧x≤l.length∧val l=val (l.take (x).toNat)
def nat_size_0_mu (_:List Nat)(x:Int):Nat:=(x).toNat
def nat_size_0_ex (l:List Nat)(y:Int):Ex × St:=(.exit 0,⟨mkS 19 [(0,(.val (.sl 1 (U l)))),(3,(.val (.int .i64 y)))],[]⟩)
def nat_size_0_J (l:List Nat)(y:Int):Prop:=y=((limbs (val l)).length:Int)
abbrev nat_size_0_N (l:List Nat):=NX (nat_size_0_mk l) (nat_size_0_I l) (nat_size_0_mu l) (nat_size_0_ex l) (nat_size_0_J l)
theorem nat_size_0 (l:List Nat)(c0:Dig l)(c1:l.length≤1073741824)(x0:Int)(hI:nat_size_0_I l x0):LoopOk Tryz.prog Amb (loopN Tryz.f185 0) (nat_size_0_mk l x0) (fun e st_=>∃ y,nat_size_0_J l y∧nat_size_0_ex l y=(e,st_)) :=
 loop_ob hP hAmb ⟨[0,3],0,[]⟩ (nat_size_0_mk l) (nat_size_0_I l) (nat_size_0_mu l) (nat_size_0_ex l) (nat_size_0_J l) x0 hI (fun n=>.lit<|.both (.lits 3<|.yes<|.lit<|.yes<|.lit<|.yes<|.lits 3<|.both (.lit<|.yes<|.fin2 ⟨[0,3],0,[]⟩) (.fin2 ⟨[0,3],0,[]⟩)) (.lits 7<|.fin2 ⟨[0,3],0,[]⟩)) (by
  rintro n hI
  have hI:0≤n∧n≤l.length∧val l=val (l.take (n).toNat):=hI
  obtain⟨h1,h2,h3⟩:=hI
  have e0:=U_len l
  exact cast_ob (aI True.intro (aI (fun (h101:(iGt n 0)=true)=>have _gh101:=iGt_t h101;aI (fits_i64 oA:(fits .i64 (n-1))=true) (aI (inB_mk oA:(inB (n-1) ((U l).length))=true) (aI (ld_U oA:(Nat.blt ((n-1).toNat) (U l).length && isIntK .u32 (nth (U l) ((n-1).toNat) .unk))=true) (aI (fun (h102:(iEq (gi l ((n-1).toNat)) 0)=true)=>have _gh102:=iEq_t h102;aI (fits_i64 oA:(fits .i64 (n-1))=true) (aI tT ((nx_next (n-1) (show 0≤(n-1)∧(n-1)≤l.length∧val l=val (l.take ((n-1)).toNat) from ⟨by omega,by omega,size_step oO oO h3 (by assumption)⟩) (show (n-1).toNat<n.toNat by omega):nat_size_0_N l n .normal (nat_size_0_mk l (n-1)))))) (fun (h103:(iEq (gi l ((n-1).toNat)) 0)=false)=>have _gh103:=iEq_f h103;aI tT ((nx_exit 0 ((nat_size_0_ex l n).2) n (show n=((limbs (val l)).length:Int) from size_end c0 h1 h2 h3 (by first | exact .inl oO | exact .inr (by assumption))) rfl:nat_size_0_N l n (.exit 0) ((nat_size_0_ex l n).2)))))))) (fun (h104:(iGt n 0)=false)=>have _gh104:=iGt_f h104;aI tT ((nx_exit 0 ((nat_size_0_ex l n).2) n (show n=((limbs (val l)).length:Int) from size_end c0 h1 h2 h3 (by first | exact .inl oO | exact .inr (by assumption))) rfl:nat_size_0_N l n (.exit 0) ((nat_size_0_ex l n).2)))))) (by kernel_rfl))
theorem nat_size (l:List Nat)(c0:Dig l)(c1:l.length≤1073741824):Impl Tryz.prog Amb 185 [(.sl 1 (U l))] (.int .i64 ((limbs (val l)).length:Int)):=by
 exact impl_ob hP hAmb Tryz.func185 (by kernel_rfl) (.loop ⟨[0,3],0,[]⟩ ((nat_size_0_mk l ((U l).length:Int))) (Int) (nat_size_0_ex l) (nat_size_0_J l) (fun y=>.lit<|.ret))
  (cast_ob (aI True.intro (aI tT (aI (rfl:(nat_size_0_mk l ((U l).length:Int))=(nat_size_0_mk l ((U l).length:Int))) (aI (nat_size_0 l c0 c1 ((U l).length:Int) (show 0≤((U l).length:Int)∧((U l).length:Int)≤l.length∧val l=val (l.take (((U l).length:Int)).toNat) from ⟨by omega,by rw[U_len];omega,by rw[U_len];simp⟩)) (fun y (hJ:nat_size_0_J l y)=>have hJ:y=((limbs (val l)).length:Int):=hJ;have j1:=hJ;(vsub_of (by rw[hJ]):vsub (.int .i64 y) (.int .i64 ((limbs (val l)).length:Int)))))))) (by kernel_rfl))
theorem nat_sizeN (n:Nat)(c0:L n≤1073741824):Impl Tryz.prog Amb 185 [N n] (.int .i64 (L n:Int)):=by
 have h:=nat_size (limbs n) (dig_limbs n) c0
 rwa [val_limbs] at h
theorem clone_u32 (c:List V)(c0:c.all isCell=true)(c1:c.length≤1073741824):Impl Tryz.prog Amb 216 [(.sl 1 c)] (.sl 1 c):=by
 exact impl_ob hP hAmb Tryz.func216 (by kernel_rfl) (.both (.both (.lits 2<|.ret) (.lit<|.yes<|.yes<|.ret)) (.lit<|.yes<|.yes<|.ret))
  (cast_ob (aI True.intro (aI (fun (h1:Nat.beq c.length 0=true)=>aI ((by rw[show c = [] from List.eq_nil_of_length_eq_zero (Nat.eq_of_beq_eq_true h1)];exact vsub_nil 1:vsub .nil (.sl 1 c))) (aI (and_mk (and_mk (and_mk (rfl) (by first | assumption | exact U_cells _)) (st_ok oA)) (by first | rfl | (simp<;>omega) | (rw[L_len];simp)):(true && c.all isCell && Nat.ble (0+c.length) 1073741824 && Nat.beq ([]:List V).length 0)=true) (aI (ok_res oA:((true && Nat.ble (0+(0+c.length)) (([]:List V) ++ c).length) && true)=true) (vsub_of (by simp):vsub (.sl 1 (List.take (0+c.length) (List.drop 0 (([]:List V) ++ c)))) (.sl 1 c))))) (fun (h2:Nat.beq c.length 0=false)=>aI (and_mk (and_mk (and_mk (rfl) (by first | assumption | exact U_cells _)) (st_ok oA)) (by first | rfl | (simp<;>omega) | (rw[L_len];simp)):(true && c.all isCell && Nat.ble (0+c.length) 1073741824 && Nat.beq ([]:List V).length 0)=true) (aI (ok_res oA:((true && Nat.ble (0+(0+c.length)) (([]:List V) ++ c).length) && true)=true) (vsub_of (by simp):vsub (.sl 1 (List.take (0+c.length) (List.drop 0 (([]:List V) ++ c)))) (.sl 1 c)))))) (by kernel_rfl))
theorem nat_sizeC (c:List V)(l:List Nat)(c0:c=U l)(c1:Dig l)(c2:l.length≤1073741824):Impl Tryz.prog Amb 185 [.sl 1 c] (.int .i64 ((limbs (val l)).length:Int)):=by
 subst c0
 exact nat_size l c1 c2
theorem nat_Trim (l:List Nat)(c0:Dig l)(c1:l.length≤1073741824):Impl Tryz.prog Amb 181 [(.sl 1 (U l))] (N (val l)):=by
 have e0:=cut_lim c0
 have e1:=limbs_len_le c0
 have e2:=U_len l
 exact impl_ob hP hAmb Tryz.func181 (by kernel_rfl) (.lit<|.call (.int .i64 ((limbs (val l)).length:Int))<|.yes<|.lit<|.call (.sl 1 (List.take ((((limbs (val l)).length:Int)-0).toNat) (List.drop 0 (U l))))<|.lit<|.ret)
  (cast_ob (aI True.intro (aI (nat_size l oA oA) (aI (and_mk (and_mk (rfl) (iLe_mk oA)) (iLe_mk oA):((true && (iLe (0:Int) ((limbs (val l)).length:Int))) && (iLe ((limbs (val l)).length:Int) ((U l).length:Int)))=true) (aI (clone_u32 (List.take ((((limbs (val l)).length:Int)-0).toNat) (List.drop 0 (U l))) (by rw[cut_lim c0];exact U_cells _) (by rw[cut_lim c0];exact Nat.le_trans (Nat.le_of_eq (lim_len _)) oO)) ((vsub_of (congrArg (V.sl 1) (cut_lim c0)):vsub (.sl 1 (List.take ((((limbs (val l)).length:Int)-0).toNat) (List.drop 0 (U l)))) (N (val l)))))))) (by kernel_rfl))
theorem nat_TrimN (n:Nat)(c0:L n≤1073741824):Impl Tryz.prog Amb 181 [N n] (N n):=by
 have h:=nat_Trim (limbs n) (dig_limbs n) c0
 rwa [val_limbs] at h
theorem nat_Trim2 (x y:Int)(c0:0≤x∧x<4294967296)(c1:0≤y∧y<4294967296):Impl Tryz.prog Amb 181 [.sl 1 [.int .u32 x,.int .u32 y]] (N (x+4294967296*y).toNat):=by
 have h:=nat_Trim [x.toNat,y.toNat] (fun d hd=>by
  rcases List.mem_cons.1 hd with rfl | hd
  ·omega
  ·rcases List.mem_cons.1 hd with rfl | hd
   ·omega
   ·cases hd) (by simp)
 have e:U [x.toNat,y.toNat] = [.int .u32 x,.int .u32 y]:=by
  simp only [U,List.map_cons,List.map_nil]
  rw[Int.toNat_of_nonneg c0.1,Int.toNat_of_nonneg c1.1]
 have v:val [x.toNat,y.toNat]=(x+4294967296*y).toNat:=by simp only [val];omega
 rwa [e,v] at h
theorem nat_Of (x:Int)(c0:(0:Int)≤x∧x<18446744073709551616):Impl Tryz.prog Amb 145 [(.int .u64 x)] (N ((x).toNat)):=by
 have e0:=wrap_u32 x
 have e1:=wrap_u32 (x / 4294967296)
 exact impl_ob hP hAmb Tryz.func145 (by kernel_rfl) (.lit<|.no<|.lits 2<|.no<|.lit<|.call (N (((IntKind.wrap .u32 x)+4294967296*(IntKind.wrap .u32 (Int.fdiv x (2^32)))).toNat))<|.lit<|.ret)
  (cast_ob (aI True.intro (aI (nat_Trim2 (IntKind.wrap .u32 x) (IntKind.wrap .u32 (Int.fdiv x (2^32))) (by rw[wrap_u32];omega) (by rw[wrap_u32,fdiv_B];omega)) ((vsub_of (congrArg N (by rw[wrap_u32,wrap_u32,fdiv_B];omega)):vsub (N (((IntKind.wrap .u32 x)+4294967296*(IntKind.wrap .u32 (Int.fdiv x (2^32)))).toNat)) (N ((x).toNat)))))) (by kernel_rfl))
theorem nat_places (n:Int)(c0:0≤n∧n≤1048576):Impl Tryz.prog Amb 184 [(.int .i64 n)] (.int .i64 n):=by
 exact impl_ob hP hAmb Tryz.func184 (by kernel_rfl) (.lits 3<|.ret)
  (cast_ob (aI True.intro ((vsub_of (congrArg (V.int .i64) (by unfold iMin iMax;split<;>split<;>omega)):vsub (.int .i64 (iMin (iMax n (0:Int)) (1048576:Int))) (.int .i64 n)))) (by kernel_rfl))
theorem nat_Valid (n:Nat)(c0:L n≤1073741824):Impl Tryz.prog Amb 217 [(N n)] (.bool true):=by
 exact impl_ob hP hAmb Tryz.func217 (by kernel_rfl) (.lit<|.call (.int .i64 (L n:Int))<|.lits 2<|.ret)
  (cast_ob (aI True.intro (aI (nat_sizeN n oA) ((vsub_of (congrArg V.bool (iEq_mk (by rw[L_len]))):vsub (.bool (iEq (L n:Int) ((lim n).length:Int))) (.bool true))))) (by kernel_rfl))
def nat_Cmp_0_mk (a b:Nat)(x:Int):St:=⟨mkS 46 [(0,(.val (N a))),(1,(.val (N b))),(4,(.val (.int .i64 0))),(7,(.val (.int .i64 x)))],[]⟩
def nat_Cmp_0_I (a b:Nat)(x:Int):Prop:=-1≤x∧x<L a∧(limbs a).drop (x+1).toNat=(limbs b).drop (x+1).toNat
def nat_Cmp_0_mu (_ _:Nat)(x:Int):Nat:=(x+1).toNat
def nat_Cmp_0_ex (_ _:Nat)(y:(Int)⊕(Unit)):Ex × St:=Sum.elim (fun (y:Int)=>(.ret,⟨mkS 46 [(4,(.val (.int .i64 y)))],[]⟩)) (fun (y:Unit)=>(.exit 1,⟨mkS 46 [],[]⟩)) y
def nat_Cmp_0_J (a b:Nat)(y:(Int)⊕(Unit)):Prop:=Sum.elim (fun (y:Int)=>y=cmpN a b) (fun (y:Unit)=>a=b) y
abbrev nat_Cmp_0_N (a b:Nat):=NX (nat_Cmp_0_mk a b) (nat_Cmp_0_I a b) (nat_Cmp_0_mu a b) (nat_Cmp_0_ex a b) (nat_Cmp_0_J a b)
theorem nat_Cmp_0 (a b:Nat)(c0:L a=L b)(c1:L a≤1073741824)(x0:Int)(hI:nat_Cmp_0_I a b x0):LoopOk Tryz.prog Amb (loopN Tryz.f207 0) (nat_Cmp_0_mk a b x0) (fun e st_=>∃ y,nat_Cmp_0_J a b y∧nat_Cmp_0_ex a b y=(e,st_)) :=
 loop_ob hP hAmb ⟨[0,1,4,7],0,[]⟩ (nat_Cmp_0_mk a b) (nat_Cmp_0_I a b) (nat_Cmp_0_mu a b) (nat_Cmp_0_ex a b) (nat_Cmp_0_J a b) x0 hI (fun i=>.lit<|.both (.yes<|.yes<|.yes<|.yes<|.lit<|.both (.fin2 ⟨[4],0,[]⟩) (.yes<|.yes<|.yes<|.yes<|.lit<|.both (.fin2 ⟨[4],0,[]⟩) (.lit<|.yes<|.fin2 ⟨[0,1,4,7],0,[]⟩))) (.fin2 ⟨[],0,[]⟩)) (by
  rintro i hI
  have hI:-1≤i∧i<L a∧(limbs a).drop (i+1).toNat=(limbs b).drop (i+1).toNat:=hI
  obtain⟨h1,h2,h3⟩:=hI
  have e0:=L_len a
  have e1:=L_len b
  have h4:0≤i→(limbs a).drop (i.toNat+1)=(limbs b).drop (i.toNat+1):=fun h=>by rw[show i.toNat+1=(i+1).toNat by omega];exact h3
  exact cast_ob (aI True.intro (aI (fun (h101:(iGe i 0)=true)=>have _gh101:=iGe_t h101;aI (inB_mk oA:(inB i ((lim a).length))=true) (aI (ld_L oA:(Nat.blt i.toNat (lim a).length && isIntK .u32 (nth (lim a) i.toNat .unk))=true) (aI (inB_mk oA:(inB i ((lim b).length))=true) (aI (ld_L oA:(Nat.blt i.toNat (lim b).length && isIntK .u32 (nth (lim b) i.toNat .unk))=true) (aI (fun (h102:(iLt (gi (limbs a) i.toNat) (gi (limbs b) i.toNat))=true)=>have _gh102:=iLt_t h102;aI tT ((nx_ret ((nat_Cmp_0_ex a b (.inl (-1))).2) (.inl (-1)) (show (-1)=cmpN a b from (cmpN_lt (cmp_lt oO oO (h4 oO) (by assumption))).symm) rfl:nat_Cmp_0_N a b i .ret ((nat_Cmp_0_ex a b (.inl (-1))).2)))) (fun (h103:(iLt (gi (limbs a) i.toNat) (gi (limbs b) i.toNat))=false)=>have _gh103:=iLt_f h103;aI (inB_mk oA:(inB i ((lim a).length))=true) (aI (ld_L oA:(Nat.blt i.toNat (lim a).length && isIntK .u32 (nth (lim a) i.toNat .unk))=true) (aI (inB_mk oA:(inB i ((lim b).length))=true) (aI (ld_L oA:(Nat.blt i.toNat (lim b).length && isIntK .u32 (nth (lim b) i.toNat .unk))=true) (aI (fun (h104:(iGt (gi (limbs a) i.toNat) (gi (limbs b) i.toNat))=true)=>have _gh104:=iGt_t h104;aI tT ((nx_ret ((nat_Cmp_0_ex a b (.inl 1)).2) (.inl 1) (show 1=cmpN a b from (cmpN_gt (cmp_lt oO oO (h4 oO).symm (by assumption))).symm) rfl:nat_Cmp_0_N a b i .ret ((nat_Cmp_0_ex a b (.inl 1)).2)))) (fun (h105:(iGt (gi (limbs a) i.toNat) (gi (limbs b) i.toNat))=false)=>have _gh105:=iGt_f h105;aI (fits_i64 oA:(fits .i64 (i-1))=true) (aI tT ((nx_next (i-1) (show -1≤(i-1)∧(i-1)<L a∧(limbs a).drop ((i-1)+1).toNat=(limbs b).drop ((i-1)+1).toNat from ⟨by omega,by omega,by rw[show (i-1+1).toNat=i.toNat by omega];exact cmp_step oO oO (h4 oO) (by unfold gi at *;omega)⟩) (show (i-1+1).toNat<(i+1).toNat by omega):nat_Cmp_0_N a b i .normal (nat_Cmp_0_mk a b (i-1)))))))))))))))) (fun (h106:(iGe i 0)=false)=>have _gh106:=iGe_f h106;aI tT ((nx_exit 1 ((nat_Cmp_0_ex a b (.inr ())).2) (.inr ()) (show a=b from limbs_ext (by rw[← show (i+1).toNat=0 by omega];exact h3)) rfl:nat_Cmp_0_N a b i (.exit 1) ((nat_Cmp_0_ex a b (.inr ())).2)))))) (by kernel_rfl))
theorem nat_Cmp (a:Nat)(b:Nat)(c0:L a≤1073741824)(c1:L b≤1073741824):Impl Tryz.prog Amb 207 [(N a),(N b)] (.int .i64 (cmpN a b)):=by
 have e0:=L_len a
 have e1:=L_len b
 exact impl_ob hP hAmb Tryz.func207 (by kernel_rfl) (.lit<|.call (.int .i64 (L a:Int))<|.lit<|.call (.int .i64 (L b:Int))<|.lit<|.both (.lit<|.ret) (.lit<|.both (.lit<|.ret) (.lit<|.yes<|.loop2 ⟨[0,1,4,7],0,[]⟩ ((nat_Cmp_0_mk a b ((L a:Int)-1))) (Int) (Unit) (nat_Cmp_0_ex a b) (nat_Cmp_0_J a b) (fun y=>.lit<|.ret) (fun y=>.lit<|.ret))))
  (cast_ob (aI True.intro (aI (nat_sizeN a oA) (aI (nat_sizeN b oA) (aI (fun (h1:(iLt (L a:Int) (L b:Int))=true)=>have _gh1:=iLt_t h1;(vsub_of (congrArg (V.int .i64) (cmpN_lt (L_lt_of oO)).symm):vsub (.int .i64 (-1)) (.int .i64 (cmpN a b)))) (fun (h2:(iLt (L a:Int) (L b:Int))=false)=>have _gh2:=iLt_f h2;aI (fun (h3:(iGt (L a:Int) (L b:Int))=true)=>have _gh3:=iGt_t h3;(vsub_of (congrArg (V.int .i64) (cmpN_gt (L_lt_of oO)).symm):vsub (.int .i64 1) (.int .i64 (cmpN a b)))) (fun (h4:(iGt (L a:Int) (L b:Int))=false)=>have _gh4:=iGt_f h4;aI (fits_i64 oA:(fits .i64 ((L a:Int)-1))=true) (aI tT (aI (rfl:(nat_Cmp_0_mk a b ((L a:Int)-1))=(nat_Cmp_0_mk a b ((L a:Int)-1))) (aI (nat_Cmp_0 a b oO c0 ((L a:Int)-1) (show -1≤((L a:Int)-1)∧((L a:Int)-1)<L a∧(limbs a).drop (((L a:Int)-1)+1).toNat=(limbs b).drop (((L a:Int)-1)+1).toNat from ⟨by omega,by omega,by rw[List.drop_eq_nil_of_le (by unfold L at *;omega),List.drop_eq_nil_of_le (by unfold L at *;omega)]⟩)) (aI (fun (y:Int) (hJ:nat_Cmp_0_J a b (.inl y))=>have hJ:y=cmpN a b:=hJ;(vsub_of (congrArg (V.int .i64) hJ):vsub (.int .i64 y) (.int .i64 (cmpN a b)))) (fun (y:Unit) (hJ:nat_Cmp_0_J a b (.inr y))=>have hJ:a=b:=hJ;(vsub_of (congrArg (V.int .i64) (cmpN_eq hJ).symm):vsub (.int .i64 0) (.int .i64 (cmpN a b)))))))))))))) (by kernel_rfl))
theorem cloneO_u32 (c:List V)(c0:c.all isPrim=true)(c1:c.all isCell=true)(c2:c.length≤1073741824)(c3:c.length≠0):ImplO Tryz.prog Amb 216 [(.sl 1 c)] 1 (0+c.length) c:=by
 exact implO_ob hP hAmb Tryz.func216 (by kernel_rfl) (by assumption) (.no<|.lit<|.yes<|.fin2 ⟨[2],2,[]⟩)
  (cast_ob (aI True.intro (aI (beq_no c3:Nat.beq c.length 0=false) (aI (and_mk (and_mk (and_mk (rfl) (by first | assumption | exact U_cells _)) (st_ok oA)) (by first | rfl | (simp<;>omega) | (rw[L_len];simp)):(true && c.all isCell && Nat.ble (0+c.length) 1073741824 && Nat.beq ([]:List V).length 0)=true) (aI tT (⟨.inl rfl,1,2,rfl,rfl,rfl,⟨[],by simp [bx,nth]⟩⟩:EndO Tryz.f216.results 1 (0+c.length) c .ret ⟨mkS 8 [(2,(.osl 1 0 (0+c.length) 1))],[⟨false,false,([]:List V)⟩,⟨true,false,(([]:List V) ++ c)⟩]⟩))))) (by kernel_rfl))
end Go.Proofs.YtkkbddkpggjgpaaGreatDoor

namespace Go.Proofs.YtkkbddkpggjgpaaGreatDoor
open Go.RowKit
set_option maxRecDepth 100000
def nat_Add_0_mk (a b:Nat)(x:Int × Int × List V × List Nat):St:=⟨mkS 60 [(0,(.val (N a))),(1,(.val (N b))),(5,(.osl 0 0 ((((lim a).length:Int)+1).toNat) 1)),(6,(.val (.int .u64 x.2.1))),(20,(.val (N a))),(21,(.val (.int .i64 ((lim a).length:Int)))),(22,(.val (.int .i64 x.1)))],[⟨true,false,x.2.2.1⟩]⟩
def nat_Add_0_I (a b:Nat)(x:Int × Int × List V × List Nat):Prop:=x.2.2.1=U x.2.2.2∧AddInv a b x.1 x.2.1 x.2.2.2
def nat_Add_0_mu (a _:Nat)(x:Int × Int × List V × List Nat):Nat:=((L a:Int)-x.1).toNat
def nat_Add_0_ex (a _:Nat)(y:Int × List Nat):Ex × St:=(.exit 0,⟨mkS 60 [(0,(.val (N a))),(5,(.osl 0 0 ((((lim a).length:Int)+1).toNat) 1)),(6,(.val (.int .u64 y.1)))],[⟨true,false,(U y.2)⟩]⟩)
def nat_Add_0_J (a b:Nat)(y:Int × List Nat):Prop:=AddInv a b (L a:Int) y.1 y.2
abbrev nat_Add_0_N (a b:Nat):=NX (nat_Add_0_mk a b) (nat_Add_0_I a b) (nat_Add_0_mu a b) (nat_Add_0_ex a b) (nat_Add_0_J a b)
theorem nat_Add_0 (a b:Nat)(c0:L a≤1073741824)(x0:Int × Int × List V × List Nat)(hI:nat_Add_0_I a b x0):LoopOk Tryz.prog Amb (loopN Tryz.f195 0) (nat_Add_0_mk a b x0) (fun e st_=>∃ y,nat_Add_0_J a b y∧nat_Add_0_ex a b y=(e,st_)) :=
 loop_ob hP hAmb ⟨[0,1,5,6,20,21,22],1,[]⟩ (nat_Add_0_mk a b) (nat_Add_0_I a b) (nat_Add_0_mu a b) (nat_Add_0_ex a b) (nat_Add_0_J a b) x0 hI (fun (i,c,o,l)=>.lit<|.both (.yes<|.yes<|.lit<|.yes<|.lit<|.yes<|.lit<|.both (.yes<|.yes<|.lit<|.yes<|.lit<|.yes<|.lit<|.no<|.yes<|.yes<|.lits 2<|.yes<|.fin2 ⟨[0,1,5,6,20,21,22],1,[]⟩) (.lit<|.no<|.yes<|.yes<|.lits 2<|.yes<|.fin2 ⟨[0,1,5,6,20,21,22],1,[]⟩)) (.fin2 ⟨[0,5,6],1,[]⟩)) (by
  rintro ⟨i,c,o,l⟩ hI
  have hI:o=U l∧AddInv a b i c l:=hI
  obtain⟨rfl,h1⟩:=hI
  have ⟨p0,p1,p2,p3,p4,_⟩:=h1
  have e0:=L_len a
  have e1:=L_len b
  have g0:=gi_lt (dig_limbs a) i.toNat
  have g1:=gi_nonneg (limbs a) i.toNat
  have g2:=gi_lt (dig_limbs b) i.toNat
  have g3:=gi_nonneg (limbs b) i.toNat
  have g4:=U_len l
  exact cast_ob (aI True.intro (aI (fun (h101:(iLt i ((lim a).length:Int))=true)=>have _gh101:=iLt_t h101;aI (inB_mk oA:(inB i ((lim a).length))=true) (aI (ld_L oA:(Nat.blt i.toNat (lim a).length && isIntK .u32 (nth (lim a) i.toNat .unk))=true) (aI (fits_u64 oA:(fits .u64 (gi (limbs a) i.toNat))=true) (aI (fits_u64 oA:(fits .u64 (c+(gi (limbs a) i.toNat)))=true) (aI (fun (h102:(iLt i ((lim b).length:Int))=true)=>have _gh102:=iLt_t h102;aI (inB_mk oA:(inB i ((lim b).length))=true) (aI (ld_L oA:(Nat.blt i.toNat (lim b).length && isIntK .u32 (nth (lim b) i.toNat .unk))=true) (aI (fits_u64 oA:(fits .u64 (gi (limbs b) i.toNat))=true) (aI (fits_u64 oA:(fits .u64 ((c+(gi (limbs a) i.toNat))+(gi (limbs b) i.toNat)))=true) (aI (inB_mk oA:(inB i ((((lim a).length:Int)+1).toNat))=true) (aI (st_ok oA:(Nat.ble ((0+i.toNat)+1) (U l).length)=true) (aI (fits_i64 oA:(fits .i64 (i+1))=true) (aI tT ((nx_next ((i+1),(Int.fdiv ((c+(gi (limbs a) i.toNat))+(gi (limbs b) i.toNat)) (2^32)),(List.set (U l) (0+i.toNat) (.int .u32 (IntKind.wrap .u32 ((c+(gi (limbs a) i.toNat))+(gi (limbs b) i.toNat))))),(l.set i.toNat (IntKind.wrap .u32 ((c+(gi (limbs a) i.toNat))+(gi (limbs b) i.toNat))).toNat)) (show (List.set (U l) (0+i.toNat) (.int .u32 (IntKind.wrap .u32 ((c+(gi (limbs a) i.toNat))+(gi (limbs b) i.toNat)))))=U (l.set i.toNat (IntKind.wrap .u32 ((c+(gi (limbs a) i.toNat))+(gi (limbs b) i.toNat))).toNat)∧AddInv a b (i+1) (Int.fdiv ((c+(gi (limbs a) i.toNat))+(gi (limbs b) i.toNat)) (2^32)) (l.set i.toNat (IntKind.wrap .u32 ((c+(gi (limbs a) i.toNat))+(gi (limbs b) i.toNat))).toNat) from ⟨setU _ oO (by rw[wrap_u32];omega),add_next h1 oO (by first | rfl | (rw[gi_out (show (limbs b).length≤i.toNat from (show L b≤i.toNat by omega))];omega))⟩) (show ((L a:Int)-(i+1)).toNat<((L a:Int)-i).toNat by omega):nat_Add_0_N a b (i,c,(U l),l) .normal (nat_Add_0_mk a b ((i+1),(Int.fdiv ((c+(gi (limbs a) i.toNat))+(gi (limbs b) i.toNat)) (2^32)),(List.set (U l) (0+i.toNat) (.int .u32 (IntKind.wrap .u32 ((c+(gi (limbs a) i.toNat))+(gi (limbs b) i.toNat))))),(l.set i.toNat (IntKind.wrap .u32 ((c+(gi (limbs a) i.toNat))+(gi (limbs b) i.toNat))).toNat))))))))))))) (fun (h103:(iLt i ((lim b).length:Int))=false)=>have _gh103:=iLt_f h103;aI (inB_mk oA:(inB i ((((lim a).length:Int)+1).toNat))=true) (aI (st_ok oA:(Nat.ble ((0+i.toNat)+1) (U l).length)=true) (aI (fits_i64 oA:(fits .i64 (i+1))=true) (aI tT ((nx_next ((i+1),(Int.fdiv (c+(gi (limbs a) i.toNat)) (2^32)),(List.set (U l) (0+i.toNat) (.int .u32 (IntKind.wrap .u32 (c+(gi (limbs a) i.toNat))))),(l.set i.toNat (IntKind.wrap .u32 (c+(gi (limbs a) i.toNat))).toNat)) (show (List.set (U l) (0+i.toNat) (.int .u32 (IntKind.wrap .u32 (c+(gi (limbs a) i.toNat)))))=U (l.set i.toNat (IntKind.wrap .u32 (c+(gi (limbs a) i.toNat))).toNat)∧AddInv a b (i+1) (Int.fdiv (c+(gi (limbs a) i.toNat)) (2^32)) (l.set i.toNat (IntKind.wrap .u32 (c+(gi (limbs a) i.toNat))).toNat) from ⟨setU _ oO (by rw[wrap_u32];omega),add_next h1 oO (by first | rfl | (rw[gi_out (show (limbs b).length≤i.toNat from (show L b≤i.toNat by omega))];omega))⟩) (show ((L a:Int)-(i+1)).toNat<((L a:Int)-i).toNat by omega):nat_Add_0_N a b (i,c,(U l),l) .normal (nat_Add_0_mk a b ((i+1),(Int.fdiv (c+(gi (limbs a) i.toNat)) (2^32)),(List.set (U l) (0+i.toNat) (.int .u32 (IntKind.wrap .u32 (c+(gi (limbs a) i.toNat))))),(l.set i.toNat (IntKind.wrap .u32 (c+(gi (limbs a) i.toNat))).toNat)))))))))))))) (fun (h104:(iLt i ((lim a).length:Int))=false)=>have _gh104:=iLt_f h104;aI tT ((nx_exit 0 ((nat_Add_0_ex a b (c,l)).2) (c,l) (show AddInv a b (L a:Int) c l from (show i=(L a:Int) by omega) ▸ h1) rfl:nat_Add_0_N a b (i,c,(U l),l) (.exit 0) ((nat_Add_0_ex a b (c,l)).2)))))) (by kernel_rfl))
theorem nat_Add (a:Nat)(b:Nat)(c0:L a≤33554432)(c1:L b≤33554432):Impl Tryz.prog Amb 195 [(N a),(N b)] (N (a+b)):=by
 have e0:=L_len a
 have e1:=L_len b
 exact impl_ob hP hAmb Tryz.func195 (by kernel_rfl) (.lit<|.both (.lit<|.yes<|.yes<|.loop ⟨[0,1,5,6,20,21,22],1,[]⟩ ((nat_Add_0_mk b a (0,0,(List.replicate ((((lim b).length:Int)+1).toNat) (.int .u32 0)),(List.replicate (L b+1) 0)))) (Int × List Nat) (nat_Add_0_ex b a) (nat_Add_0_J b a) (fun y=>.lit<|.no<|.yes<|.yes<|.yes<|.call (.int .i64 ((limbs (val (y.2.set (L b) y.1.toNat))).length:Int))<|.yes<|.yes<|.ret)) (.lit<|.yes<|.yes<|.loop ⟨[0,1,5,6,20,21,22],1,[]⟩ ((nat_Add_0_mk a b (0,0,(List.replicate ((((lim a).length:Int)+1).toNat) (.int .u32 0)),(List.replicate (L a+1) 0)))) (Int × List Nat) (nat_Add_0_ex a b) (nat_Add_0_J a b) (fun y=>.lit<|.no<|.yes<|.yes<|.yes<|.call (.int .i64 ((limbs (val (y.2.set (L a) y.1.toNat))).length:Int))<|.yes<|.yes<|.ret)))
  (cast_ob (aI True.intro (aI (fun (h1:(iLt ((lim a).length:Int) ((lim b).length:Int))=true)=>have _gh1:=iLt_t h1;aI (fits_i64 oA:(fits .i64 (((lim b).length:Int)+1))=true) (aI (mk_ok oA:(((iEq (((lim b).length:Int)+1) (((lim b).length:Int)+1)) && (iLe 0 (((lim b).length:Int)+1))) && (iLe (((lim b).length:Int)+1) 1073741824))=true) (aI tT (aI (rfl:(nat_Add_0_mk b a (0,0,(List.replicate ((((lim b).length:Int)+1).toNat) (.int .u32 0)),(List.replicate (L b+1) 0)))=(nat_Add_0_mk b a (0,0,(List.replicate ((((lim b).length:Int)+1).toNat) (.int .u32 0)),(List.replicate (L b+1) 0)))) (aI (nat_Add_0 b a oO (0,0,(List.replicate ((((lim b).length:Int)+1).toNat) (.int .u32 0)),(List.replicate (L b+1) 0)) (show (List.replicate ((((lim b).length:Int)+1).toNat) (.int .u32 0))=U (List.replicate (L b+1) 0)∧AddInv b a 0 0 (List.replicate (L b+1) 0) from ⟨by rw[L_len];exact U_rep _,add_init _ _⟩)) (fun y (hJ:nat_Add_0_J b a y)=>have hJ:AddInv b a (L b:Int) y.1 y.2:=hJ;have ⟨_,_,q2,q3,q4,_⟩:=hJ;have q5:=U_len y.2;have q6:=limbs_len_le (add_end oO hJ).1;have q7:=(add_end oO hJ).2.1;aI (inB_mk oA:(inB ((lim b).length:Int) ((((lim b).length:Int)+1).toNat))=true) (aI (st_ok oA:(Nat.ble ((0+((lim b).length:Int).toNat)+1) (U y.2).length)=true) (aI (ok_arg oA:((true && Nat.ble (0+(((lim b).length:Int)+1).toNat) (List.set (U y.2) (0+((lim b).length:Int).toNat) (.int .u32 (IntKind.wrap .u32 y.1))).length) && true)=true) (aI (nat_sizeC (List.take ((((lim b).length:Int)+1).toNat) (List.drop 0 (List.set (U y.2) (0+((lim b).length:Int).toNat) (.int .u32 (IntKind.wrap .u32 y.1))))) (y.2.set (L b) y.1.toNat) (tkU (setU y.2 (show _=L b by omega) (by rw[wrap_u32];omega)) (by rw[(add_end oO hJ).2.1];omega)) (add_end oO hJ).1 (by rw[(add_end oO hJ).2.1];omega)) (aI (and_mk (and_mk (and_mk (rfl) (iLe_mk oA)) (iLe_mk oA)) (rfl):(((true && (iLe (0:Int) ((limbs (val (y.2.set (L b) y.1.toNat))).length:Int))) && (iLe ((limbs (val (y.2.set (L b) y.1.toNat))).length:Int) ((((lim b).length:Int)+1).toNat:Int))) && true)=true) (aI (ok_res oA:((true && Nat.ble (0+(((limbs (val (y.2.set (L b) y.1.toNat))).length:Int)-0).toNat) (List.set (U y.2) (0+((lim b).length:Int).toNat) (.int .u32 (IntKind.wrap .u32 y.1))).length) && true)=true) (vsub_of (congrArg (V.sl 1) (fin_lim (setU y.2 (show _=L b by omega) (by rw[wrap_u32];omega)) (add_end oO hJ).1 (by rw[(add_end oO hJ).2.2]<;>omega))):vsub (.sl 1 (List.take ((((limbs (val (y.2.set (L b) y.1.toNat))).length:Int)-0).toNat) (List.drop 0 (List.set (U y.2) (0+((lim b).length:Int).toNat) (.int .u32 (IntKind.wrap .u32 y.1)))))) (N (a+b)))))))))))))) (fun (h2:(iLt ((lim a).length:Int) ((lim b).length:Int))=false)=>have _gh2:=iLt_f h2;aI (fits_i64 oA:(fits .i64 (((lim a).length:Int)+1))=true) (aI (mk_ok oA:(((iEq (((lim a).length:Int)+1) (((lim a).length:Int)+1)) && (iLe 0 (((lim a).length:Int)+1))) && (iLe (((lim a).length:Int)+1) 1073741824))=true) (aI tT (aI (rfl:(nat_Add_0_mk a b (0,0,(List.replicate ((((lim a).length:Int)+1).toNat) (.int .u32 0)),(List.replicate (L a+1) 0)))=(nat_Add_0_mk a b (0,0,(List.replicate ((((lim a).length:Int)+1).toNat) (.int .u32 0)),(List.replicate (L a+1) 0)))) (aI (nat_Add_0 a b oO (0,0,(List.replicate ((((lim a).length:Int)+1).toNat) (.int .u32 0)),(List.replicate (L a+1) 0)) (show (List.replicate ((((lim a).length:Int)+1).toNat) (.int .u32 0))=U (List.replicate (L a+1) 0)∧AddInv a b 0 0 (List.replicate (L a+1) 0) from ⟨by rw[L_len];exact U_rep _,add_init _ _⟩)) (fun y (hJ:nat_Add_0_J a b y)=>have hJ:AddInv a b (L a:Int) y.1 y.2:=hJ;have ⟨_,_,q2,q3,q4,_⟩:=hJ;have q5:=U_len y.2;have q6:=limbs_len_le (add_end oO hJ).1;have q7:=(add_end oO hJ).2.1;aI (inB_mk oA:(inB ((lim a).length:Int) ((((lim a).length:Int)+1).toNat))=true) (aI (st_ok oA:(Nat.ble ((0+((lim a).length:Int).toNat)+1) (U y.2).length)=true) (aI (ok_arg oA:((true && Nat.ble (0+(((lim a).length:Int)+1).toNat) (List.set (U y.2) (0+((lim a).length:Int).toNat) (.int .u32 (IntKind.wrap .u32 y.1))).length) && true)=true) (aI (nat_sizeC (List.take ((((lim a).length:Int)+1).toNat) (List.drop 0 (List.set (U y.2) (0+((lim a).length:Int).toNat) (.int .u32 (IntKind.wrap .u32 y.1))))) (y.2.set (L a) y.1.toNat) (tkU (setU y.2 (show _=L a by omega) (by rw[wrap_u32];omega)) (by rw[(add_end oO hJ).2.1];omega)) (add_end oO hJ).1 (by rw[(add_end oO hJ).2.1];omega)) (aI (and_mk (and_mk (and_mk (rfl) (iLe_mk oA)) (iLe_mk oA)) (rfl):(((true && (iLe (0:Int) ((limbs (val (y.2.set (L a) y.1.toNat))).length:Int))) && (iLe ((limbs (val (y.2.set (L a) y.1.toNat))).length:Int) ((((lim a).length:Int)+1).toNat:Int))) && true)=true) (aI (ok_res oA:((true && Nat.ble (0+(((limbs (val (y.2.set (L a) y.1.toNat))).length:Int)-0).toNat) (List.set (U y.2) (0+((lim a).length:Int).toNat) (.int .u32 (IntKind.wrap .u32 y.1))).length) && true)=true) (vsub_of (congrArg (V.sl 1) (fin_lim (setU y.2 (show _=L a by omega) (by rw[wrap_u32];omega)) (add_end oO hJ).1 (by rw[(add_end oO hJ).2.2]<;>omega))):vsub (.sl 1 (List.take ((((limbs (val (y.2.set (L a) y.1.toNat))).length:Int)-0).toNat) (List.drop 0 (List.set (U y.2) (0+((lim a).length:Int).toNat) (.int .u32 (IntKind.wrap .u32 y.1)))))) (N (a+b)))))))))))))))) (by kernel_rfl))
theorem bits_Sub32 (x y b:Int)(c0:0≤x∧x<4294967296)(c1:0≤y∧y<4294967296)(c2:0≤b∧b≤1):Impl Tryz.prog Amb 221 [(.int .u32 x),(.int .u32 y),(.int .u32 b)] (.tup [(.int .u32 ((x-y-b)%4294967296)),(.int .u32 (if x<y+b then 1 else 0))]):=by
 exact impl_ob hP hAmb Tryz.func221 (by kernel_rfl) (.lit<|.no<|.lit<|.no<|.lits 8<|.ret)
  (cast_ob (aI True.intro ((by rw[sub32_eq ⟨c0.1,c0.2,c1.1,c1.2,c2.1,c2.2⟩,show IntKind.wrap .u32 (IntKind.wrap .u32 (x-y)-b)=(x-y-b)%4294967296 by rw[wrap_u32,wrap_u32];omega];exact vsub_refl _:vsub (.tup [(.int .u32 (IntKind.wrap .u32 ((IntKind.wrap .u32 (x-y))-b))),(.int .u32 (Int.fdiv (wOr .u32 (wAnd .u32 (wXor .u32 (4294967295:Int) x) y) (wAnd .u32 (wXor .u32 (4294967295:Int) (wXor .u32 x y)) (IntKind.wrap .u32 ((IntKind.wrap .u32 (x-y))-b)))) (2^31)))]) (.tup [(.int .u32 ((x-y-b)%4294967296)),(.int .u32 (if x<y+b then 1 else 0))])))) (by kernel_rfl))
def nat_Sub_0_mk (a b:Nat)(x:Int × Int × List V × List Nat):St:=⟨mkS 48 [(0,(.val (N a))),(1,(.val (N b))),(6,(.osl 0 0 ((L a:Int).toNat) 1)),(7,(.val (.int .u32 x.2.1))),(18,(.val (.int .i64 ((L a:Int).toNat:Int)))),(19,(.val (.int .i64 x.1)))],[⟨true,false,x.2.2.1⟩]⟩
def nat_Sub_0_I (a b:Nat)(x:Int × Int × List V × List Nat):Prop:=x.2.2.1=U x.2.2.2∧SubInv a b x.1 x.2.1 x.2.2.2
def nat_Sub_0_mu (a _:Nat)(x:Int × Int × List V × List Nat):Nat:=((L a:Int)-x.1).toNat
def nat_Sub_0_ex (a _:Nat)(y:Int × List Nat):Ex × St:=(.exit 0,⟨mkS 48 [(6,(.osl 0 0 ((L a:Int).toNat) 1))],[⟨true,false,(U y.2)⟩]⟩)
def nat_Sub_0_J (a b:Nat)(y:Int × List Nat):Prop:=SubInv a b (L a:Int) y.1 y.2
abbrev nat_Sub_0_N (a b:Nat):=NX (nat_Sub_0_mk a b) (nat_Sub_0_I a b) (nat_Sub_0_mu a b) (nat_Sub_0_ex a b) (nat_Sub_0_J a b)
theorem nat_Sub_0 (a b:Nat)(c0:L a≤1073741824)(x0:Int × Int × List V × List Nat)(hI:nat_Sub_0_I a b x0):LoopOk Tryz.prog Amb (loopN Tryz.f196 0) (nat_Sub_0_mk a b x0) (fun e st_=>∃ y,nat_Sub_0_J a b y∧nat_Sub_0_ex a b y=(e,st_)) :=
 loop_ob hP hAmb ⟨[0,1,6,7,18,19],1,[]⟩ (nat_Sub_0_mk a b) (nat_Sub_0_I a b) (nat_Sub_0_mu a b) (nat_Sub_0_ex a b) (nat_Sub_0_J a b) x0 hI (fun (i,c,o,l)=>.lit<|.both (.lit<|.both (.yes<|.yes<|.yes<|.yes<|.lit<|.call (.tup [(.int .u32 (((gi (limbs a) i.toNat)-(gi (limbs b) i.toNat)-c)%4294967296)),(.int .u32 (if (gi (limbs a) i.toNat)<(gi (limbs b) i.toNat)+c then 1 else 0))])<|.yes<|.yes<|.lit<|.yes<|.fin2 ⟨[0,1,6,7,18,19],1,[]⟩) (.yes<|.yes<|.lit<|.call (.tup [(.int .u32 (((gi (limbs a) i.toNat)-0-c)%4294967296)),(.int .u32 (if (gi (limbs a) i.toNat)<0+c then 1 else 0))])<|.yes<|.yes<|.lit<|.yes<|.fin2 ⟨[0,1,6,7,18,19],1,[]⟩)) (.fin2 ⟨[6],1,[]⟩)) (by
  rintro ⟨i,c,o,l⟩ hI
  have hI:o=U l∧SubInv a b i c l:=hI
  obtain⟨rfl,h1⟩:=hI
  have ⟨p0,p1,p2,p3,p4,_⟩:=h1
  have e0:=L_len a
  have e1:=L_len b
  have g0:=gi_lt (dig_limbs a) i.toNat
  have g1:=gi_nonneg (limbs a) i.toNat
  have g2:=gi_lt (dig_limbs b) i.toNat
  have g3:=gi_nonneg (limbs b) i.toNat
  have g4:=U_len l
  exact cast_ob (aI True.intro (aI (fun (h101:(iLt i ((L a:Int).toNat:Int))=true)=>have _gh101:=iLt_t h101;aI (fun (h102:(iLt i ((lim b).length:Int))=true)=>have _gh102:=iLt_t h102;aI (inB_mk oA:(inB i ((lim b).length))=true) (aI (ld_L oA:(Nat.blt i.toNat (lim b).length && isIntK .u32 (nth (lim b) i.toNat .unk))=true) (aI (inB_mk oA:(inB i ((lim a).length))=true) (aI (ld_L oA:(Nat.blt i.toNat (lim a).length && isIntK .u32 (nth (lim a) i.toNat .unk))=true) (aI (bits_Sub32 (gi (limbs a) i.toNat) (gi (limbs b) i.toNat) c oA oA oA) (aI (inB_mk oA:(inB i ((L a:Int).toNat))=true) (aI (st_ok oA:(Nat.ble ((0+i.toNat)+1) (U l).length)=true) (aI (fits_i64 oA:(fits .i64 (i+1))=true) (aI tT ((nx_next ((i+1),(if (gi (limbs a) i.toNat)<(gi (limbs b) i.toNat)+c then 1 else 0),(List.set (U l) (0+i.toNat) (.int .u32 (((gi (limbs a) i.toNat)-(gi (limbs b) i.toNat)-c)%4294967296))),(l.set i.toNat (((gi (limbs a) i.toNat)-(gi (limbs b) i.toNat)-c)%4294967296).toNat)) (show (List.set (U l) (0+i.toNat) (.int .u32 (((gi (limbs a) i.toNat)-(gi (limbs b) i.toNat)-c)%4294967296)))=U (l.set i.toNat (((gi (limbs a) i.toNat)-(gi (limbs b) i.toNat)-c)%4294967296).toNat)∧SubInv a b (i+1) (if (gi (limbs a) i.toNat)<(gi (limbs b) i.toNat)+c then 1 else 0) (l.set i.toNat (((gi (limbs a) i.toNat)-(gi (limbs b) i.toNat)-c)%4294967296).toNat) from ⟨setU _ oO oO,by first | exact sub_next h1 oO rfl | exact sub_next h1 oO (gi_out (show (limbs b).length≤i.toNat from (show L b≤i.toNat by omega))).symm⟩) (show ((L a:Int)-(i+1)).toNat<((L a:Int)-i).toNat by omega):nat_Sub_0_N a b (i,c,(U l),l) .normal (nat_Sub_0_mk a b ((i+1),(if (gi (limbs a) i.toNat)<(gi (limbs b) i.toNat)+c then 1 else 0),(List.set (U l) (0+i.toNat) (.int .u32 (((gi (limbs a) i.toNat)-(gi (limbs b) i.toNat)-c)%4294967296))),(l.set i.toNat (((gi (limbs a) i.toNat)-(gi (limbs b) i.toNat)-c)%4294967296).toNat)))))))))))))) (fun (h103:(iLt i ((lim b).length:Int))=false)=>have _gh103:=iLt_f h103;aI (inB_mk oA:(inB i ((lim a).length))=true) (aI (ld_L oA:(Nat.blt i.toNat (lim a).length && isIntK .u32 (nth (lim a) i.toNat .unk))=true) (aI (bits_Sub32 (gi (limbs a) i.toNat) 0 c oA oA oA) (aI (inB_mk oA:(inB i ((L a:Int).toNat))=true) (aI (st_ok oA:(Nat.ble ((0+i.toNat)+1) (U l).length)=true) (aI (fits_i64 oA:(fits .i64 (i+1))=true) (aI tT ((nx_next ((i+1),(if (gi (limbs a) i.toNat)<0+c then 1 else 0),(List.set (U l) (0+i.toNat) (.int .u32 (((gi (limbs a) i.toNat)-0-c)%4294967296))),(l.set i.toNat (((gi (limbs a) i.toNat)-0-c)%4294967296).toNat)) (show (List.set (U l) (0+i.toNat) (.int .u32 (((gi (limbs a) i.toNat)-0-c)%4294967296)))=U (l.set i.toNat (((gi (limbs a) i.toNat)-0-c)%4294967296).toNat)∧SubInv a b (i+1) (if (gi (limbs a) i.toNat)<0+c then 1 else 0) (l.set i.toNat (((gi (limbs a) i.toNat)-0-c)%4294967296).toNat) from ⟨setU _ oO oO,by first | exact sub_next h1 oO rfl | exact sub_next h1 oO (gi_out (show (limbs b).length≤i.toNat from (show L b≤i.toNat by omega))).symm⟩) (show ((L a:Int)-(i+1)).toNat<((L a:Int)-i).toNat by omega):nat_Sub_0_N a b (i,c,(U l),l) .normal (nat_Sub_0_mk a b ((i+1),(if (gi (limbs a) i.toNat)<0+c then 1 else 0),(List.set (U l) (0+i.toNat) (.int .u32 (((gi (limbs a) i.toNat)-0-c)%4294967296))),(l.set i.toNat (((gi (limbs a) i.toNat)-0-c)%4294967296).toNat))))))))))))) (fun (h104:(iLt i ((L a:Int).toNat:Int))=false)=>have _gh104:=iLt_f h104;aI tT ((nx_exit 0 ((nat_Sub_0_ex a b (c,l)).2) (c,l) (show SubInv a b (L a:Int) c l from (show i=(L a:Int) by omega) ▸ h1) rfl:nat_Sub_0_N a b (i,c,(U l),l) (.exit 0) ((nat_Sub_0_ex a b (c,l)).2)))))) (by kernel_rfl))
theorem nat_Sub (a:Nat)(b:Nat)(c0:L a≤67108864)(c1:L b≤67108864)(c2:b≤a):Impl Tryz.prog Amb 196 [(N a),(N b)] (.tup [(N (a-b)),(.bool true)]):=by
 have e0:=L_len a
 have e1:=L_len b
 have e2:0≤cmpN a b:=by unfold cmpN;split<;>(try split)<;>omega
 exact impl_ob hP hAmb Tryz.func196 (by kernel_rfl) (.lit<|.call (.int .i64 (cmpN a b))<|.lit<|.no<|.lit<|.call (.int .i64 (L a:Int))<|.yes<|.loop ⟨[0,1,6,7,18,19],1,[]⟩ ((nat_Sub_0_mk a b (0,0,(List.replicate ((L a:Int).toNat) (.int .u32 0)),(List.replicate (L a) 0)))) (Int × List Nat) (nat_Sub_0_ex a b) (nat_Sub_0_J a b) (fun y=>.yes<|.call (.int .i64 ((limbs (val y.2)).length:Int))<|.yes<|.yes<|.ret))
  (cast_ob (aI True.intro (aI (nat_Cmp a b oA oA) (aI (iLt_mkF oO:(iLt (cmpN a b) 0)=false) (aI (nat_sizeN a oA) (aI (mk_ok oA:(((iEq (L a:Int) (L a:Int)) && (iLe 0 (L a:Int))) && (iLe (L a:Int) 1073741824))=true) (aI tT (aI (rfl:(nat_Sub_0_mk a b (0,0,(List.replicate ((L a:Int).toNat) (.int .u32 0)),(List.replicate (L a) 0)))=(nat_Sub_0_mk a b (0,0,(List.replicate ((L a:Int).toNat) (.int .u32 0)),(List.replicate (L a) 0)))) (aI (nat_Sub_0 a b oO (0,0,(List.replicate ((L a:Int).toNat) (.int .u32 0)),(List.replicate (L a) 0)) (show (List.replicate ((L a:Int).toNat) (.int .u32 0))=U (List.replicate (L a) 0)∧SubInv a b 0 0 (List.replicate (L a) 0) from ⟨U_rep _,sub_init _ _⟩)) (fun y (hJ:nat_Sub_0_J a b y)=>have hJ:SubInv a b (L a:Int) y.1 y.2:=hJ;have ⟨_,_,q2,q3,q4,_⟩:=hJ;have q5:=U_len y.2;have q6:=limbs_len_le (sub_end c2 hJ).1;have q7:=(sub_end c2 hJ).2.1;aI (ok_arg oA:((true && Nat.ble (0+(L a:Int).toNat) (U y.2).length) && true)=true) (aI (nat_sizeC (List.take ((L a:Int).toNat) (List.drop 0 (U y.2))) y.2 (tkU rfl oO) (sub_end c2 hJ).1 oO) (aI (and_mk (and_mk (and_mk (rfl) (iLe_mk oA)) (iLe_mk oA)) (rfl):(((true && (iLe (0:Int) ((limbs (val y.2)).length:Int))) && (iLe ((limbs (val y.2)).length:Int) ((L a:Int).toNat:Int))) && true)=true) (aI (ok_res oA:((true && Nat.ble (0+(((limbs (val y.2)).length:Int)-0).toNat) (U y.2).length) && (true && true))=true) (vsub_tup2 (vsub_of (congrArg (V.sl 1) (fin_lim rfl (sub_end c2 hJ).1 (sub_end c2 hJ).2.2))) (vsub_refl _):vsub (.tup [(.sl 1 (List.take ((((limbs (val y.2)).length:Int)-0).toNat) (List.drop 0 (U y.2)))),(.bool true)]) (.tup [(N (a-b)),(.bool true)])))))))))))))) (by kernel_rfl))
end Go.Proofs.YtkkbddkpggjgpaaGreatDoor

namespace Go.Proofs.YtkkbddkpggjgpaaGreatDoor
theorem B_pow (k:Nat):(4294967296:Nat)^k=2^(32*k):=by rw[show (4294967296:Nat)=2^32 from rfl,← Nat.pow_mul]
theorem tdiv32 {n:Int}(h:0≤n):Int.tdiv n 32=n / 32:=Int.tdiv_eq_ediv_of_nonneg h
theorem wRem32 {n:Int}(h:0≤n):wRem n 32=n%32:=Int.tmod_eq_emod_of_nonneg h
theorem pow_cast (k:Nat):(2:Int)^k=((2^k:Nat):Int):=by simp
theorem shl_bound {x r:Nat}(hx:x<4294967296)(hr:r<32):x*2^r<9223372036854775808:=by
 have h2:2^r≤2^31:=Nat.pow_le_pow_right (by omega) (by omega)
 calc x*2^r≤x*2^31:=Nat.mul_le_mul_left _ h2
  _<_:=by omega
theorem or_add {p q r:Nat}(hp:p<2^r):p ||| 2^r*q=p+2^r*q:=by
 rw[Nat.or_comm,← Nat.two_pow_add_eq_or_of_lt hp,Nat.add_comm]
theorem set2 (l:List Nat){k k' k2 k2':Nat}{w w2:Int}{d d2:Nat}(h1:k=k')(h2:w=(d:Int))(h3:k2=k2')(h4:w2=(d2:Int)) :
  List.set (List.set (U l) k (.int .u32 w)) k2 (.int .u32 w2)=U ((l.set k' d).set k2' d2):=by
 rw[setU l h1 h2,setU _ h3 h4]
theorem min_rest {n:Int}(h:0≤n):min (wRem n (32:Int)).toNat (IntKind.bits .u64)=n.toNat%32:=by
 rw[wRem32 h,show IntKind.bits .u64=64 from rfl];omega
theorem shl_word (a k:Nat){n:Int}(h:0≤n):0≤gi (limbs a) k*2^(min (wRem n (32:Int)).toNat (IntKind.bits .u64))∧gi (limbs a) k*2^(min (wRem n (32:Int)).toNat (IntKind.bits .u64))<9223372036854775808:=by
 rw[min_rest h,gi_eq,pow_cast,← Int.natCast_mul]
 have:=shl_bound (dig_get (dig_limbs a) k) (show n.toNat%32<32 by omega)
 omega
theorem wrap_pos (x:Int):IntKind.wrap .u32 x=((IntKind.wrap .u32 x).toNat:Int):=by rw[wrap_u32];omega
theorem wOr_pos (x y:Int):wOr .u32 x y=((wOr .u32 x y).toNat:Int):=wrap_pos _
def ShlInv (a n:Nat)(i:Int)(out:List Nat):Prop :=
 0≤i∧i≤L a∧out.length=L a+n / 32+1∧Dig out∧val (out.take (i.toNat+n / 32+1))=val ((limbs a).take i.toNat)*2^n∧out.getD (i.toNat+n / 32) 0<2^(n%32)
theorem shl_init (a n:Nat):ShlInv a n 0 (List.replicate (L a+n / 32+1) 0):=by
 refine⟨by omega,by omega,by simp,dig_rep _,?_,?_⟩
 ·rw[List.take_replicate,val_rep];simp [val]
 ·rw[List.getD_eq_getElem?_getD,List.getElem?_replicate]
  have:=Nat.two_pow_pos (n%32)
  split<;>simpa using this
theorem shl_next {a n:Nat}{i p y:Int}{out:List Nat}(h:ShlInv a n i out)(hi:i<L a)(hp:p=gi out (i.toNat+n / 32))(hy:y=gi (limbs a) i.toNat*2^(n%32)) :
  ShlInv a n (i+1) ((out.set (i.toNat+n / 32) (wOr .u32 p (IntKind.wrap .u32 y)).toNat).set (i.toNat+n / 32+1) (IntKind.wrap .u32 (Int.fdiv y (2^32))).toNat):=by
 obtain⟨h0,h1,h2,h3,h4,h5⟩:=h
 have gx:=dig_get (dig_limbs a) i.toNat
 have gp:=dig_get h3 (i.toNat+n / 32)
 rw[gi_eq] at hp hy
 have htk:=take_succ_val out (i.toNat+n / 32)
 have hta:=take_succ_val (limbs a) i.toNat
 generalize (limbs a).getD i.toNat 0=x at *
 have hsum:=h5
 generalize hP:out.getD (i.toNat+n / 32) 0=P at *
 have hr:n%32<32:=by omega
 have hb:=shl_bound gx hr
 have hyN:y=((x*2^(n%32):Nat):Int):=by rw[hy,pow_cast];simp
 generalize hY:x*2^(n%32)=Y at *
 subst hyN
 subst hp
 have e1:IntKind.wrap .u32 ((Y:Nat):Int)=((Y%4294967296:Nat):Int):=by rw[wrap_u32];omega
 have e2:IntKind.wrap .u32 (Int.fdiv ((Y:Nat):Int) (2^32))=((Y / 4294967296:Nat):Int):=by rw[fdiv_B,wrap_u32];omega
 have hlo:Y%4294967296=2^(n%32)*(x%2^(32-n%32)):=by
  rw[← hY,Nat.mul_comm x,show (4294967296:Nat)=2^(n%32)*2^(32-n%32) by rw[← Nat.pow_add,show n%32+(32-n%32)=32 by omega],Nat.mul_mod_mul_left]
 have e3:wOr .u32 ((P:Nat):Int) ((Y%4294967296:Nat):Int)=((P+Y%4294967296:Nat):Int):=by
  rw[wOr_nat gp (Nat.mod_lt _ (by omega)),hlo,or_add h5]
 have hsumlt:P+Y%4294967296<4294967296:=by
  have:P ||| Y%4294967296<2^32:=Nat.or_lt_two_pow (by omega) (by omega)
  rw[hlo,or_add h5,← hlo] at this
  omega
 have hhi:Y / 4294967296<2^(n%32):=by
  rw[← hY]
  apply Nat.div_lt_of_lt_mul
  exact Nat.mul_lt_mul_of_pos_right gx (Nat.two_pow_pos _)
 rw[e1,e2,e3,Int.toNat_natCast,Int.toNat_natCast]
 refine⟨by omega,by omega,by simpa using h2,dig_set (dig_set h3 hsumlt _) (by omega) _,?_,?_⟩
 ·rw[show (i+1).toNat=i.toNat+1 by omega,show i.toNat+1+n / 32+1=(i.toNat+n / 32+1)+1 by omega,set_val _ _ (by simp;omega),set_val _ _ (by omega),hta]
  rw[Nat.add_mul,← h4,htk]
  have hB:4294967296^i.toNat*x*2^n=4294967296^(i.toNat+n / 32)*Y:=by
   rw[← hY,B_pow,B_pow,Nat.mul_add,Nat.pow_add,Nat.mul_assoc,Nat.mul_assoc,Nat.mul_left_comm (2^(32*(n / 32))),← Nat.pow_add,show 32*(n / 32)+n%32=n by omega]
  rw[hB,Nat.pow_succ,Nat.mul_assoc (4294967296^_),Nat.mul_add,Nat.add_assoc,Nat.add_assoc,Nat.add_assoc,← Nat.mul_add (4294967296^_) (Y%4294967296),Nat.mod_add_div]
 ·rw[show (i+1).toNat+n / 32=i.toNat+n / 32+1 by omega,set_getD _ _ (by simp;omega)]
  exact hhi
theorem shl_end {a n:Nat}{out:List Nat}(h:ShlInv a n (L a:Int) out):Dig out∧out.length=L a+n / 32+1∧val out=a*2^n:=by
 obtain⟨h0,h1,h2,h3,h4,h5⟩:=h
 refine⟨h3,h2,?_⟩
 rw[Int.toNat_natCast,val_lim a (Nat.le_refl _),val_all out (by omega)] at h4
 exact h4
theorem fdiv_pow (s:Int)(k:Nat):Int.fdiv s (2^k)=s / ((2^k:Nat):Int):=by
 rw[Int.fdiv_eq_ediv_of_nonneg _ (by rw[pow_cast];exact Int.natCast_nonneg _),pow_cast]
theorem drop_val (l:List Nat)(k:Nat)(hD:Dig l):val (l.drop k)=val l / 4294967296^k:=by
 by_cases h:k≤l.length
 ·have e:=val_append (l.take k) (l.drop k)
  rw[List.take_append_drop,List.length_take,Nat.min_eq_left h] at e
  have hl:=val_lt (dig_take hD k)
  rw[List.length_take,Nat.min_eq_left h] at hl
  rw[e,Nat.add_mul_div_left _ _ (Nat.pow_pos (by omega)),Nat.div_eq_of_lt hl,Nat.zero_add]
 ·have hl:=val_lt hD
  rw[List.drop_eq_nil_of_le (by omega),Nat.div_eq_of_lt]
  ·rfl
  ·exact Nat.lt_of_lt_of_le hl (Nat.pow_le_pow_right (by omega) (by omega))
theorem digit_eq (l:List Nat)(k:Nat)(hD:Dig l):l.getD k 0=val l / 4294967296^k%4294967296:=by
 rw[← drop_val l k hD]
 by_cases h:k<l.length
 ·rw[List.drop_eq_getElem_cons h,val,List.getD_eq_getElem?_getD,List.getElem?_eq_getElem h]
  have:=hD _ (List.getElem_mem h)
  simp only [Option.getD_some]
  omega
 ·rw[List.drop_eq_nil_of_le (by omega),List.getD_eq_getElem?_getD,List.getElem?_eq_none (by omega)]
  rfl
theorem limb_eq (a k:Nat):(limbs a).getD k 0=a / 4294967296^k%4294967296:=by
 rw[digit_eq _ _ (dig_limbs a),val_limbs]
def ShrInv (a n:Nat)(i:Int)(out:List Nat):Prop :=
 0≤i∧i≤((L a-n / 32:Nat):Int)∧out.length=L a-n / 32∧Dig out∧val (out.take i.toNat)=a / 2^n%4294967296^i.toNat
theorem shr_init (a n:Nat):ShrInv a n 0 (List.replicate (L a-n / 32) 0):=⟨by omega,by omega,by simp,dig_rep _,by simp [val,Nat.mod_one]⟩
theorem shr_digit (a n i:Nat):a / 2^n / 4294967296^i%4294967296 =
  ((limbs a).getD (i+n / 32) 0+(limbs a).getD (i+n / 32+1) 0*4294967296) / 2^(n%32)%4294967296:=by
 rw[limb_eq,limb_eq,Nat.pow_succ,← Nat.div_div_eq_div_mul a]
 have e:a / 2^n / 4294967296^i=a / 4294967296^(i+n / 32) / 2^(n%32):=by
  rw[Nat.div_div_eq_div_mul,Nat.div_div_eq_div_mul,B_pow,B_pow,← Nat.pow_add,← Nat.pow_add]
  congr 2
  omega
 rw[e]
 generalize a / 4294967296^(i+n / 32)=q
 have hr:2^(n%32)*2^(32-n%32)=4294967296:=by rw[← Nat.pow_add,show n%32+(32-n%32)=32 by omega]
 have hq:q=(q%4294967296+q / 4294967296%4294967296*4294967296)+2^(n%32)*(2^(32-n%32)*(4294967296*(q / 4294967296 / 4294967296))):=by
  rw[← Nat.mul_assoc,hr];omega
 conv=>lhs;rw[hq]
 rw[Nat.add_mul_div_left _ _ (Nat.two_pow_pos _),Nat.mul_left_comm,Nat.add_mul_mod_self_left]
theorem shr_next {a n:Nat}{i y:Int}{out:List Nat}(h:ShrInv a n i out)(hi:i<((L a-n / 32:Nat):Int))
  (hy:y=gi (limbs a) (i.toNat+n / 32)+gi (limbs a) (i.toNat+n / 32+1)*4294967296) :
  ShrInv a n (i+1) (out.set i.toNat (IntKind.wrap .u32 (Int.fdiv y (2^(n%32)))).toNat):=by
 obtain⟨h0,h1,h2,h3,h4⟩:=h
 rw[gi_eq,gi_eq] at hy
 have hd:=shr_digit a n i.toNat
 have hyN:y=(((limbs a).getD (i.toNat+n / 32) 0+(limbs a).getD (i.toNat+n / 32+1) 0*4294967296:Nat):Int):=by rw[hy];simp
 rw[hyN]
 generalize (limbs a).getD (i.toNat+n / 32) 0+(limbs a).getD (i.toNat+n / 32+1) 0*4294967296=Y at *
 have e1:IntKind.wrap .u32 (Int.fdiv (Y:Int) (2^(n%32)))=((Y / 2^(n%32)%4294967296:Nat):Int):=by rw[fdiv_pow,wrap_u32];simp
 rw[e1,Int.toNat_natCast,← hd]
 refine⟨by omega,by omega,by simpa using h2,dig_set h3 (by omega) _,?_⟩
 rw[show (i+1).toNat=i.toNat+1 by omega,set_val _ _ (by omega),h4,Nat.pow_succ,Nat.mod_mul]
theorem shr_end {a n:Nat}{out:List Nat}(h:ShrInv a n ((L a-n / 32:Nat):Int) out)(hw:n / 32<L a):Dig out∧out.length=L a-n / 32∧val out=a / 2^n:=by
 obtain⟨h0,h1,h2,h3,h4⟩:=h
 refine⟨h3,h2,?_⟩
 rw[Int.toNat_natCast,val_all out (by omega),Nat.mod_eq_of_lt] at h4
 ·exact h4
 ·apply Nat.div_lt_of_lt_mul
  refine Nat.lt_of_lt_of_le (L_lt a) ?_
  rw[B_pow,B_pow,← Nat.pow_add]
  exact Nat.pow_le_pow_right (by omega) (by omega)
theorem shr_zero {a n:Nat}(hw:L a≤n / 32):a / 2^n=0:=by
 apply Nat.div_eq_of_lt
 refine Nat.lt_of_lt_of_le (L_lt a) ?_
 rw[B_pow]
 exact Nat.pow_le_pow_right (by omega) (by omega)
theorem ofInt64 {a:Int}(h:0≤a):(BitVec.ofInt 64 a).toNat=a.toNat%18446744073709551616:=by
 obtain⟨n,rfl⟩:=Int.eq_ofNat_of_zero_le h
 rw[BitVec.ofInt_natCast,BitVec.toNat_ofNat,Int.toNat_natCast]
theorem wOr_64 {a b:Nat}(ha:a<4294967296)(hb:b<4294967296):wOr .u64 (a:Int) ((b:Int)*4294967296)=(a:Int)+(b:Int)*4294967296:=by
 have e:(b:Int)*4294967296=((4294967296*b:Nat):Int):=by omega
 have h1:a ||| 4294967296*b=a+4294967296*b:=or_add (r:=32) ha
 rw[e]
 show IntKind.wrap .u64 ((BitVec.ofInt 64 (a:Int) ||| BitVec.ofInt 64 ((4294967296*b:Nat):Int)).toNat:Int)=_
 rw[BitVec.toNat_or,ofInt64 (by omega),ofInt64 (by omega),wrap_u64,Int.toNat_natCast,Int.toNat_natCast,Nat.mod_eq_of_lt (show a<18446744073709551616 by omega),Nat.mod_eq_of_lt (by omega),h1]
 omega
theorem wOr_gi (a k k2:Nat):wOr .u64 (gi (limbs a) k) (gi (limbs a) k2*2^32)=gi (limbs a) k+gi (limbs a) k2*4294967296:=by
 rw[gi_eq,gi_eq]
 exact wOr_64 (dig_get (dig_limbs a) k) (dig_get (dig_limbs a) k2)
theorem low_all {a n:Nat}(hw:L a≤n / 32):a%2^n=a:=by
 apply Nat.mod_eq_of_lt
 refine Nat.lt_of_lt_of_le (L_lt a) ?_
 rw[B_pow]
 exact Nat.pow_le_pow_right (by omega) (by omega)
theorem low_word {x r:Nat}(hx:x<4294967296)(hr:r<32):wAnd .u32 (x:Int) (2^r-1)=((x%2^r:Nat):Int):=by
 have h1:(2:Int)^r-1=((2^r-1:Nat):Int):=by have:=Nat.two_pow_pos r;rw[pow_cast];omega
 have h2:2^r≤2^31:=Nat.pow_le_pow_right (by omega) (by omega)
 rw[h1,wAnd_nat hx (by omega),Nat.and_two_pow_sub_one_eq_mod]
theorem low_val {a n:Nat}(hw:n / 32<L a):val (((limbs a).take (n / 32+1)).set (n / 32) ((limbs a).getD (n / 32) 0%2^(n%32)))=a%2^n:=by
 have hl:((limbs a).take (n / 32+1)).length=n / 32+1:=by rw[List.length_take];unfold L at hw;omega
 rw[← val_all (((limbs a).take (n / 32+1)).set (n / 32) _) (n:=n / 32+1) (by simp;omega),set_val _ _ (by omega),List.take_take,Nat.min_eq_left (by omega)]
 have hs:=take_succ_val (limbs a) (n / 32)
 have e:=val_append ((limbs a).take (n / 32)) ((limbs a).drop (n / 32))
 rw[List.take_append_drop,val_limbs,List.length_take,Nat.min_eq_left (by unfold L at hw;omega),drop_val _ _ (dig_limbs a),val_limbs] at e
 have hlt:=val_lt (dig_take (dig_limbs a) (n / 32))
 rw[List.length_take,Nat.min_eq_left (by unfold L at hw;omega)] at hlt
 rw[limb_eq]
 generalize val ((limbs a).take (n / 32))=t at *
 have hn:2^n=4294967296^(n / 32)*2^(n%32):=by rw[B_pow,← Nat.pow_add];congr 1;omega
 rw[hn,Nat.mod_mul]
 have h1:a%4294967296^(n / 32)=t:=by
  have:=congrArg (·%4294967296^(n / 32)) e
  simp only [Nat.add_mul_mod_self_left] at this
  rw[this,Nat.mod_eq_of_lt hlt]
 rw[h1]
 have hr:2^(32-n%32)*2^(n%32)=4294967296:=by rw[← Nat.pow_add,show 32-n%32+n%32=32 by omega]
 rw[← hr,Nat.mod_mul_left_mod]
def nbits (n:Nat):Nat:=if n=0 then 0 else Nat.log2 n+1
theorem nbits_of {n k:Nat}(h1:2^k≤n)(h2:n<2^(k+1)):nbits n=k+1:=by
 have h0:n≠0:=by have:=Nat.two_pow_pos k;omega
 unfold nbits
 rw[if_neg h0]
 have:=(Nat.log2_eq_iff h0).2 ⟨h1,h2⟩
 omega
theorem nbits_lt (n:Nat):n<2^nbits n:=by
 unfold nbits
 split
 ·omega
 ·exact Nat.lt_log2_self
theorem nbits_le {n:Nat}(h:n≠0):2^(nbits n-1)≤n:=by
 unfold nbits
 rw[if_neg h]
 exact Nat.log2_self_le h
theorem nbits_zero:nbits 0=0:=rfl
theorem nbits_pos {n:Nat}(h:n≠0):0<nbits n:=by unfold nbits;rw[if_neg h];omega
theorem bitLenAux_eq : ∀ (f x : Nat), x < 2 ^ f → Lib.bitLenAux f x = nbits x
  | 0, x, h => by have : x = 0 := by simpa using h
                  subst this; rfl
  | f + 1, x, h => by
    by_cases h0 : x = 0
    · subst h0; simp [Lib.bitLenAux, nbits]
    · rw [Lib.bitLenAux, if_neg h0, bitLenAux_eq f (x / 2) (by rw [Nat.pow_succ] at h; omega)]
      by_cases h1 : x / 2 = 0
      · have : x = 1 := by omega
        subst this; rfl
      · have a1 := nbits_le h1
        have a2 := nbits_lt (x / 2)
        have a3 := nbits_pos h1
        rw [Nat.add_comm]
        refine (nbits_of ?_ ?_).symm
        · rw [show nbits (x / 2) = nbits (x / 2) - 1 + 1 by omega, Nat.pow_succ]; omega
        · rw [Nat.pow_succ]; omega
theorem bitLen_eq {x:Nat}(h:x<4294967296):Lib.bitLen x=nbits x:=bitLenAux_eq 64 x (by omega)
theorem bits_top {a:Nat}(h:a≠0):nbits a=32*(L a-1)+nbits ((limbs a).getD (L a-1) 0):=by
 have hp:=L_pos h
 have hlow:=L_low h
 have hlt:=L_lt a
 rw[limb_eq]
 have hq:a / 4294967296^(L a-1)%4294967296=a / 4294967296^(L a-1):=by
  apply Nat.mod_eq_of_lt
  apply Nat.div_lt_of_lt_mul
  rw[← Nat.pow_succ,show (L a-1).succ=L a by omega]
  exact hlt
 rw[hq]
 have h0:a / 4294967296^(L a-1)≠0:=by
  have:=Nat.div_pos hlow (Nat.pow_pos (by omega));omega
 have a1:=nbits_le h0
 have a2:=nbits_lt (a / 4294967296^(L a-1))
 have a3:=nbits_pos h0
 generalize hk:nbits (a / 4294967296^(L a-1))=k at *
 rw[show 32*(L a-1)+k=(32*(L a-1)+k-1)+1 by omega]
 apply nbits_of
 ·rw[show 32*(L a-1)+k-1=(k-1)+32*(L a-1) by omega,Nat.pow_add,← B_pow]
  exact (Nat.le_div_iff_mul_le (Nat.pow_pos (by omega))).1 a1
 ·rw[show 32*(L a-1)+k-1+1=k+32*(L a-1) by omega,Nat.pow_add,← B_pow]
  exact (Nat.div_lt_iff_lt_mul (Nat.pow_pos (by omega))).1 a2
theorem bit_limb (a i:Nat):a.testBit i=decide ((limbs a).getD (i / 32) 0 / 2^(i%32)%2=1):=by
 rw[limb_eq,Nat.testBit_eq_decide_div_mod_eq]
 congr 1
 have e:a / 2^i=a / 4294967296^(i / 32) / 2^(i%32):=by
  rw[Nat.div_div_eq_div_mul,B_pow,← Nat.pow_add];congr 2;omega
 rw[e]
 generalize a / 4294967296^(i / 32)=q
 have hr:2^(i%32)*2^(32-i%32)=4294967296:=by rw[← Nat.pow_add,show i%32+(32-i%32)=32 by omega]
 have h2:2^(32-i%32)=2*2^(31-i%32):=by rw[← Nat.pow_succ',show (31-i%32).succ=32-i%32 by omega]
 have hq:q=q%4294967296+2^(i%32)*(2*(2^(31-i%32)*(q / 4294967296))):=by
  rw[← Nat.mul_assoc 2,← h2,← Nat.mul_assoc,hr];omega
 conv=>lhs;lhs;rw[hq]
 rw[Nat.add_mul_div_left _ _ (Nat.two_pow_pos _),Nat.add_mul_mod_self_left]
theorem top_bits (a:Nat):0<L a→(nbits a:Int)=32*((L a:Int)-1)+(Lib.bitLen (gi (limbs a) ((L a:Int)-1).toNat).toNat:Int)∧Lib.bitLen (gi (limbs a) ((L a:Int)-1).toNat).toNat≤32:=by
 intro h
 have h0:a≠0:=fun e=>by subst e;rw[L_zero] at h;omega
 have ht:=bits_top h0
 rw[gi_eq,show ((L a:Int)-1).toNat=L a-1 by omega,Int.toNat_natCast,bitLen_eq (dig_get (dig_limbs a) _)]
 refine⟨by omega,?_⟩
 have h1:=dig_get (dig_limbs a) (L a-1)
 generalize (limbs a).getD (L a-1) 0=x at *
 rcases Nat.lt_or_ge 32 (nbits x) with q | q
 ·exfalso
  have hx:x≠0:=fun e=>by subst e;rw[nbits_zero] at q;omega
  have:=nbits_le hx
  have:2^32≤2^(nbits x-1):=Nat.pow_le_pow_right (by omega) (by omega)
  omega
 ·exact q
theorem min_rest32 {n:Int}(h:0≤n):min (wRem n (32:Int)).toNat (IntKind.bits .u32)=n.toNat%32:=by
 rw[wRem32 h,show IntKind.bits .u32=32 from rfl];omega
theorem bit_t {a:Nat}{i:Int}(h:0≤i) :
  iEq (wAnd .u32 (Int.fdiv (gi (limbs a) (Int.tdiv i (32:Int)).toNat) (2^(min (wRem i (32:Int)).toNat (IntKind.bits .u32)))) (1:Int)) 1=a.testBit i.toNat:=by
 rw[min_rest32 h,tdiv32 h,show (i / 32).toNat=i.toNat / 32 by omega,gi_eq,fdiv_pow,bit_limb]
 have hx:=dig_get (dig_limbs a) (i.toNat / 32)
 generalize (limbs a).getD (i.toNat / 32) 0=x at *
 have hq:x / 2^(i.toNat%32)≤x:=Nat.div_le_self _ _
 rw[← Int.natCast_ediv]
 have:=wAnd_nat (a:=x / 2^(i.toNat%32)) (b:=1) (by omega) (by omega)
 rw[show (1:Int)=((1:Nat):Int) from rfl,this,Nat.and_one_is_mod]
 unfold iEq
 rw[Bool.eq_iff_iff]
 simp only [beq_iff_eq,decide_eq_true_eq]
 omega
theorem bit_f {a:Nat}{i:Int}(h0:0≤i)(h:L a≤i.toNat / 32):a.testBit i.toNat=false:=by
 rw[bit_limb,List.getD_eq_getElem?_getD,List.getElem?_eq_none (show (limbs a).length≤i.toNat / 32 from h)]
 simp
theorem low_mask {n:Int}(h:0≤n){x:Int}(hx:0≤x∧x<4294967296):wAnd .u32 x ((1:Int)*2^(min (wRem n (32:Int)).toNat (IntKind.bits .u32))-1)=((x.toNat%2^(n.toNat%32):Nat):Int):=by
 rw[min_rest32 h,Int.one_mul]
 have:=low_word (x:=x.toNat) (r:=n.toNat%32) (by omega) (by omega)
 rwa [Int.toNat_of_nonneg hx.1] at this
theorem mask_ok {n:Int}(h:0≤n):1≤(1:Int)*2^(min (wRem n (32:Int)).toNat (IntKind.bits .u32))∧(1:Int)*2^(min (wRem n (32:Int)).toNat (IntKind.bits .u32))≤2147483648:=by
 rw[min_rest32 h,Int.one_mul,pow_cast]
 have h1:=Nat.two_pow_pos (n.toNat%32)
 have h2:2^(n.toNat%32)≤2^31:=Nat.pow_le_pow_right (by omega) (by omega)
 omega
theorem low_cut {a:Nat}{n:Int}(hn:0≤n)(h:n.toNat / 32<L a):(List.take ((((Int.tdiv n (32:Int))+1)-0).toNat) (List.drop 0 (lim a)))=U ((limbs a).take (n.toNat / 32+1)):=by
 rw[tdiv32 hn,show ((n / 32+1)-0).toNat=n.toNat / 32+1 by omega,List.drop_zero];exact U_take _ _
theorem low_len {a:Nat}{n:Int}(hn:0≤n)(h:n.toNat / 32<L a):(List.take ((((Int.tdiv n (32:Int))+1)-0).toNat) (List.drop 0 (lim a))).length=n.toNat / 32+1:=by
 rw[low_cut hn h,U_len,List.length_take];unfold L at h;omega
theorem low_ld {a:Nat}{n:Int}(hn:0≤n)(h:n.toNat / 32<L a) :
  (Nat.blt (0+(Int.tdiv n (32:Int)).toNat) (List.take ((((Int.tdiv n (32:Int))+1)-0).toNat) (List.drop 0 (lim a))).length && isIntK .u32 (nth (List.take ((((Int.tdiv n (32:Int))+1)-0).toNat) (List.drop 0 (lim a))) (0+(Int.tdiv n (32:Int)).toNat) .unk))=true:=by
 rw[low_cut hn h]
 refine ld_U ?_
 rw[List.length_take,tdiv32 hn];unfold L at h;omega
theorem low_set {a:Nat}{n:Int}(hn:0≤n)(h:n.toNat / 32<L a) :
  List.set (List.take ((((Int.tdiv n (32:Int))+1)-0).toNat) (List.drop 0 (lim a))) (0+(Int.tdiv n (32:Int)).toNat) (.int .u32 (wAnd .u32 (intV (nth (List.take ((((Int.tdiv n (32:Int))+1)-0).toNat) (List.drop 0 (lim a))) (0+(Int.tdiv n (32:Int)).toNat) .unk)) (((1:Int)*2^(min (wRem n (32:Int)).toNat (IntKind.bits .u32)))-1)))=U (((limbs a).take (n.toNat / 32+1)).set (n.toNat / 32) ((limbs a).getD (n.toNat / 32) 0%2^(n.toNat%32))):=by
 have hk:0+(Int.tdiv n (32:Int)).toNat=n.toNat / 32:=by rw[tdiv32 hn];omega
 rw[low_cut hn h,hk]
 have e:intV (nth (U ((limbs a).take (n.toNat / 32+1))) (n.toNat / 32) .unk)=gi (limbs a) (n.toNat / 32):=by
  show gi ((limbs a).take (n.toNat / 32+1)) (n.toNat / 32)=_
  rw[gi_eq,gi_eq,List.getD_eq_getElem?_getD,List.getD_eq_getElem?_getD,List.getElem?_take,if_pos (by omega)]
 rw[e,low_mask hn ⟨gi_nonneg _ _,gi_lt (dig_limbs a) _⟩,gi_eq,Int.toNat_natCast]
 exact setU _ rfl rfl
theorem low_dig {a:Nat}{n:Int}(h:n.toNat / 32<L a):Dig (((limbs a).take (n.toNat / 32+1)).set (n.toNat / 32) ((limbs a).getD (n.toNat / 32) 0%2^(n.toNat%32)))∧(((limbs a).take (n.toNat / 32+1)).set (n.toNat / 32) ((limbs a).getD (n.toNat / 32) 0%2^(n.toNat%32))).length=n.toNat / 32+1∧val (((limbs a).take (n.toNat / 32+1)).set (n.toNat / 32) ((limbs a).getD (n.toNat / 32) 0%2^(n.toNat%32)))=a%2^n.toNat:=by
 refine⟨dig_set (dig_take (dig_limbs a) _) (Nat.lt_of_le_of_lt (Nat.mod_le _ _) (dig_get (dig_limbs a) _)) _,?_,low_val h⟩
 rw[List.length_set,List.length_take];unfold L at h;omega
def tz (n:Nat):Nat:=if n=0 then 0 else if n%2=1 then 0 else tz (n / 2)+1
termination_by n
decreasing_by omega
theorem tz_spec {n:Nat}(h:n≠0):n%2^tz n=0∧n / 2^tz n%2=1:=by
 induction n using Nat.strongRecOn with
 | _ n ih =>
  rw[tz,if_neg h]
  split
  ·rename_i h1;simpa [Nat.mod_one] using h1
  ·rename_i h1
   obtain⟨i1,i2⟩:=ih (n / 2) (by omega) (by omega)
   rw[Nat.pow_succ,Nat.mul_comm,← Nat.div_div_eq_div_mul]
   refine⟨?_,i2⟩
   rw[Nat.mod_mul,i1,Nat.mul_zero,Nat.add_zero]
   omega
theorem tz_unique {n k:Nat}(h0:n%2^k=0)(h1:n / 2^k%2=1):tz n=k:=by
 have hn:n≠0:=fun e=>by subst e;simp at h1
 obtain⟨s0,s1⟩:=tz_spec hn
 -- both split n alike
 have key:∀ {i j:Nat},n%2^i=0→n / 2^i%2=1→n%2^j=0→j≤i:=by
  intro i j a b c
  rcases Nat.lt_or_ge i j with q | q
  ·exfalso
   have e:2^j=2^i*(2*2^(j-i-1)):=by rw[← Nat.pow_succ',← Nat.pow_add];congr 1;omega
   have d:2^j ∣ n:=Nat.dvd_of_mod_eq_zero c
   obtain⟨m,hm⟩:=d
   rw[e,Nat.mul_assoc] at hm
   rw[hm,Nat.mul_div_cancel_left _ (Nat.two_pow_pos _),Nat.mul_assoc,Nat.mul_mod_right] at b
   omega
  ·exact q
 exact Nat.le_antisymm (key h0 h1 s0) (key s0 s1 h0)
theorem ctz_eq {x:Nat}(h0:x≠0)(h:x<4294967296):Lib.ctz 32 x=tz x∧tz x<32:=by
 obtain⟨m,h1,h2⟩:=Lib.ctzFrom_spec 32 x (by omega) h
 have e:Lib.ctz 32 x=Lib.ctzFrom 32 x:=by unfold Lib.ctz;rw[if_neg h0]
 have t:tz x=Lib.ctzFrom 32 x:=by
  generalize Lib.ctzFrom 32 x=k at *
  apply tz_unique
  ·rw[h1];exact Nat.mul_mod_right _ _
  ·rw[h1,Nat.mul_div_cancel_left _ (Nat.two_pow_pos _)];omega
 rw[e,t];exact⟨rfl,h2⟩
theorem tz_limb {a i:Nat}(hz:(limbs a).take i=List.replicate i 0)(hi:i<L a)(hx:(limbs a).getD i 0≠0):tz a=32*i+tz ((limbs a).getD i 0):=by
 have e:=at_split (limbs a) i hi
 rw[val_limbs,hz,val_rep,Nat.zero_add] at e
 obtain⟨s0,s1⟩:=tz_spec hx
 have hlt:=(ctz_eq hx (dig_get (dig_limbs a) i)).2
 generalize (limbs a).getD i 0=x at *
 generalize val ((limbs a).drop (i+1))=r at *
 generalize tz x=k at *
 have hs:(4294967296:Nat)=2^k*(2*2^(31-k)):=by rw[← Nat.pow_succ',← Nat.pow_add,show k+(31-k).succ=32 by omega]
 obtain⟨y,rfl⟩:=Nat.dvd_of_mod_eq_zero s0
 have e2:2^k*y+4294967296*r=2^k*(y+2*(2^(31-k)*r)):=by rw[Nat.mul_add,hs];simp only [Nat.mul_assoc]
 rw[e2,B_pow,← Nat.mul_assoc,← Nat.pow_add] at e
 rw[Nat.mul_div_cancel_left _ (Nat.two_pow_pos _)] at s1
 apply tz_unique
 ·rw[e];exact Nat.mul_mod_right _ _
 ·rw[e,Nat.mul_div_cancel_left _ (Nat.two_pow_pos _)];omega
theorem zeros_step {a i:Nat}(hz:(limbs a).take i=List.replicate i 0)(hi:i<L a)(hx:gi (limbs a) i=0):(limbs a).take (i+1)=List.replicate (i+1) 0:=by
 have hi':i<(limbs a).length:=hi
 rw[gi_eq] at hx
 rw[List.take_succ_eq_append_getElem hi',hz,List.replicate_succ']
 rw[List.getD_eq_getElem?_getD,List.getElem?_eq_getElem hi'] at hx
 simp only [Option.getD_some] at hx
 rw[show (limbs a)[i]=0 by omega]
theorem zeros_end {a:Nat}(hz:(limbs a).take (L a)=List.replicate (L a) 0):tz a=0:=by
 have:a=0:=by
  have h:=congrArg val hz
  rwa [val_lim a (Nat.le_refl _),val_rep] at h
 subst this;rw[tz];rfl
theorem zeros_hit {a:Nat}{i:Int}(h0:0≤i)(hz:(limbs a).take i.toNat=List.replicate i.toNat 0)(hi:i<L a)(hx:gi (limbs a) i.toNat≠0) :
  32*i+(Lib.ctz 32 (gi (limbs a) i.toNat).toNat:Int)=(tz a:Int)∧Lib.ctz 32 (gi (limbs a) i.toNat).toNat<32:=by
 rw[gi_eq] at hx
 have hx':(limbs a).getD i.toNat 0≠0:=by omega
 have h1:=ctz_eq hx' (dig_get (dig_limbs a) _)
 rw[gi_eq,Int.toNat_natCast,tz_limb hz (by omega) hx',h1.1]
 refine⟨by omega,by omega⟩
end Go.Proofs.YtkkbddkpggjgpaaGreatDoor
