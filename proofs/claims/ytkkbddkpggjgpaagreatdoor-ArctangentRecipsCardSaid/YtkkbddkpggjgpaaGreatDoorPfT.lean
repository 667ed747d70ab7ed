/-
  Lower layers: what functions of the program compute, and plain facts. Conditions: as the theorems say.
-/
import Derived.Test.YtkkbddkpggjgpaaGreatDoorPfS
set_option linter.unusedVariables false
set_option linter.unusedSimpArgs false
namespace Go.Proofs.YtkkbddkpggjgpaaGreatDoor
open Go.RowKit
set_option maxRecDepth 100000
set_option maxHeartbeats 2000000
theorem sq_hi1 {b s:Int}(h:b.natAbs*2^s.toNat-rt (b.natAbs*2^s.toNat)*rt (b.natAbs*2^s.toNat)≠0):sgn false (rt (b.natAbs*2^s.toNat)+(1:Int).toNat)=sqHi b s:=by
 unfold sqHi
 rw[if_neg h];rfl
theorem sq_hi2 {b s:Int}(h:b.natAbs*2^s.toNat-rt (b.natAbs*2^s.toNat)*rt (b.natAbs*2^s.toNat)=0):sgn false (rt (b.natAbs*2^s.toNat))=sqHi b s:=by
 unfold sqHi
 rw[if_pos h];rfl
theorem fx_Sqrt (a b s:Int)(c0:L (a).natAbs≤1000)(c1:L (b).natAbs≤1000)(c2:(0:Int)≤s∧s≤20000):Impl Tryz.prog Amb 211 [(sV a b),(.int .i64 s)] (sV (sqLo a s) (sqHi b s)):=by
 have z1:=L_lit 1 (by decide)
 have m1:=L_abs_shl a s.toNat
 have m2:=L_abs_shl b s.toNat
 have e1:=abs_shl a s.toNat
 have e2:=abs_shl b s.toNat
 exact impl_ob hP hAmb Tryz.func211 (by kernel_rfl) (.lits 2<|.call (N (a.natAbs*2^(s).toNat))<|.lit<|.call (.tup [(N (rt (a.natAbs*2^(s).toNat))),(N ((a.natAbs*2^(s).toNat)-rt (a.natAbs*2^(s).toNat)*rt (a.natAbs*2^(s).toNat)))])<|.lits 2<|.call (N (b.natAbs*2^(s).toNat))<|.lit<|.call (.tup [(N (rt (b.natAbs*2^(s).toNat))),(N ((b.natAbs*2^(s).toNat)-rt (b.natAbs*2^(s).toNat)*rt (b.natAbs*2^(s).toNat)))])<|.lit<|.both (.lit<|.call (N 1)<|.lit<|.call (N ((rt (b.natAbs*2^(s).toNat))+1))<|.lit<|.call (zV (sgn false (rt (a.natAbs*2^(s).toNat))))<|.lit<|.call (zV (sgn false ((rt (b.natAbs*2^(s).toNat))+1)))<|.lits 3<|.ret) (.lit<|.call (zV (sgn false (rt (a.natAbs*2^(s).toNat))))<|.lit<|.call (zV (sgn false (rt (b.natAbs*2^(s).toNat))))<|.lits 3<|.ret))
  (cast_ob (aI True.intro (aI (nat_Shl a.natAbs s oO oO) (have f13:=L_shl a.natAbs (s).toNat;aI (root_Sqrt (a.natAbs*2^(s).toNat) oO) (have f12:=L_sub (a.natAbs*2^(s).toNat) (rt (a.natAbs*2^(s).toNat)*rt (a.natAbs*2^(s).toNat));have f11:=rt_L (a.natAbs*2^(s).toNat);aI (nat_Shl b.natAbs s oO oO) (have f10:=L_shl b.natAbs (s).toNat;aI (root_Sqrt (b.natAbs*2^(s).toNat) oO) (have f9:=L_sub (b.natAbs*2^(s).toNat) (rt (b.natAbs*2^(s).toNat)*rt (b.natAbs*2^(s).toNat));have f8:=rt_L (b.natAbs*2^(s).toNat);aI (fun (h1:(iGt ((lim ((b.natAbs*2^(s).toNat)-rt (b.natAbs*2^(s).toNat)*rt (b.natAbs*2^(s).toNat))).length:Int) 0)=true)=>have _gh1:=iGt_t h1;aI (nat_Of 1 oO) (aI (nat_Add (rt (b.natAbs*2^(s).toNat)) 1 oO oO) (have f4:=L_add (rt (b.natAbs*2^(s).toNat)) 1;aI (int_Nat false (rt (a.natAbs*2^(s).toNat)) oO) (have f3:=L_sgn false (rt (a.natAbs*2^(s).toNat));aI (int_Nat false ((rt (b.natAbs*2^(s).toNat))+1) oO) (have f2:=L_sgn false ((rt (b.natAbs*2^(s).toNat))+1);(Sp_of rfl (sq_hi1 (fun q=>by have z:L (b.natAbs*2^s.toNat-rt (b.natAbs*2^s.toNat)*rt (b.natAbs*2^s.toNat))=0:=(by rw[q];exact L_zero);have e:=L_len (b.natAbs*2^s.toNat-rt (b.natAbs*2^s.toNat)*rt (b.natAbs*2^s.toNat));omega)):vsub (sV (sgn false (rt (a.natAbs*2^(s).toNat))) (sgn false ((rt (b.natAbs*2^(s).toNat))+1))) (sV (sqLo a s) (sqHi b s)))))))) (fun (h5:(iGt ((lim ((b.natAbs*2^(s).toNat)-rt (b.natAbs*2^(s).toNat)*rt (b.natAbs*2^(s).toNat))).length:Int) 0)=false)=>have _gh5:=iGt_f h5;aI (int_Nat false (rt (a.natAbs*2^(s).toNat)) oO) (have f7:=L_sgn false (rt (a.natAbs*2^(s).toNat));aI (int_Nat false (rt (b.natAbs*2^(s).toNat)) oO) (have f6:=L_sgn false (rt (b.natAbs*2^(s).toNat));(Sp_of rfl (sq_hi2 (Decidable.byContradiction fun q=>by have z:=L_pos q;have e:=L_len (b.natAbs*2^s.toNat-rt (b.natAbs*2^s.toNat)*rt (b.natAbs*2^s.toNat));omega)):vsub (sV (sgn false (rt (a.natAbs*2^(s).toNat))) (sgn false (rt (b.natAbs*2^(s).toNat)))) (sV (sqLo a s) (sqHi b s)))))))))))) (by kernel_rfl))
def fx_ang_0_mk (sc o1 o2:Int)(ha hb _ _ _ _ _ _ _ _:Nat→Int)(x:Nat × Int):St:=⟨mkS 74 [(1,(.val (.int .i64 sc))),(2,(.own 0 0)),(4,(.own 1 0)),(5,(.val (.int .i64 ((sc+8)+16)))),(6,(.own 2 0)),(21,(.val (.int .i64 x.2)))],[⟨true,false,[(V.bool (decide ((ha x.1)<0))),(N ((ha x.1).natAbs)),(V.bool (decide ((hb x.1)<0))),(N ((hb x.1).natAbs))]⟩,⟨true,false,[(V.bool false),V.nil,(V.bool false),V.nil]⟩,⟨true,false,[(V.bool (decide (o1<0))),(N o1.natAbs),(V.bool (decide (o2<0))),(N o2.natAbs)]⟩]⟩
def fx_ang_0_I (_ _ _:Int)(_ _ _ _ _ _ _ _ _ _:Nat→Int)(x:Nat × Int):Prop:=x.2=(x.1:Int)∧x.1≤8
def fx_ang_0_mu (_ _ _:Int)(_ _ _ _ _ _ _ _ _ _:Nat→Int)(x:Nat × Int):Nat:=8-x.1
def fx_ang_0_ex (sc o1 o2:Int)(ha hb _ _ _ _ _ _ _ _:Nat→Int)(y:Nat):Ex × St:=(.exit 0,⟨mkS 74 [(1,(.val (.int .i64 sc))),(2,(.own 0 0)),(4,(.own 1 0)),(5,(.val (.int .i64 ((sc+8)+16))))],[⟨true,false,[(V.bool (decide ((ha y)<0))),(N ((ha y).natAbs)),(V.bool (decide ((hb y)<0))),(N ((hb y).natAbs))]⟩,⟨true,false,[(V.bool false),V.nil,(V.bool false),V.nil]⟩,⟨true,false,[(V.bool (decide (o1<0))),(N o1.natAbs),(V.bool (decide (o2<0))),(N o2.natAbs)]⟩]⟩)
def fx_ang_0_J (_ _ _:Int)(_ _ _ _ _ _ _ _ _ _:Nat→Int)(y:Nat):Prop:=y=8
abbrev fx_ang_0_N (sc o1 o2:Int)(ha hb ma1 ma2 aa1 aa2 ra1 ra2 da1 da2:Nat→Int):=NX (fx_ang_0_mk sc o1 o2 ha hb ma1 ma2 aa1 aa2 ra1 ra2 da1 da2) (fx_ang_0_I sc o1 o2 ha hb ma1 ma2 aa1 aa2 ra1 ra2 da1 da2) (fx_ang_0_mu sc o1 o2 ha hb ma1 ma2 aa1 aa2 ra1 ra2 da1 da2) (fx_ang_0_ex sc o1 o2 ha hb ma1 ma2 aa1 aa2 ra1 ra2 da1 da2) (fx_ang_0_J sc o1 o2 ha hb ma1 ma2 aa1 aa2 ra1 ra2 da1 da2)
theorem fx_ang_0 (sc o1 o2:Int)(ha hb ma1 ma2 aa1 aa2 ra1 ra2 da1 da2:Nat→Int)(c0:∀ i:Nat,i<8→Impl Tryz.prog Amb 210 [(sV (ha i) (hb i)),(sV (ha i) (hb i)),(.int .i64 ((sc+8)+16))] (sV (ma1 i) (ma2 i)))(c1:∀ i:Nat,i<8→Impl Tryz.prog Amb 165 [(sV o1 o2),(sV (ma1 i) (ma2 i))] (sV (aa1 i) (aa2 i)))(c2:∀ i:Nat,i<8→Impl Tryz.prog Amb 211 [(sV (aa1 i) (aa2 i)),(.int .i64 ((sc+8)+16))] (sV (ra1 i) (ra2 i)))(c3:∀ i:Nat,i<8→Impl Tryz.prog Amb 165 [(sV o1 o2),(sV (ra1 i) (ra2 i))] (sV (da1 i) (da2 i)))(c4:∀ i:Nat,i<8→Impl Tryz.prog Amb 176 [(sV (ha i) (hb i)),(sV (da1 i) (da2 i)),(.int .i64 ((sc+8)+16))] (sV (ha (i+1)) (hb (i+1))))(c5:0≤sc∧sc≤9000)(x0:Nat × Int)(hI:fx_ang_0_I sc o1 o2 ha hb ma1 ma2 aa1 aa2 ra1 ra2 da1 da2 x0):LoopOk Tryz.prog Amb (loopN Tryz.f175 0) (fx_ang_0_mk sc o1 o2 ha hb ma1 ma2 aa1 aa2 ra1 ra2 da1 da2 x0) (fun e st_=>∃ y,fx_ang_0_J sc o1 o2 ha hb ma1 ma2 aa1 aa2 ra1 ra2 da1 da2 y∧fx_ang_0_ex sc o1 o2 ha hb ma1 ma2 aa1 aa2 ra1 ra2 da1 da2 y=(e,st_)) :=
 loop_ob hP hAmb ⟨[1,2,4,5,6,21],3,[]⟩ (fx_ang_0_mk sc o1 o2 ha hb ma1 ma2 aa1 aa2 ra1 ra2 da1 da2) (fx_ang_0_I sc o1 o2 ha hb ma1 ma2 aa1 aa2 ra1 ra2 da1 da2) (fx_ang_0_mu sc o1 o2 ha hb ma1 ma2 aa1 aa2 ra1 ra2 da1 da2) (fx_ang_0_ex sc o1 o2 ha hb ma1 ma2 aa1 aa2 ra1 ra2 da1 da2) (fx_ang_0_J sc o1 o2 ha hb ma1 ma2 aa1 aa2 ra1 ra2 da1 da2) x0 hI (fun (i,ii)=>.lit<|.both (.lits 6<|.call (sV (ma1 i) (ma2 i))<|.lit<|.call (sV (aa1 i) (aa2 i))<|.lit<|.call (sV (ra1 i) (ra2 i))<|.lit<|.call (sV (da1 i) (da2 i))<|.lit<|.call (sV (ha (i+1)) (hb (i+1)))<|.lits 2<|.yes<|.fin2 ⟨[1,2,4,5,6,21],3,[]⟩) (.fin2 ⟨[1,2,4,5],3,[]⟩)) (by
  rintro ⟨i,ii⟩ hI
  have hI:ii=(i:Int)∧i≤8:=hI
  obtain⟨h1,h2⟩:=hI
  exact cast_ob (aI True.intro (aI (fun (h101:(iLt ii 8)=true)=>have _gh101:=iLt_t h101;aI (c0 i oO ) (aI (c1 i oO ) (aI (c2 i oO ) (aI (c3 i oO ) (aI (c4 i oO ) (aI (fits_i64 oO:(fits .i64 (ii+1))=true) (aI tT ((nx_next ((i+1),(ii+1)) (show (ii+1)=((i+1):Int)∧(i+1)≤8 from ⟨by omega,by omega⟩) (show 8-(i+1)<8-i by omega):fx_ang_0_N sc o1 o2 ha hb ma1 ma2 aa1 aa2 ra1 ra2 da1 da2 (i,ii) .normal (fx_ang_0_mk sc o1 o2 ha hb ma1 ma2 aa1 aa2 ra1 ra2 da1 da2 ((i+1),(ii+1)))))))))))) (fun (h102:(iLt ii 8)=false)=>have _gh102:=iLt_f h102;aI tT ((nx_exit 0 ((fx_ang_0_ex sc o1 o2 ha hb ma1 ma2 aa1 aa2 ra1 ra2 da1 da2 i).2) i (show i=8 from show i=8 by omega) rfl:fx_ang_0_N sc o1 o2 ha hb ma1 ma2 aa1 aa2 ra1 ra2 da1 da2 (i,ii) (.exit 0) ((fx_ang_0_ex sc o1 o2 ha hb ma1 ma2 aa1 aa2 ra1 ra2 da1 da2 i).2)))))) (by kernel_rfl))
def fx_ang_1_mk (_:Nat)(sc o1 o2 q1 q2 ga gb:Int)(pp1 pp2 pt1 pt2:Nat→Int)(x:(Nat × Int)⊕(Nat × Int)):St:=Sum.elim (fun (x:Nat × Int)=>⟨mkS 74 [(1,(.val (.int .i64 sc))),(4,(.own 1 0)),(5,(.val (.int .i64 ((sc+8)+16)))),(7,(.own 3 0)),(8,(.own 4 0)),(9,(.own 5 0)),(10,(.val (.int .u32 x.2)))],[⟨true,false,[(V.bool (decide (ga<0))),(N ga.natAbs),(V.bool (decide (gb<0))),(N gb.natAbs)]⟩,⟨true,false,[(V.bool false),V.nil,(V.bool false),V.nil]⟩,⟨true,false,[(V.bool (decide (o1<0))),(N o1.natAbs),(V.bool (decide (o2<0))),(N o2.natAbs)]⟩,⟨true,false,[(V.bool (decide (q1<0))),(N q1.natAbs),(V.bool (decide (q2<0))),(N q2.natAbs)]⟩,⟨true,false,[(V.bool (decide ((sq0 ga pp1 (2*x.1))<0))),(N ((sq0 ga pp1 (2*x.1)).natAbs)),(V.bool (decide ((sq0 gb pp2 (2*x.1))<0))),(N ((sq0 gb pp2 (2*x.1)).natAbs))]⟩,⟨true,false,[(V.bool (decide ((tyA (sq0 ga pt1) (sq0 gb pt2) (2*x.1))<0))),(N ((tyA (sq0 ga pt1) (sq0 gb pt2) (2*x.1)).natAbs)),(V.bool (decide ((tyB (sq0 ga pt1) (sq0 gb pt2) (2*x.1))<0))),(N ((tyB (sq0 ga pt1) (sq0 gb pt2) (2*x.1)).natAbs))]⟩]⟩) (fun (x:Nat × Int)=>⟨mkS 74 [(1,(.val (.int .i64 sc))),(4,(.own 1 0)),(5,(.val (.int .i64 ((sc+8)+16)))),(7,(.own 3 0)),(8,(.own 4 0)),(9,(.own 5 0)),(10,(.val (.int .u32 x.2)))],[⟨true,false,[(V.bool (decide (ga<0))),(N ga.natAbs),(V.bool (decide (gb<0))),(N gb.natAbs)]⟩,⟨true,false,[(V.bool false),V.nil,(V.bool false),V.nil]⟩,⟨true,false,[(V.bool (decide (o1<0))),(N o1.natAbs),(V.bool (decide (o2<0))),(N o2.natAbs)]⟩,⟨true,false,[(V.bool (decide (q1<0))),(N q1.natAbs),(V.bool (decide (q2<0))),(N q2.natAbs)]⟩,⟨true,false,[(V.bool (decide ((sq0 ga pp1 (2*x.1+1))<0))),(N ((sq0 ga pp1 (2*x.1+1)).natAbs)),(V.bool (decide ((sq0 gb pp2 (2*x.1+1))<0))),(N ((sq0 gb pp2 (2*x.1+1)).natAbs))]⟩,⟨true,false,[(V.bool (decide ((tyA (sq0 ga pt1) (sq0 gb pt2) (2*x.1+1))<0))),(N ((tyA (sq0 ga pt1) (sq0 gb pt2) (2*x.1+1)).natAbs)),(V.bool (decide ((tyB (sq0 ga pt1) (sq0 gb pt2) (2*x.1+1))<0))),(N ((tyB (sq0 ga pt1) (sq0 gb pt2) (2*x.1+1)).natAbs))]⟩]⟩) x
def fx_ang_1_I (nn:Nat)(_ _ _ _ _ _ _:Int)(_ _ _ _:Nat→Int)(x:(Nat × Int)⊕(Nat × Int)):Prop:=Sum.elim (fun (x:Nat × Int)=>2*x.1≤nn∧x.2=4*(x.1:Int)+3) (fun (x:Nat × Int)=>2*x.1+1≤nn∧x.2=4*(x.1:Int)+5) x
def fx_ang_1_mu (nn:Nat)(_ _ _ _ _ _ _:Int)(_ _ _ _:Nat→Int)(x:(Nat × Int)⊕(Nat × Int)):Nat:=Sum.elim (fun (x:Nat × Int)=>nn-2*x.1) (fun (x:Nat × Int)=>nn-(2*x.1+1)) x
def fx_ang_1_ex (_:Nat)(sc o1 o2 q1 q2 ga gb:Int)(pp1 pp2 pt1 pt2:Nat→Int)(y:Nat):Ex × St:=(.exit 2,⟨mkS 74 [(1,(.val (.int .i64 sc))),(4,(.own 1 0)),(5,(.val (.int .i64 ((sc+8)+16)))),(8,(.own 4 0)),(9,(.own 5 0))],[⟨true,false,[(V.bool (decide (ga<0))),(N ga.natAbs),(V.bool (decide (gb<0))),(N gb.natAbs)]⟩,⟨true,false,[(V.bool false),V.nil,(V.bool false),V.nil]⟩,⟨true,false,[(V.bool (decide (o1<0))),(N o1.natAbs),(V.bool (decide (o2<0))),(N o2.natAbs)]⟩,⟨true,false,[(V.bool (decide (q1<0))),(N q1.natAbs),(V.bool (decide (q2<0))),(N q2.natAbs)]⟩,⟨true,false,[(V.bool (decide ((sq0 ga pp1 y)<0))),(N ((sq0 ga pp1 y).natAbs)),(V.bool (decide ((sq0 gb pp2 y)<0))),(N ((sq0 gb pp2 y).natAbs))]⟩,⟨true,false,[(V.bool (decide ((tyA (sq0 ga pt1) (sq0 gb pt2) y)<0))),(N ((tyA (sq0 ga pt1) (sq0 gb pt2) y).natAbs)),(V.bool (decide ((tyB (sq0 ga pt1) (sq0 gb pt2) y)<0))),(N ((tyB (sq0 ga pt1) (sq0 gb pt2) y).natAbs))]⟩]⟩)
def fx_ang_1_J (nn:Nat)(_ _ _ _ _ _ _:Int)(_ _ _ _:Nat→Int)(y:Nat):Prop:=y=nn
abbrev fx_ang_1_N (nn:Nat)(sc o1 o2 q1 q2 ga gb:Int)(pp1 pp2 pt1 pt2:Nat→Int):=NX (fx_ang_1_mk nn sc o1 o2 q1 q2 ga gb pp1 pp2 pt1 pt2) (fx_ang_1_I nn sc o1 o2 q1 q2 ga gb pp1 pp2 pt1 pt2) (fx_ang_1_mu nn sc o1 o2 q1 q2 ga gb pp1 pp2 pt1 pt2) (fx_ang_1_ex nn sc o1 o2 q1 q2 ga gb pp1 pp2 pt1 pt2) (fx_ang_1_J nn sc o1 o2 q1 q2 ga gb pp1 pp2 pt1 pt2)
theorem fx_ang_1 (nn:Nat)(sc o1 o2 q1 q2 ga gb:Int)(pp1 pp2 pt1 pt2:Nat→Int)(c0:∀ j,j≤nn→Impl Tryz.prog Amb 212 [(sV (sq0 ga pp1 j) (sq0 gb pp2 j))] (.bool (decide (nn≤j))))(c1:∀ j,j<nn→Impl Tryz.prog Amb 210 [(sV (sq0 ga pp1 j) (sq0 gb pp2 j)),(sV q1 q2),(.int .i64 ((sc+8)+16))] (sV (sq0 ga pp1 (j+1)) (sq0 gb pp2 (j+1))))(c2:∀ (j:Nat) (k:Int),j<nn→k=odn (j+1)→Impl Tryz.prog Amb 213 [(sV (sq0 ga pp1 (j+1)) (sq0 gb pp2 (j+1))),(.int .u32 k)] (sV (sq0 ga pt1 (j+1)) (sq0 gb pt2 (j+1))))(c3:∀ j,j<nn→j%2=0→Impl Tryz.prog Amb 164 [(sV (tyA (sq0 ga pt1) (sq0 gb pt2) j) (tyB (sq0 ga pt1) (sq0 gb pt2) j)),(sV (sq0 ga pt1 (j+1)) (sq0 gb pt2 (j+1)))] (sV (tyA (sq0 ga pt1) (sq0 gb pt2) (j+1)) (tyB (sq0 ga pt1) (sq0 gb pt2) (j+1))))(c4:∀ j,j<nn→j%2=1→Impl Tryz.prog Amb 165 [(sV (tyA (sq0 ga pt1) (sq0 gb pt2) j) (tyB (sq0 ga pt1) (sq0 gb pt2) j)),(sV (sq0 ga pt1 (j+1)) (sq0 gb pt2 (j+1)))] (sV (tyA (sq0 ga pt1) (sq0 gb pt2) (j+1)) (tyB (sq0 ga pt1) (sq0 gb pt2) (j+1))))(c5:nn≤10000)(x0:(Nat × Int)⊕(Nat × Int))(hI:fx_ang_1_I nn sc o1 o2 q1 q2 ga gb pp1 pp2 pt1 pt2 x0):LoopOk Tryz.prog Amb (loopN Tryz.f175 1) (fx_ang_1_mk nn sc o1 o2 q1 q2 ga gb pp1 pp2 pt1 pt2 x0) (fun e st_=>∃ y,fx_ang_1_J nn sc o1 o2 q1 q2 ga gb pp1 pp2 pt1 pt2 y∧fx_ang_1_ex nn sc o1 o2 q1 q2 ga gb pp1 pp2 pt1 pt2 y=(e,st_)) :=
 loop_ob hP hAmb ⟨[1,4,5,7,8,9,10],6,[]⟩ (fx_ang_1_mk nn sc o1 o2 q1 q2 ga gb pp1 pp2 pt1 pt2) (fx_ang_1_I nn sc o1 o2 q1 q2 ga gb pp1 pp2 pt1 pt2) (fx_ang_1_mu nn sc o1 o2 q1 q2 ga gb pp1 pp2 pt1 pt2) (fx_ang_1_ex nn sc o1 o2 q1 q2 ga gb pp1 pp2 pt1 pt2) (fx_ang_1_J nn sc o1 o2 q1 q2 ga gb pp1 pp2 pt1 pt2) x0 hI (Sum.elim (fun (h,k)=>.lits 2<|.call (.bool (decide (nn≤(2*h))))<|.lit<|.both (.lits 3<|.call (sV (sq0 ga pp1 ((2*h)+1)) (sq0 gb pp2 ((2*h)+1)))<|.lits 3<|.yes<|.lits 3<|.call (sV (sq0 ga pt1 ((2*h)+1)) (sq0 gb pt2 ((2*h)+1)))<|.lit<|.call (sV (tyA (sq0 ga pt1) (sq0 gb pt2) ((2*h)+1)) (tyB (sq0 ga pt1) (sq0 gb pt2) ((2*h)+1)))<|.lits 2<|.yes<|.fin2 ⟨[1,4,5,7,8,9,10],6,[]⟩) (.fin2 ⟨[1,4,5,8,9],6,[]⟩)) (fun (h,k)=>.lits 2<|.call (.bool (decide (nn≤(2*h+1))))<|.lit<|.both (.lits 3<|.call (sV (sq0 ga pp1 ((2*h+1)+1)) (sq0 gb pp2 ((2*h+1)+1)))<|.lits 3<|.no<|.lits 3<|.call (sV (sq0 ga pt1 ((2*h+1)+1)) (sq0 gb pt2 ((2*h+1)+1)))<|.lit<|.call (sV (tyA (sq0 ga pt1) (sq0 gb pt2) ((2*h+1)+1)) (tyB (sq0 ga pt1) (sq0 gb pt2) ((2*h+1)+1)))<|.lits 2<|.yes<|.fin2 ⟨[1,4,5,7,8,9,10],6,[]⟩) (.fin2 ⟨[1,4,5,8,9],6,[]⟩))) (by
  rintro (⟨h,k⟩ | ⟨h,k⟩) hI
  ·skip
   have hI:2*h≤nn∧k=4*(h:Int)+3:=hI
   obtain⟨h1,h2⟩:=hI
   have hk:k=odn (2*h+1):=by unfold odn;omega
   have hw:wRem k 4=k%4:=Int.tmod_eq_emod_of_nonneg oO
   exact cast_ob (aI True.intro (aI (c0 (2*h) h1 ) (aI (fun (h101:(!(decide (nn≤(2*h))))=true)=>have _gh101:=of_decide_eq_false (notb_t h101);aI (c1 (2*h) oO ) (aI (iEq_mk oO:(iEq (wRem k (4:Int)) 3)=true) (aI (c2 (2*h) _ oO hk ) (aI (c3 (2*h) oO oO ) (aI (fits_u32 oO:(fits .u32 (k+2))=true) (aI tT ((nx_next (Sum.inr (h,(k+2))) (show 2*h+1≤nn∧(k+2)=4*(h:Int)+5 from ⟨by omega,by omega⟩) (show nn-(2*h+1)<nn-2*h by omega):fx_ang_1_N nn sc o1 o2 q1 q2 ga gb pp1 pp2 pt1 pt2 (Sum.inl (h,k)) .normal (fx_ang_1_mk nn sc o1 o2 q1 q2 ga gb pp1 pp2 pt1 pt2 (Sum.inr (h,(k+2)))))))))))) (fun (h102:(!(decide (nn≤(2*h))))=false)=>have _gh102:=of_decide_eq_true (notb_f h102);aI tT ((nx_exit 2 ((fx_ang_1_ex nn sc o1 o2 q1 q2 ga gb pp1 pp2 pt1 pt2 (2*h)).2) (2*h) (show (2*h)=nn from show (2*h)=nn by omega) rfl:fx_ang_1_N nn sc o1 o2 q1 q2 ga gb pp1 pp2 pt1 pt2 (Sum.inl (h,k)) (.exit 2) ((fx_ang_1_ex nn sc o1 o2 q1 q2 ga gb pp1 pp2 pt1 pt2 (2*h)).2))))))) (by kernel_rfl)
  ·skip
   have hI:2*h+1≤nn∧k=4*(h:Int)+5:=hI
   obtain⟨h1,h2⟩:=hI
   have hk:k=odn (2*h+1+1):=by unfold odn;omega
   have hw:wRem k 4=k%4:=Int.tmod_eq_emod_of_nonneg oO
   exact cast_ob (aI True.intro (aI (c0 (2*h+1) h1 ) (aI (fun (h101:(!(decide (nn≤(2*h+1))))=true)=>have _gh101:=of_decide_eq_false (notb_t h101);aI (c1 (2*h+1) oO ) (aI (iEq_mkF oO:(iEq (wRem k (4:Int)) 3)=false) (aI (c2 (2*h+1) _ oO hk ) (aI (c4 (2*h+1) oO oO ) (aI (fits_u32 oO:(fits .u32 (k+2))=true) (aI tT ((nx_next (Sum.inl ((h+1),(k+2))) (show 2*(h+1)≤nn∧(k+2)=4*((h+1):Int)+3 from ⟨by omega,by omega⟩) (show nn-2*(h+1)<nn-(2*h+1) by omega):fx_ang_1_N nn sc o1 o2 q1 q2 ga gb pp1 pp2 pt1 pt2 (Sum.inr (h,k)) .normal (fx_ang_1_mk nn sc o1 o2 q1 q2 ga gb pp1 pp2 pt1 pt2 (Sum.inl ((h+1),(k+2)))))))))))) (fun (h102:(!(decide (nn≤(2*h+1))))=false)=>have _gh102:=of_decide_eq_true (notb_f h102);aI tT ((nx_exit 2 ((fx_ang_1_ex nn sc o1 o2 q1 q2 ga gb pp1 pp2 pt1 pt2 (2*h+1)).2) (2*h+1) (show (2*h+1)=nn from show (2*h+1)=nn by omega) rfl:fx_ang_1_N nn sc o1 o2 q1 q2 ga gb pp1 pp2 pt1 pt2 (Sum.inr (h,k)) (.exit 2) ((fx_ang_1_ex nn sc o1 o2 q1 q2 ga gb pp1 pp2 pt1 pt2 (2*h+1)).2))))))) (by kernel_rfl))
theorem fx_ang0 (x1 x2 sc o1 o2 q1 q2 u1 u2 v1 v2 r1 r2:Int)(nn:Nat)(ha:Nat→Int)(hb:Nat→Int)(ma1:Nat→Int)(ma2:Nat→Int)(aa1:Nat→Int)(aa2:Nat→Int)(ra1:Nat→Int)(ra2:Nat→Int)(da1:Nat→Int)(da2:Nat→Int)(pp1:Nat→Int)(pp2:Nat→Int)(pt1:Nat→Int)(pt2:Nat→Int)(c0:∀ i:Nat,i<8→Impl Tryz.prog Amb 210 [(sV (ha i) (hb i)),(sV (ha i) (hb i)),(.int .i64 ((sc+8)+16))] (sV (ma1 i) (ma2 i)))(c1:∀ i:Nat,i<8→Impl Tryz.prog Amb 165 [(sV o1 o2),(sV (ma1 i) (ma2 i))] (sV (aa1 i) (aa2 i)))(c2:∀ i:Nat,i<8→Impl Tryz.prog Amb 211 [(sV (aa1 i) (aa2 i)),(.int .i64 ((sc+8)+16))] (sV (ra1 i) (ra2 i)))(c3:∀ i:Nat,i<8→Impl Tryz.prog Amb 165 [(sV o1 o2),(sV (ra1 i) (ra2 i))] (sV (da1 i) (da2 i)))(c4:∀ i:Nat,i<8→Impl Tryz.prog Amb 176 [(sV (ha i) (hb i)),(sV (da1 i) (da2 i)),(.int .i64 ((sc+8)+16))] (sV (ha (i+1)) (hb (i+1))))(c5:0≤sc∧sc≤9000)(c6:Impl Tryz.prog Amb 189 [(sV x1 x2),(.int .i64 (((sc+8)+16)-sc))] (sV (ha 0) (hb 0)))(c7:Impl Tryz.prog Amb 174 [(.int .i64 ((sc+8)+16))] (sV o1 o2))(c8:Impl Tryz.prog Amb 210 [(sV (ha 8) (hb 8)),(sV (ha 8) (hb 8)),(.int .i64 ((sc+8)+16))] (sV q1 q2))(c9:∀ j,j≤nn→Impl Tryz.prog Amb 212 [(sV (sq0 (ha 8) pp1 j) (sq0 (hb 8) pp2 j))] (.bool (decide (nn≤j))))(c10:∀ j,j<nn→Impl Tryz.prog Amb 210 [(sV (sq0 (ha 8) pp1 j) (sq0 (hb 8) pp2 j)),(sV q1 q2),(.int .i64 ((sc+8)+16))] (sV (sq0 (ha 8) pp1 (j+1)) (sq0 (hb 8) pp2 (j+1))))(c11:∀ (j:Nat) (k:Int),j<nn→k=odn (j+1)→Impl Tryz.prog Amb 213 [(sV (sq0 (ha 8) pp1 (j+1)) (sq0 (hb 8) pp2 (j+1))),(.int .u32 k)] (sV (sq0 (ha 8) pt1 (j+1)) (sq0 (hb 8) pt2 (j+1))))(c12:∀ j,j<nn→j%2=0→Impl Tryz.prog Amb 164 [(sV (tyA (sq0 (ha 8) pt1) (sq0 (hb 8) pt2) j) (tyB (sq0 (ha 8) pt1) (sq0 (hb 8) pt2) j)),(sV (sq0 (ha 8) pt1 (j+1)) (sq0 (hb 8) pt2 (j+1)))] (sV (tyA (sq0 (ha 8) pt1) (sq0 (hb 8) pt2) (j+1)) (tyB (sq0 (ha 8) pt1) (sq0 (hb 8) pt2) (j+1))))(c13:∀ j,j<nn→j%2=1→Impl Tryz.prog Amb 165 [(sV (tyA (sq0 (ha 8) pt1) (sq0 (hb 8) pt2) j) (tyB (sq0 (ha 8) pt1) (sq0 (hb 8) pt2) j)),(sV (sq0 (ha 8) pt1 (j+1)) (sq0 (hb 8) pt2 (j+1)))] (sV (tyA (sq0 (ha 8) pt1) (sq0 (hb 8) pt2) (j+1)) (tyB (sq0 (ha 8) pt1) (sq0 (hb 8) pt2) (j+1))))(c14:nn≤10000)(c15:Impl Tryz.prog Amb 148 [(sV (tyA (sq0 (ha 8) pt1) (sq0 (hb 8) pt2) nn) (tyB (sq0 (ha 8) pt1) (sq0 (hb 8) pt2) nn)),(zV (sq0 (hb 8) pp2 nn))] (sV u1 u2))(c16:Impl Tryz.prog Amb 189 [(sV u1 u2),(.int .i64 8)] (sV v1 v2))(c17:Impl Tryz.prog Amb 142 [(sV v1 v2),(.int .i64 (((sc+8)+16)-sc))] (sV r1 r2)):Impl Tryz.prog Amb 175 [(sV x1 x2),(.int .i64 sc)] (sV r1 r2):=by
 exact impl_ob hP hAmb Tryz.func175 (by kernel_rfl) (.lit<|.yes<|.lit<|.yes<|.lits 2<|.yes<|.lit<|.call (sV (ha 0) (hb 0))<|.lits 2<|.call (sV o1 o2)<|.lit<|.loop ⟨[1,2,4,5,6,21],3,[]⟩ ((fx_ang_0_mk sc o1 o2 ha hb ma1 ma2 aa1 aa2 ra1 ra2 da1 da2 (0,0))) (Nat) (fx_ang_0_ex sc o1 o2 ha hb ma1 ma2 aa1 aa2 ra1 ra2 da1 da2) (fx_ang_0_J sc o1 o2 ha hb ma1 ma2 aa1 aa2 ra1 ra2 da1 da2) (fun y=>.lits 3<|.call (sV q1 q2)<|.lits 3<|.loop ⟨[1,4,5,7,8,9,10],6,[]⟩ ((fx_ang_1_mk nn sc o1 o2 q1 q2 (ha y) (hb y) pp1 pp2 pt1 pt2 (Sum.inl (0,3)))) (Nat) (fx_ang_1_ex nn sc o1 o2 q1 q2 (ha y) (hb y) pp1 pp2 pt1 pt2) (fx_ang_1_J nn sc o1 o2 q1 q2 (ha y) (hb y) pp1 pp2 pt1 pt2) (fun z=>.lits 3<|.call (sV u1 u2)<|.lit<|.call (sV v1 v2)<|.lit<|.yes<|.lit<|.call (sV r1 r2)<|.lits 2<|.ret)))
  (cast_ob (aI True.intro (aI (fits_i64 oS:(fits .i64 (sc+8))=true) (aI (fits_i64 oS:(fits .i64 ((sc+8)+16))=true) (aI (fits_i64 oS:(fits .i64 (((sc+8)+16)-sc))=true) (aI (c6 ) (aI (c7 ) (aI tT (aI (rfl:(fx_ang_0_mk sc o1 o2 ha hb ma1 ma2 aa1 aa2 ra1 ra2 da1 da2 (0,0))=(fx_ang_0_mk sc o1 o2 ha hb ma1 ma2 aa1 aa2 ra1 ra2 da1 da2 (0,0))) (aI (fx_ang_0 sc o1 o2 ha hb ma1 ma2 aa1 aa2 ra1 ra2 da1 da2 c0 c1 c2 c3 c4 c5 (0,0) (show 0=(0:Int)∧0≤8 from ⟨by omega,by omega⟩)) (fun y (hJ:fx_ang_0_J sc o1 o2 ha hb ma1 ma2 aa1 aa2 ra1 ra2 da1 da2 y)=>have hJ:y=8:=hJ;have hY:=hJ;aI ((hY ▸ c8) ) (aI tT (aI (rfl:(fx_ang_1_mk nn sc o1 o2 q1 q2 (ha y) (hb y) pp1 pp2 pt1 pt2 (Sum.inl (0,3)))=(fx_ang_1_mk nn sc o1 o2 q1 q2 (ha y) (hb y) pp1 pp2 pt1 pt2 (Sum.inl (0,3)))) (aI (fx_ang_1 nn sc o1 o2 q1 q2 (ha y) (hb y) pp1 pp2 pt1 pt2 (hY ▸ c9) (hY ▸ c10) (hY ▸ c11) (hY ▸ c12) (hY ▸ c13) c14 (Sum.inl (0,3)) (show 2*0≤nn∧3=4*(0:Int)+3 from ⟨by omega,by omega⟩)) (fun z (hJ:fx_ang_1_J nn sc o1 o2 q1 q2 (ha y) (hb y) pp1 pp2 pt1 pt2 z)=>have hJ:z=nn:=hJ;have hZ:=hJ;aI ((hZ ▸ hY ▸ c15) ) (aI (c16 ) (aI (fits_i64 oS:(fits .i64 (((sc+8)+16)-sc))=true) (aI (c17 ) ((vsub_refl (sV r1 r2)))))))))))))))))))) (by kernel_rfl))
theorem fx_AtanAP (m ee sc a x1 x2 o1 o2 p1 p2 h1_ h2_ z1 z2 a1 a2 y1 y2:Int)(c0:(0:Int)≤sc∧sc≤5000)(c1:0≤m)(c2:x1≤o2)(c3:x2≤o2)(c4:L (x1).natAbs≤1000)(c5:L (x2).natAbs≤1000)(c6:L (o1).natAbs≤1000)(c7:L (o2).natAbs≤1000)(c8:L (y1).natAbs≤1000)(c9:L (y2).natAbs≤1000)(c10:Impl Tryz.prog Amb 129 [(.bool false),(N m.natAbs)] (zV a))(c11:Impl Tryz.prog Amb 173 [(yV a ee),(.int .i64 (sc+24))] (sV x1 x2))(c12:Impl Tryz.prog Amb 174 [(.int .i64 (sc+24))] (sV o1 o2))(c13:Impl Tryz.prog Amb 175 [(sV x1 x2),(.int .i64 (sc+24))] (sV y1 y2)):Impl Tryz.prog Amb 111 [(yV m ee),(.int .i64 sc)] (sV (y1 / 2^24) (-(-y2 / 2^24))):=by
 have k1:=cmpI_le x1 o2
 have k2:=cmpI_le x2 o2
 have lo1:=L_lit 1 (by decide)
 have lo2:=L_abs_add o2 1
 exact impl_ob hP hAmb Tryz.func111 (by kernel_rfl) (.lit<|.yes<|.lits 2<|.call (zV a)<|.lits 3<|.call (sV x1 x2)<|.lit<|.call (sV o1 o2)<|.lits 4<|.call (.int .i64 (cmpI x1 o2))<|.lit<|.yes<|.lits 3<|.call (.int .i64 (cmpI x2 o2))<|.lit<|.no<|.lits 2<|.call (sV y1 y2)<|.lits 2<|.no<|.lits 2<|.yes<|.lit<|.call (sV (y1 / 2^(((sc+24)-sc)).toNat) (-(-y2 / 2^(((sc+24)-sc)).toNat)))<|.lits 2<|.ret)
  (cast_ob (aI True.intro (aI (fits_i64 oS:(fits .i64 (sc+24))=true) (aI (c10 ) (aI (c11 ) (aI (c12 ) (aI (int_Cmp x1 o2 oS oS) (have f6:=cmpI_range x1 o2;aI (iLe_mk oO:(iLe (cmpI x1 o2) 0)=true) (aI (int_Cmp x2 o2 oS oS) (have f5:=cmpI_range x2 o2;aI (iGt_mkF oO:(iGt (cmpI x2 o2) 0)=false) (aI (c13 ) (aI (decide_eq_false oO:(decide (m<0))=false) (aI (fits_i64 oS:(fits .i64 ((sc+24)-sc))=true) (aI (fx_Half y1 y2 ((sc+24)-sc) oS oS oS) (have f4:=L_abs_neg (-y2 / 2^(((sc+24)-sc)).toNat);have f3:=L_abs_shr (-y2) (((sc+24)-sc)).toNat;have f2:=L_abs_neg y2;have f1:=L_abs_shr y1 (((sc+24)-sc)).toNat;(by rw[show ((sc+24)-sc).toNat=24 by omega];exact vsub_refl _:vsub (sV (y1 / 2^(((sc+24)-sc)).toNat) (-(-y2 / 2^(((sc+24)-sc)).toNat))) (sV (y1 / 2^24) (-(-y2 / 2^24)))))))))))))))))) (by kernel_rfl))
theorem fx_AtanAN (m ee sc a x1 x2 o1 o2 p1 p2 h1_ h2_ z1 z2 a1 a2 y1 y2:Int)(c0:(0:Int)≤sc∧sc≤5000)(c1:m<0)(c2:x1≤o2)(c3:x2≤o2)(c4:L (x1).natAbs≤1000)(c5:L (x2).natAbs≤1000)(c6:L (o1).natAbs≤1000)(c7:L (o2).natAbs≤1000)(c8:L (y1).natAbs≤1000)(c9:L (y2).natAbs≤1000)(c10:Impl Tryz.prog Amb 129 [(.bool false),(N m.natAbs)] (zV a))(c11:Impl Tryz.prog Amb 173 [(yV a ee),(.int .i64 (sc+24))] (sV x1 x2))(c12:Impl Tryz.prog Amb 174 [(.int .i64 (sc+24))] (sV o1 o2))(c13:Impl Tryz.prog Amb 175 [(sV x1 x2),(.int .i64 (sc+24))] (sV y1 y2)):Impl Tryz.prog Amb 111 [(yV m ee),(.int .i64 sc)] (sV ((-y2) / 2^24) (-(-(-y1) / 2^24))):=by
 have k1:=cmpI_le x1 o2
 have k2:=cmpI_le x2 o2
 have lo1:=L_lit 1 (by decide)
 have lo2:=L_abs_add o2 1
 exact impl_ob hP hAmb Tryz.func111 (by kernel_rfl) (.lit<|.yes<|.lits 2<|.call (zV a)<|.lits 3<|.call (sV x1 x2)<|.lit<|.call (sV o1 o2)<|.lits 4<|.call (.int .i64 (cmpI x1 o2))<|.lit<|.yes<|.lits 3<|.call (.int .i64 (cmpI x2 o2))<|.lit<|.no<|.lits 2<|.call (sV y1 y2)<|.lits 2<|.yes<|.lits 2<|.call (sV (-y2) (-y1))<|.lits 3<|.yes<|.lit<|.call (sV ((-y2) / 2^(((sc+24)-sc)).toNat) (-(-(-y1) / 2^(((sc+24)-sc)).toNat)))<|.lits 2<|.ret)
  (cast_ob (aI True.intro (aI (fits_i64 oS:(fits .i64 (sc+24))=true) (aI (c10 ) (aI (c11 ) (aI (c12 ) (aI (int_Cmp x1 o2 oS oS) (have f8:=cmpI_range x1 o2;aI (iLe_mk oO:(iLe (cmpI x1 o2) 0)=true) (aI (int_Cmp x2 o2 oS oS) (have f7:=cmpI_range x2 o2;aI (iGt_mkF oO:(iGt (cmpI x2 o2) 0)=false) (aI (c13 ) (aI (decide_eq_true oO:(decide (m<0))=true) (aI (fx_Neg y1 y2 oS oS) (have f6:=L_abs_neg y2;have f5:=L_abs_neg y1;aI (fits_i64 oS:(fits .i64 ((sc+24)-sc))=true) (aI (fx_Half (-y2) (-y1) ((sc+24)-sc) oS oS oS) (have f4:=L_abs_neg (-(-y1) / 2^(((sc+24)-sc)).toNat);have f3:=L_abs_shr (-(-y1)) (((sc+24)-sc)).toNat;have f2:=L_abs_neg (-y1);have f1:=L_abs_shr (-y2) (((sc+24)-sc)).toNat;(by rw[show ((sc+24)-sc).toNat=24 by omega];exact vsub_refl _:vsub (sV ((-y2) / 2^(((sc+24)-sc)).toNat) (-(-(-y1) / 2^(((sc+24)-sc)).toNat))) (sV ((-y2) / 2^24) (-(-(-y1) / 2^24))))))))))))))))))) (by kernel_rfl))
theorem fx_AtanCP (m ee sc a x1 x2 o1 o2 p1 p2 h1_ h2_ z1 z2 a1 a2 y1 y2:Int)(c0:(0:Int)≤sc∧sc≤5000)(c1:0≤m)(c2:x1≤o2)(c3:o2<x2)(c4:L (x1).natAbs≤1000)(c5:L (x2).natAbs≤1000)(c6:L (o1).natAbs≤1000)(c7:L (o2).natAbs≤1000)(c8:L (y1).natAbs≤1000)(c9:L (y2).natAbs≤1000)(c10:Impl Tryz.prog Amb 129 [(.bool false),(N m.natAbs)] (zV a))(c11:Impl Tryz.prog Amb 173 [(yV a ee),(.int .i64 (sc+24))] (sV x1 x2))(c12:Impl Tryz.prog Amb 174 [(.int .i64 (sc+24))] (sV o1 o2))(c13:Impl Tryz.prog Amb 175 [(sV x1 (o2+(1:Int))),(.int .i64 (sc+24))] (sV y1 y2)):Impl Tryz.prog Amb 111 [(yV m ee),(.int .i64 sc)] (sV (y1 / 2^24) (-(-y2 / 2^24))):=by
 have k1:=cmpI_le x1 o2
 have k2:=cmpI_le x2 o2
 have lo1:=L_lit 1 (by decide)
 have lo2:=L_abs_add o2 1
 exact impl_ob hP hAmb Tryz.func111 (by kernel_rfl) (.lit<|.yes<|.lits 2<|.call (zV a)<|.lits 3<|.call (sV x1 x2)<|.lit<|.call (sV o1 o2)<|.lits 4<|.call (.int .i64 (cmpI x1 o2))<|.lit<|.yes<|.lits 3<|.call (.int .i64 (cmpI x2 o2))<|.lit<|.yes<|.lits 2<|.call (zV (1:Int))<|.lit<|.call (zV (o2+(1:Int)))<|.lits 3<|.call (sV y1 y2)<|.lits 2<|.no<|.lits 2<|.yes<|.lit<|.call (sV (y1 / 2^(((sc+24)-sc)).toNat) (-(-y2 / 2^(((sc+24)-sc)).toNat)))<|.lits 2<|.ret)
  (cast_ob (aI True.intro (aI (fits_i64 oS:(fits .i64 (sc+24))=true) (aI (c10 ) (aI (c11 ) (aI (c12 ) (aI (int_Cmp x1 o2 oS oS) (have f8:=cmpI_range x1 o2;aI (iLe_mk oO:(iLe (cmpI x1 o2) 0)=true) (aI (int_Cmp x2 o2 oS oS) (have f7:=cmpI_range x2 o2;aI (iGt_mk oO:(iGt (cmpI x2 o2) 0)=true) (aI (int_Of 1 oS) (have f6:=(L_i64 oS:L (1:Int).natAbs≤2);aI (int_Add o2 (1:Int) oS oS) (have f5:=L_abs_add o2 (1:Int);aI (c13 ) (aI (decide_eq_false oO:(decide (m<0))=false) (aI (fits_i64 oS:(fits .i64 ((sc+24)-sc))=true) (aI (fx_Half y1 y2 ((sc+24)-sc) oS oS oS) (have f4:=L_abs_neg (-y2 / 2^(((sc+24)-sc)).toNat);have f3:=L_abs_shr (-y2) (((sc+24)-sc)).toNat;have f2:=L_abs_neg y2;have f1:=L_abs_shr y1 (((sc+24)-sc)).toNat;(by rw[show ((sc+24)-sc).toNat=24 by omega];exact vsub_refl _:vsub (sV (y1 / 2^(((sc+24)-sc)).toNat) (-(-y2 / 2^(((sc+24)-sc)).toNat))) (sV (y1 / 2^24) (-(-y2 / 2^24)))))))))))))))))))) (by kernel_rfl))
theorem fx_AtanCN (m ee sc a x1 x2 o1 o2 p1 p2 h1_ h2_ z1 z2 a1 a2 y1 y2:Int)(c0:(0:Int)≤sc∧sc≤5000)(c1:m<0)(c2:x1≤o2)(c3:o2<x2)(c4:L (x1).natAbs≤1000)(c5:L (x2).natAbs≤1000)(c6:L (o1).natAbs≤1000)(c7:L (o2).natAbs≤1000)(c8:L (y1).natAbs≤1000)(c9:L (y2).natAbs≤1000)(c10:Impl Tryz.prog Amb 129 [(.bool false),(N m.natAbs)] (zV a))(c11:Impl Tryz.prog Amb 173 [(yV a ee),(.int .i64 (sc+24))] (sV x1 x2))(c12:Impl Tryz.prog Amb 174 [(.int .i64 (sc+24))] (sV o1 o2))(c13:Impl Tryz.prog Amb 175 [(sV x1 (o2+(1:Int))),(.int .i64 (sc+24))] (sV y1 y2)):Impl Tryz.prog Amb 111 [(yV m ee),(.int .i64 sc)] (sV ((-y2) / 2^24) (-(-(-y1) / 2^24))):=by
 have k1:=cmpI_le x1 o2
 have k2:=cmpI_le x2 o2
 have lo1:=L_lit 1 (by decide)
 have lo2:=L_abs_add o2 1
 exact impl_ob hP hAmb Tryz.func111 (by kernel_rfl) (.lit<|.yes<|.lits 2<|.call (zV a)<|.lits 3<|.call (sV x1 x2)<|.lit<|.call (sV o1 o2)<|.lits 4<|.call (.int .i64 (cmpI x1 o2))<|.lit<|.yes<|.lits 3<|.call (.int .i64 (cmpI x2 o2))<|.lit<|.yes<|.lits 2<|.call (zV (1:Int))<|.lit<|.call (zV (o2+(1:Int)))<|.lits 3<|.call (sV y1 y2)<|.lits 2<|.yes<|.lits 2<|.call (sV (-y2) (-y1))<|.lits 3<|.yes<|.lit<|.call (sV ((-y2) / 2^(((sc+24)-sc)).toNat) (-(-(-y1) / 2^(((sc+24)-sc)).toNat)))<|.lits 2<|.ret)
  (cast_ob (aI True.intro (aI (fits_i64 oS:(fits .i64 (sc+24))=true) (aI (c10 ) (aI (c11 ) (aI (c12 ) (aI (int_Cmp x1 o2 oS oS) (have f10:=cmpI_range x1 o2;aI (iLe_mk oO:(iLe (cmpI x1 o2) 0)=true) (aI (int_Cmp x2 o2 oS oS) (have f9:=cmpI_range x2 o2;aI (iGt_mk oO:(iGt (cmpI x2 o2) 0)=true) (aI (int_Of 1 oS) (have f8:=(L_i64 oS:L (1:Int).natAbs≤2);aI (int_Add o2 (1:Int) oS oS) (have f7:=L_abs_add o2 (1:Int);aI (c13 ) (aI (decide_eq_true oO:(decide (m<0))=true) (aI (fx_Neg y1 y2 oS oS) (have f6:=L_abs_neg y2;have f5:=L_abs_neg y1;aI (fits_i64 oS:(fits .i64 ((sc+24)-sc))=true) (aI (fx_Half (-y2) (-y1) ((sc+24)-sc) oS oS oS) (have f4:=L_abs_neg (-(-y1) / 2^(((sc+24)-sc)).toNat);have f3:=L_abs_shr (-(-y1)) (((sc+24)-sc)).toNat;have f2:=L_abs_neg (-y1);have f1:=L_abs_shr (-y2) (((sc+24)-sc)).toNat;(by rw[show ((sc+24)-sc).toNat=24 by omega];exact vsub_refl _:vsub (sV ((-y2) / 2^(((sc+24)-sc)).toNat) (-(-(-y1) / 2^(((sc+24)-sc)).toNat))) (sV ((-y2) / 2^24) (-(-(-y1) / 2^24))))))))))))))))))))) (by kernel_rfl))
theorem fx_AtanBP (m ee sc a x1 x2 o1 o2 p1 p2 h1_ h2_ z1 z2 a1 a2 y1 y2:Int)(c0:(0:Int)≤sc∧sc≤5000)(c1:0≤m)(c2:o2<x1)(c3:o2<x2)(c4:L (x1).natAbs≤1000)(c5:L (x2).natAbs≤1000)(c6:L (o1).natAbs≤1000)(c7:L (o2).natAbs≤1000)(c8:L (y1).natAbs≤1000)(c9:L (y2).natAbs≤1000)(c10:Impl Tryz.prog Amb 129 [(.bool false),(N m.natAbs)] (zV a))(c11:Impl Tryz.prog Amb 173 [(yV a ee),(.int .i64 (sc+24))] (sV x1 x2))(c12:Impl Tryz.prog Amb 174 [(.int .i64 (sc+24))] (sV o1 o2))(c13:Impl Tryz.prog Amb 104 [(.int .i64 ((sc+24)+2))] (sV p1 p2))(c14:Impl Tryz.prog Amb 142 [(sV p1 p2),(.int .i64 3)] (sV h1_ h2_))(c15:Impl Tryz.prog Amb 176 [(sV o1 o2),(sV x1 x2),(.int .i64 (sc+24))] (sV z1 z2))(c16:Impl Tryz.prog Amb 175 [(sV z1 z2),(.int .i64 (sc+24))] (sV a1 a2))(c17:Impl Tryz.prog Amb 164 [(sV h1_ h2_),(sV a1 a2)] (sV y1 y2)):Impl Tryz.prog Amb 111 [(yV m ee),(.int .i64 sc)] (sV (y1 / 2^24) (-(-y2 / 2^24))):=by
 have k1:=cmpI_le x1 o2
 have k2:=cmpI_le x2 o2
 have lo1:=L_lit 1 (by decide)
 have lo2:=L_abs_add o2 1
 exact impl_ob hP hAmb Tryz.func111 (by kernel_rfl) (.lit<|.yes<|.lits 2<|.call (zV a)<|.lits 3<|.call (sV x1 x2)<|.lit<|.call (sV o1 o2)<|.lits 4<|.call (.int .i64 (cmpI x1 o2))<|.lit<|.no<|.lit<|.yes<|.lit<|.call (sV p1 p2)<|.lit<|.call (sV h1_ h2_)<|.lits 3<|.call (sV z1 z2)<|.lit<|.call (sV a1 a2)<|.lit<|.call (sV y1 y2)<|.lits 2<|.no<|.lits 2<|.yes<|.lit<|.call (sV (y1 / 2^(((sc+24)-sc)).toNat) (-(-y2 / 2^(((sc+24)-sc)).toNat)))<|.lits 2<|.ret)
  (cast_ob (aI True.intro (aI (fits_i64 oS:(fits .i64 (sc+24))=true) (aI (c10 ) (aI (c11 ) (aI (c12 ) (aI (int_Cmp x1 o2 oS oS) (have f5:=cmpI_range x1 o2;aI (iLe_mkF oO:(iLe (cmpI x1 o2) 0)=false) (aI (fits_i64 oS:(fits .i64 ((sc+24)+2))=true) (aI (c13 ) (aI (c14 ) (aI (c15 ) (aI (c16 ) (aI (c17 ) (aI (decide_eq_false oO:(decide (m<0))=false) (aI (fits_i64 oS:(fits .i64 ((sc+24)-sc))=true) (aI (fx_Half y1 y2 ((sc+24)-sc) oS oS oS) (have f4:=L_abs_neg (-y2 / 2^(((sc+24)-sc)).toNat);have f3:=L_abs_shr (-y2) (((sc+24)-sc)).toNat;have f2:=L_abs_neg y2;have f1:=L_abs_shr y1 (((sc+24)-sc)).toNat;(by rw[show ((sc+24)-sc).toNat=24 by omega];exact vsub_refl _:vsub (sV (y1 / 2^(((sc+24)-sc)).toNat) (-(-y2 / 2^(((sc+24)-sc)).toNat))) (sV (y1 / 2^24) (-(-y2 / 2^24))))))))))))))))))))) (by kernel_rfl))
theorem fx_AtanBN (m ee sc a x1 x2 o1 o2 p1 p2 h1_ h2_ z1 z2 a1 a2 y1 y2:Int)(c0:(0:Int)≤sc∧sc≤5000)(c1:m<0)(c2:o2<x1)(c3:o2<x2)(c4:L (x1).natAbs≤1000)(c5:L (x2).natAbs≤1000)(c6:L (o1).natAbs≤1000)(c7:L (o2).natAbs≤1000)(c8:L (y1).natAbs≤1000)(c9:L (y2).natAbs≤1000)(c10:Impl Tryz.prog Amb 129 [(.bool false),(N m.natAbs)] (zV a))(c11:Impl Tryz.prog Amb 173 [(yV a ee),(.int .i64 (sc+24))] (sV x1 x2))(c12:Impl Tryz.prog Amb 174 [(.int .i64 (sc+24))] (sV o1 o2))(c13:Impl Tryz.prog Amb 104 [(.int .i64 ((sc+24)+2))] (sV p1 p2))(c14:Impl Tryz.prog Amb 142 [(sV p1 p2),(.int .i64 3)] (sV h1_ h2_))(c15:Impl Tryz.prog Amb 176 [(sV o1 o2),(sV x1 x2),(.int .i64 (sc+24))] (sV z1 z2))(c16:Impl Tryz.prog Amb 175 [(sV z1 z2),(.int .i64 (sc+24))] (sV a1 a2))(c17:Impl Tryz.prog Amb 164 [(sV h1_ h2_),(sV a1 a2)] (sV y1 y2)):Impl Tryz.prog Amb 111 [(yV m ee),(.int .i64 sc)] (sV ((-y2) / 2^24) (-(-(-y1) / 2^24))):=by
 have k1:=cmpI_le x1 o2
 have k2:=cmpI_le x2 o2
 have lo1:=L_lit 1 (by decide)
 have lo2:=L_abs_add o2 1
 exact impl_ob hP hAmb Tryz.func111 (by kernel_rfl) (.lit<|.yes<|.lits 2<|.call (zV a)<|.lits 3<|.call (sV x1 x2)<|.lit<|.call (sV o1 o2)<|.lits 4<|.call (.int .i64 (cmpI x1 o2))<|.lit<|.no<|.lit<|.yes<|.lit<|.call (sV p1 p2)<|.lit<|.call (sV h1_ h2_)<|.lits 3<|.call (sV z1 z2)<|.lit<|.call (sV a1 a2)<|.lit<|.call (sV y1 y2)<|.lits 2<|.yes<|.lits 2<|.call (sV (-y2) (-y1))<|.lits 3<|.yes<|.lit<|.call (sV ((-y2) / 2^(((sc+24)-sc)).toNat) (-(-(-y1) / 2^(((sc+24)-sc)).toNat)))<|.lits 2<|.ret)
  (cast_ob (aI True.intro (aI (fits_i64 oS:(fits .i64 (sc+24))=true) (aI (c10 ) (aI (c11 ) (aI (c12 ) (aI (int_Cmp x1 o2 oS oS) (have f7:=cmpI_range x1 o2;aI (iLe_mkF oO:(iLe (cmpI x1 o2) 0)=false) (aI (fits_i64 oS:(fits .i64 ((sc+24)+2))=true) (aI (c13 ) (aI (c14 ) (aI (c15 ) (aI (c16 ) (aI (c17 ) (aI (decide_eq_true oO:(decide (m<0))=true) (aI (fx_Neg y1 y2 oS oS) (have f6:=L_abs_neg y2;have f5:=L_abs_neg y1;aI (fits_i64 oS:(fits .i64 ((sc+24)-sc))=true) (aI (fx_Half (-y2) (-y1) ((sc+24)-sc) oS oS oS) (have f4:=L_abs_neg (-(-y1) / 2^(((sc+24)-sc)).toNat);have f3:=L_abs_shr (-(-y1)) (((sc+24)-sc)).toNat;have f2:=L_abs_neg (-y1);have f1:=L_abs_shr (-y2) (((sc+24)-sc)).toNat;(by rw[show ((sc+24)-sc).toNat=24 by omega];exact vsub_refl _:vsub (sV ((-y2) / 2^(((sc+24)-sc)).toNat) (-(-(-y1) / 2^(((sc+24)-sc)).toNat))) (sV ((-y2) / 2^24) (-(-(-y1) / 2^24)))))))))))))))))))))) (by kernel_rfl))
end Go.Proofs.YtkkbddkpggjgpaaGreatDoor

namespace Go.Proofs.YtkkbddkpggjgpaaGreatDoor
open Go.RowKit
set_option maxRecDepth 100000
set_option maxHeartbeats 4000000
theorem sp_eqA {a b c d:Int}(h1:a=c)(h2:b=d):(V.agg [.bool (decide (a<0)),N a.natAbs,.bool (decide (b<0)),N b.natAbs])=.agg [.bool (decide (c<0)),N c.natAbs,.bool (decide (d<0)),N d.natAbs]:=by subst h1;subst h2;rfl
theorem ang_w {s1 s2 p N D:Int}(h:s2-s1≤N*(D+8))(hN:0≤N∧N≤8000)(hD:0≤D∧D+3≤65536*67108867)(hp:0≤p∧p<8):-(-((s2+p)*2^8) / 2^24)-(s1-p)*2^8 / 2^24≤1099511627776:=by
 have m:=Int.mul_le_mul (hN.2) (show D+8≤4398046900000 by omega) oO oO
 have w:=half_w (a:=(s1-p)*2^8) (b:=(s2+p)*2^8) (W:=549755813888) (n:=24) oO
 omega
theorem sc_inv {x:Int}{S n:Nat}:(x:Rat)*(((2^S:Int):Rat))⁻¹=((x*2^n:Int):Rat)*(((2^(S+n):Int):Rat))⁻¹:=by
 have P0:(0:Rat)<((2^S:Int):Rat):=Rat.intCast_pos.2 (two_pos S)
 have Q0:(0:Rat)<((2^(S+n):Int):Rat):=Rat.intCast_pos.2 (two_pos _)
 have ie:=inv_one P0
 have je:=inv_one Q0
 refine Rat.le_antisymm ?_ ?_
 all_goals
  refine Rat.le_of_mul_le_mul_right (c:=((2^(S+n):Int):Rat)) ?_ Q0
  have e:((2^(S+n):Int):Rat)=((2^S:Int):Rat)*((2^n:Int):Rat):=by rw[Int.pow_add,Rat.intCast_mul]
  have e1:(x:Rat)*(((2^S:Int):Rat))⁻¹*((2^(S+n):Int):Rat)=(x:Rat)*((2^n:Int):Rat):=by
   rw[e]
   have:(x:Rat)*(((2^S:Int):Rat))⁻¹*(((2^S:Int):Rat)*((2^n:Int):Rat))=(x:Rat)*((2^n:Int):Rat)*((((2^S:Int):Rat))⁻¹*((2^S:Int):Rat)):=by grind
   rw[this,ie,Rat.mul_one]
  have e2:((x*2^n:Int):Rat)*(((2^(S+n):Int):Rat))⁻¹*((2^(S+n):Int):Rat)=(x:Rat)*((2^n:Int):Rat):=by rw[Rat.mul_assoc,je,Rat.mul_one,Rat.intCast_mul]
  rw[e1,e2]
  exact Rat.le_refl
theorem sq0_1 (T a b:Int):∀ j,sq0 a (fun j=>(aP T a b j).1) j=(aP T a b j).1∧sq0 b (fun j=>(aP T a b j).2) j=(aP T a b j).2
 | 0=>⟨rfl,rfl⟩
 | _+1=>⟨rfl,rfl⟩
theorem sqr_L {a s:Int}:L (sqLo a s).natAbs≤L a.natAbs+s.toNat / 32+1∧L (sqHi a s).natAbs≤L a.natAbs+s.toNat / 32+2:=by
 have m1:=L_abs_shl a s.toNat
 rw[abs_shl] at m1
 have r:=rt_L (a.natAbs*2^s.toNat)
 have z1:=L_lit 1 (by decide)
 have ad:=L_add (rt (a.natAbs*2^s.toNat)) 1
 unfold sqLo sqHi
 rw[Int.natAbs_natCast,Int.natAbs_natCast]
 refine⟨by omega,?_⟩
 split
 ·rw[Nat.add_zero];omega
 ·omega
theorem sq_T2 {t:Nat}{a b:Int}(h0:0≤a)(h1:a≤b)(h2:8*b≤9*2^t)(ht:t≤6000):L (a*a / 2^t).natAbs≤200∧L (-(-(b*b) / 2^t)).natAbs≤200:=by
 have P:=two_pos t
 have key:0≤a*a / 2^t∧a*a / 2^t≤8192*2^t∧0≤-(-(b*b) / 2^t)∧-(-(b*b) / 2^t)≤8192*2^t:=by
  generalize (2:Int)^t=T at *
  have aa:=Int.mul_nonneg h0 h0
  have bb:=Int.mul_nonneg (show 0≤b by omega) (show 0≤b by omega)
  have m1:=Int.mul_le_mul (show b≤2*T by omega) (show b≤2*T by omega) (show 0≤b by omega) oO
  have m0:=Int.mul_le_mul h1 h1 h0 (show 0≤b by omega)
  have e:2*T*(2*T)=4*T*T:=by grind
  have g0:a*a / T≤4*T:=Int.ediv_le_of_le_mul P oO
  have g1:-(b*b) / T≤0:=Int.ediv_le_of_le_mul P oO
  have g2:-(4*T)≤-(b*b) / T:=Int.le_ediv_of_mul_le P (by rw[Int.neg_mul];omega)
  have g3:=Int.ediv_nonneg aa (show 0≤T by omega)
  omega
 exact⟨L_T key.1 key.2.1 ht,L_T key.2.2.1 key.2.2.2 ht⟩
theorem fx_angE (x1 x2 sc:Int)(hs:24≤sc∧sc≤4600)(h0:0≤x1)(h1:x1≤x2)(hT:x2≤2^sc.toNat+1)(hw:x2-x1≤4) :
  ∃ r1 r2:Int,Impl Tryz.prog Amb 175 [(sV x1 x2),(.int .i64 sc)] (sV r1 r2)∧LoE (AT0 ((x1:Rat)*(((2^sc.toNat:Int):Rat))⁻¹)) sc.toNat r1∧HiE (AT0 ((x2:Rat)*(((2^sc.toNat:Int):Rat))⁻¹)) sc.toNat r2∧(r2-r1≤1099511627776∧L r1.natAbs≤210∧L r2.natAbs≤210):=by
 obtain⟨S,hS⟩:∃ S:Nat,(S:Int)=sc:=⟨sc.toNat,by omega⟩
 have hSn:sc.toNat=S:=by omega
 have tn:(sc+8+16).toNat=S+24:=by omega
 have PSp:=two_pos S
 have big:(16777216:Int)≤2^S:=by
  have p:=Int.ofNat_le.2 (Nat.pow_le_pow_right (n:=2) oO (show 24≤S by omega))
  rw[← pow_cast,← pow_cast] at p
  exact p
 have eT:(2:Int)^(S+24)=2^S*16777216:=Int.pow_add _ _ _
 have q1:8*(x2*16777216)≤9*2^(S+24):=by rw[hSn] at hT;omega
 have qa:0≤x1*16777216:=by omega
 have qb:x1*16777216≤x2*16777216:=by omega
 -- the halvings
 obtain⟨ha,hb,⟨a0,b0⟩,nx,hf,H8,W8,LIM⟩:=hv_ex (t:=sc+8+16) (S:=S) (n:=8) (c:=16) oO qa qb (by rw[tn];exact q1) (by rw[tn];omega) oO
 have t6:S+24≤6000:=by omega
 rw[show (4:Int)^8=65536 from rfl] at W8
 have h8:=H8.h2
 have lh:∀ i,L (ha i).natAbs≤200∧L (hb i).natAbs≤200:=fun i=>by
  have f:=hf i
  rw[tn] at f
  exact⟨L_T f.1 oO t6,L_T oO oO t6⟩
 have hO:=fx_One (sc+8+16) oO
 have lO:=L_pow1 (sc+8+16).toNat
 have hTw:=fx_Twice x1 x2 ((sc+8+16)-sc) (by
  have:L x1.natAbs≤200:=L_T h0 (by rw[hSn] at hT;omega) (show S≤6000 by omega)
  omega) (by
  have:L x2.natAbs≤200:=L_T oO (by rw[hSn] at hT;omega) (show S≤6000 by omega)
  omega) oO
 rw[show (sc+8+16-sc).toNat=24 by omega,show (2:Int)^24=16777216 from rfl] at hTw
 -- the squares under the roots
 have lm:∀ i,L (ha i*ha i / (2^(sc+8+16).toNat)).natAbs≤200∧L (-(-(hb i*hb i) / (2^(sc+8+16).toNat))).natAbs≤200:=fun i=>sq_T2 (hf i).1 (hf i).2.1 (hf i).2.2 oO
 have P:=two_pos (sc+8+16).toNat
 have nn:∀ i,0≤ha i*ha i / (2^(sc+8+16).toNat):=fun i=>Int.ediv_nonneg (Int.mul_nonneg (hf i).1 (hf i).1) oO
 have nm:∀ i,0≤-(-(hb i*hb i) / (2^(sc+8+16).toNat)):=fun i=>by
  have:=Int.mul_nonneg (show 0≤hb i by have:=hf i;omega) (show 0≤hb i by have:=hf i;omega)
  have:-(hb i*hb i) / (2^(sc+8+16).toNat)≤0:=Int.ediv_le_of_le_mul P oO
  omega
 have lp:∀ i,L (1*(2^(sc+8+16).toNat)+ha i*ha i / (2^(sc+8+16).toNat)).natAbs≤360∧L (1*(2^(sc+8+16).toNat)+-(-(hb i*hb i) / (2^(sc+8+16).toNat))).natAbs≤360:=fun i=>by
  have:=lm i
  have l1:=L_abs_add (1*(2^(sc+8+16).toNat)) (ha i*ha i / (2^(sc+8+16).toNat))
  have l2:=L_abs_add (1*(2^(sc+8+16).toNat)) (-(-(hb i*hb i) / (2^(sc+8+16).toNat)))
  omega
 -- the series
 obtain⟨N,hN,hs8,hl⟩:=aP_small (t:=(sc+8+16).toNat) H8
 have pf:=aP_facts H8
 have pb:=pt_bd H8
 have sb:=tyS_bdW pb
 have z1:=sq0_1 (2^(sc+8+16).toNat) (ha 8) (hb 8)
 have mN:=Int.mul_le_mul_of_nonneg_right (show (N:Int)+1≤8000 by omega) (Int.le_of_lt P)
 have lpp:∀ j,L (aP (2^(sc+8+16).toNat) (ha 8) (hb 8) j).1.natAbs≤200∧L (aP (2^(sc+8+16).toNat) (ha 8) (hb 8) j).2.natAbs≤200:=fun j=>by
  have a:=pf j
  have o:(aP (2^(sc+8+16).toNat) (ha 8) (hb 8) j).1≤(2^(sc+8+16).toNat):=by
   have q:=pt_bd H8 0
   have T0:(0:Rat)<(((2^(sc+8+16).toNat):Int):Rat):=Rat.intCast_pos.2 oO
   have eX:(ha 8:Rat)*((((2^(sc+8+16).toNat):Int):Rat))⁻¹*(((2^(sc+8+16).toNat):Int):Rat)=ha 8:=by rw[Rat.mul_assoc,inv_one T0,Rat.mul_one]
   have pe:=aP_enc (X:=(ha 8:Rat)*((((2^(sc+8+16).toNat):Int):Rat))⁻¹) H8 (by rw[eX];exact Rat.le_refl) (by rw[eX];exact Rat.intCast_le_intCast.2 H8.h2) j
   have:=Rat.intCast_le_intCast.1 (Rat.le_trans pe.1 pe.2)
   omega
  rw[tn] at *
  exact⟨L_T a.1 oO t6,L_T a.2.1 oO t6⟩
 have lpt:∀ j,L (sq0 (ha 8) (pt1 (2^(sc+8+16).toNat) (ha 8) (hb 8)) j).natAbs≤200∧L (sq0 (hb 8) (pt2 (2^(sc+8+16).toNat) (ha 8) (hb 8)) j).natAbs≤200:=fun j=>by
  have a:=pb j
  rw[tn] at *
  exact⟨L_T a.1 oO t6,L_T oO oO t6⟩
 have lts:∀ j,j≤N→L (sA1 (2^(sc+8+16).toNat) (ha 8) (hb 8) j).natAbs≤201∧L (sA2 (2^(sc+8+16).toNat) (ha 8) (hb 8) j).natAbs≤201:=fun j hj=>by
  have a:=(sb j).1
  have m:=Int.mul_le_mul_of_nonneg_right (show (j:Int)+1≤8000 by omega) (Int.le_of_lt P)
  have k:∀ {x:Int},-(((j:Int)+1)*(2^(sc+8+16).toNat))≤x→x≤((j:Int)+1)*(2^(sc+8+16).toNat)→L x.natAbs≤201:=by
   intro x g1 g2
   have:=L_T (x:=(x.natAbs:Int)) (t:=S+24) oO (by rw[tn] at *;omega) t6
   rw[Int.natAbs_natCast] at this
   omega
  unfold sA1 sA2
  exact⟨k a.1.1 a.1.2,k a.2.1 a.2.2⟩
 have lq1:=lm 8
 have lw:=lts N (Nat.le_refl _)
 have lw1:=L_abs_sub (sA1 (2^(sc+8+16).toNat) (ha 8) (hb 8) N) (aP (2^(sc+8+16).toNat) (ha 8) (hb 8) N).2
 have lw2:=L_abs_add (sA2 (2^(sc+8+16).toNat) (ha 8) (hb 8) N) (aP (2^(sc+8+16).toNat) (ha 8) (hb 8) N).2
 have lw3:=(lpp N).2
 have hWd:=fx_Wide (sA1 (2^(sc+8+16).toNat) (ha 8) (hb 8) N) (sA2 (2^(sc+8+16).toNat) (ha 8) (hb 8) N) (aP (2^(sc+8+16).toNat) (ha 8) (hb 8) N).2 oO oO oO
 have hT8:=fx_Twice (sA1 (2^(sc+8+16).toNat) (ha 8) (hb 8) N-(aP (2^(sc+8+16).toNat) (ha 8) (hb 8) N).2) (sA2 (2^(sc+8+16).toNat) (ha 8) (hb 8) N+(aP (2^(sc+8+16).toNat) (ha 8) (hb 8) N).2) 8 oO oO oO
 rw[show (8:Int).toNat=8 from rfl] at hT8
 have o1:=L_abs_shl (sA1 (2^(sc+8+16).toNat) (ha 8) (hb 8) N-(aP (2^(sc+8+16).toNat) (ha 8) (hb 8) N).2) 8
 have o2:=L_abs_shl (sA2 (2^(sc+8+16).toNat) (ha 8) (hb 8) N+(aP (2^(sc+8+16).toNat) (ha 8) (hb 8) N).2) 8
 have hHf:=fx_Half ((sA1 (2^(sc+8+16).toNat) (ha 8) (hb 8) N-(aP (2^(sc+8+16).toNat) (ha 8) (hb 8) N).2)*2^8) ((sA2 (2^(sc+8+16).toNat) (ha 8) (hb 8) N+(aP (2^(sc+8+16).toNat) (ha 8) (hb 8) N).2)*2^8) ((sc+8+16)-sc) oO oO oO
 rw[show (sc+8+16-sc).toNat=24 by omega] at hHf
 have o3:=L_abs_shr ((sA1 (2^(sc+8+16).toNat) (ha 8) (hb 8) N-(aP (2^(sc+8+16).toNat) (ha 8) (hb 8) N).2)*2^8) 24
 have o4:=L_abs_neg ((sA2 (2^(sc+8+16).toNat) (ha 8) (hb 8) N+(aP (2^(sc+8+16).toNat) (ha 8) (hb 8) N).2)*2^8)
 have o5:=L_abs_shr (-((sA2 (2^(sc+8+16).toNat) (ha 8) (hb 8) N+(aP (2^(sc+8+16).toNat) (ha 8) (hb 8) N).2)*2^8)) 24
 have o6:=L_abs_neg (-((sA2 (2^(sc+8+16).toNat) (ha 8) (hb 8) N+(aP (2^(sc+8+16).toNat) (ha 8) (hb 8) N).2)*2^8) / 2^24)
 have LM:=LIM N
 refine⟨_,_,fx_ang0 x1 x2 sc (1*(2^(sc+8+16).toNat)) (1*(2^(sc+8+16).toNat)) (ha 8*ha 8 / (2^(sc+8+16).toNat)) (-(-(hb 8*hb 8) / (2^(sc+8+16).toNat))) _ _ _ _ _ _ N ha hb (fun i=>ha i*ha i / (2^(sc+8+16).toNat)) (fun i=>-(-(hb i*hb i) / (2^(sc+8+16).toNat))) (fun i=>1*(2^(sc+8+16).toNat)+ha i*ha i / (2^(sc+8+16).toNat)) (fun i=>1*(2^(sc+8+16).toNat)+-(-(hb i*hb i) / (2^(sc+8+16).toNat)))
  (fun i=>sqLo (1*(2^(sc+8+16).toNat)+ha i*ha i / (2^(sc+8+16).toNat)) (sc+8+16)) (fun i=>sqHi (1*(2^(sc+8+16).toNat)+-(-(hb i*hb i) / (2^(sc+8+16).toNat))) (sc+8+16)) (fun i=>1*(2^(sc+8+16).toNat)+sqLo (1*(2^(sc+8+16).toNat)+ha i*ha i / (2^(sc+8+16).toNat)) (sc+8+16)) (fun i=>1*(2^(sc+8+16).toNat)+sqHi (1*(2^(sc+8+16).toNat)+-(-(hb i*hb i) / (2^(sc+8+16).toNat))) (sc+8+16))
  (fun j=>(aP (2^(sc+8+16).toNat) (ha 8) (hb 8) j).1) (fun j=>(aP (2^(sc+8+16).toNat) (ha 8) (hb 8) j).2) (pt1 (2^(sc+8+16).toNat) (ha 8) (hb 8)) (pt2 (2^(sc+8+16).toNat) (ha 8) (hb 8)) ?_ ?_ ?_ ?_ ?_ oO ?_ hO ?_ ?_ ?_ ?_ ?_ ?_ oO ?_ hT8 hHf,?_,?_,?_,?_,?_⟩
 ·intro i _
  have:=lh i
  exact fx_Mul (ha i) (hb i) (ha i) (hb i) (sc+8+16) oO oO oO oO oO
 ·intro i _
  have:=lm i
  exact fx_Add (1*(2^(sc+8+16).toNat)) (1*(2^(sc+8+16).toNat)) (ha i*ha i / (2^(sc+8+16).toNat)) (-(-(hb i*hb i) / (2^(sc+8+16).toNat))) oO oO oO oO
 ·intro i _
  have:=lp i
  exact fx_Sqrt (1*(2^(sc+8+16).toNat)+ha i*ha i / (2^(sc+8+16).toNat)) (1*(2^(sc+8+16).toNat)+-(-(hb i*hb i) / (2^(sc+8+16).toNat))) (sc+8+16) oO oO oO
 ·intro i _
  have:=lp i
  have r1:=(sqr_L (a:=1*(2^(sc+8+16).toNat)+ha i*ha i / (2^(sc+8+16).toNat)) (s:=sc+8+16)).1
  have r2:=(sqr_L (a:=1*(2^(sc+8+16).toNat)+-(-(hb i*hb i) / (2^(sc+8+16).toNat))) (s:=sc+8+16)).2
  exact fx_Add (1*(2^(sc+8+16).toNat)) (1*(2^(sc+8+16).toNat)) (sqLo (1*(2^(sc+8+16).toNat)+ha i*ha i / (2^(sc+8+16).toNat)) (sc+8+16)) (sqHi (1*(2^(sc+8+16).toNat)+-(-(hb i*hb i) / (2^(sc+8+16).toNat))) (sc+8+16)) oO oO oO oO
 ·intro i _
  have:=lp i
  have l:=lh i
  have r1:=(sqr_L (a:=1*(2^(sc+8+16).toNat)+ha i*ha i / (2^(sc+8+16).toNat)) (s:=sc+8+16)).1
  have r2:=(sqr_L (a:=1*(2^(sc+8+16).toNat)+-(-(hb i*hb i) / (2^(sc+8+16).toNat))) (s:=sc+8+16)).2
  have n1:=(sqLo_spec (a:=1*(2^(sc+8+16).toNat)+ha i*ha i / (2^(sc+8+16).toNat)) (s:=sc+8+16) (by have:=nn i;omega)).1
  have n2:=(sqHi_spec (b:=1*(2^(sc+8+16).toNat)+-(-(hb i*hb i) / (2^(sc+8+16).toNat))) (s:=sc+8+16) (by have:=nm i;omega)).1
  have a1:=L_abs_add (1*(2^(sc+8+16).toNat)) (sqLo (1*(2^(sc+8+16).toNat)+ha i*ha i / (2^(sc+8+16).toNat)) (sc+8+16))
  have a2:=L_abs_add (1*(2^(sc+8+16).toNat)) (sqHi (1*(2^(sc+8+16).toNat)+-(-(hb i*hb i) / (2^(sc+8+16).toNat))) (sc+8+16))
  exact impl_eq (sp_eqA (nx i).1.symm (nx i).2.symm) (fx_Div (ha i) (hb i) (1*(2^(sc+8+16).toNat)+sqLo (1*(2^(sc+8+16).toNat)+ha i*ha i / (2^(sc+8+16).toNat)) (sc+8+16)) (1*(2^(sc+8+16).toNat)+sqHi (1*(2^(sc+8+16).toNat)+-(-(hb i*hb i) / (2^(sc+8+16).toNat))) (sc+8+16)) (sc+8+16) oO oO oO oO oO oO oO)
 ·exact impl_eq (sp_eqA a0.symm b0.symm) hTw
 ·have:=lh 8
  exact fx_Mul (ha 8) (hb 8) (ha 8) (hb 8) (sc+8+16) oO oO oO oO oO
 ·intro j hj
  have l:=lpp j
  refine impl_eq (congrArg V.bool (decide_eq_decide.2 ?_)) (impl_arg (fun w S l h=>by rw[(z1 j).1,(z1 j).2] at h;exact h) (fx_Tiny (aP (2^(sc+8+16).toNat) (ha 8) (hb 8) j).1 (aP (2^(sc+8+16).toNat) (ha 8) (hb 8) j).2 oO))
  constructor
  ·intro hq
   refine Decidable.byContradiction fun hn=>hl j oO ?_
   omega
  ·intro hq
   rw[show j=N by omega]
   have:=(pf N).2.1
   omega
 ·intro j hj
  have l:=lpp j
  have m:=fx_Mul (aP (2^(sc+8+16).toNat) (ha 8) (hb 8) j).1 (aP (2^(sc+8+16).toNat) (ha 8) (hb 8) j).2 (ha 8*ha 8 / (2^(sc+8+16).toNat)) (-(-(hb 8*hb 8) / (2^(sc+8+16).toNat))) (sc+8+16) oO oO oO oO oO
  exact impl_arg (fun w S l h=>by rw[(z1 j).1,(z1 j).2] at h;exact h) m
 ·intro j k hj hk
  have l:=lpp (j+1)
  subst hk
  exact fx_Part (aP (2^(sc+8+16).toNat) (ha 8) (hb 8) (j+1)).1 (aP (2^(sc+8+16).toNat) (ha 8) (hb 8) (j+1)).2 (odn (j+1)) oO oO (by unfold odn;omega)
 ·intro j hj he
  have l:=lpt (j+1)
  have l2:=lts j oO
  exact impl_eq (sp_eqA (if_pos he).symm (if_pos he).symm) (fx_Sub (sA1 (2^(sc+8+16).toNat) (ha 8) (hb 8) j) (sA2 (2^(sc+8+16).toNat) (ha 8) (hb 8) j) (sq0 (ha 8) (pt1 (2^(sc+8+16).toNat) (ha 8) (hb 8)) (j+1)) (sq0 (hb 8) (pt2 (2^(sc+8+16).toNat) (ha 8) (hb 8)) (j+1)) oO oO oO oO)
 ·intro j hj he
  have l:=lpt (j+1)
  have l2:=lts j oO
  exact impl_eq (sp_eqA (if_neg oO).symm (if_neg oO).symm) (fx_Add (sA1 (2^(sc+8+16).toNat) (ha 8) (hb 8) j) (sA2 (2^(sc+8+16).toNat) (ha 8) (hb 8) j) (sq0 (ha 8) (pt1 (2^(sc+8+16).toNat) (ha 8) (hb 8)) (j+1)) (sq0 (hb 8) (pt2 (2^(sc+8+16).toNat) (ha 8) (hb 8)) (j+1)) oO oO oO oO)
 ·exact impl_arg (fun w S l h=>by rw[(z1 N).2] at h;exact h) hWd
 ·rw[hSn,sc_inv (n:=24),← tn]
  exact LM.1
 ·rw[hSn,sc_inv (n:=24),← tn]
  exact LM.2
 ·exact ang_w (sb N).2.2 oO oO (by have:=(pf N).2.1;omega)
 ·omega
 ·omega
end Go.Proofs.YtkkbddkpggjgpaaGreatDoor

namespace Go.Proofs.YtkkbddkpggjgpaaGreatDoor
theorem EnE.half {f:Nat→Rat}{t s n:Nat}{a b:Int}{g:Rat}(ht:t=s+n)(h:EnE f t a b (g*((2^t:Int):Rat))):EnE f s (a / 2^n) (-(-b / 2^n)) (g*((2^s:Int):Rat)):=by
 obtain⟨N,h⟩:=h
 refine⟨N,fun K hK=>?_⟩
 have q:=h K hK
 have e1:f K*((2^t:Int):Rat)+g*((2^t:Int):Rat)=(f K+g)*((2^t:Int):Rat):=by grind
 have P0:(0:Rat)<((2^n:Int):Rat):=Rat.intCast_pos.2 (two_pos n)
 have f1:=(fl_R (a:=a) (two_pos n)).1
 have f2:=(ce_R (a:=b) (two_pos n)).1
 have e:((2^t:Int):Rat)=((2^s:Int):Rat)*((2^n:Int):Rat):=by rw[ht,Int.pow_add,Rat.intCast_mul]
 rw[e] at q
 constructor
 ·refine Rat.le_of_mul_le_mul_right (c:=((2^n:Int):Rat)) ?_ P0
  have:=q.1
  grind
 ·refine Rat.le_of_mul_le_mul_right (c:=((2^n:Int):Rat)) ?_ P0
  have:=q.2
  grind
end Go.Proofs.YtkkbddkpggjgpaaGreatDoor

namespace Go.Proofs.YtkkbddkpggjgpaaGreatDoor
theorem en_of {f1 f2 h:Nat→Rat}{s:Nat}{y1 y2:Int}(l:LoE f1 s y1)(u:HiE f2 s y2)(q1:Lqe f1 h tq)(q2:Lqe h f2 tq):EnE h s y1 y2 (3*tq*((2^s:Int):Rat)):=by
 have T0:(0:Rat)<((2^s:Int):Rat):=Rat.intCast_pos.2 (two_pos s)
 have t0:=tq_pos
 have p:=Rat.mul_pos t0 T0
 obtain⟨N1,l⟩:=l _ p
 obtain⟨N2,u⟩:=u _ p
 obtain⟨N3,q1⟩:=q1 tq t0
 obtain⟨N4,q2⟩:=q2 tq t0
 refine⟨N1+N2+N3+N4,fun K hK=>?_⟩
 have l:=l K (by omega)
 have u:=u K (by omega)
 have q1:f1 K≤h K+tq+tq:=q1 K (by omega)
 have q2:h K≤f2 K+tq+tq:=q2 K (by omega)
 have m1:=Rat.mul_le_mul_of_nonneg_right q1 (Rat.le_of_lt T0)
 have m2:=Rat.mul_le_mul_of_nonneg_right q2 (Rat.le_of_lt T0)
 constructor<;>grind
theorem en_comp {f1 f2:Nat→Rat}{s:Nat}{a1 a2 h1 h2:Int}{X:Rat}(l:LoE f1 s a1)(u:HiE f2 s a2)(hX:¬ X≤1)(q1:Lq f1 (AT0 X⁻¹))(q2:Lq (AT0 X⁻¹) f2)(c1:(h1:Rat)≤cQ*((2^s:Int):Rat))(c2:cQ*((2^s:Int):Rat)≤(h2:Rat)) :
  EnE (ATp X) s (h1-a2) (h2-a1) (3*tq*((2^s:Int):Rat)):=by
 have T0:(0:Rat)<((2^s:Int):Rat):=Rat.intCast_pos.2 (two_pos s)
 have t0:=tq_pos
 have p:=Rat.mul_pos t0 T0
 obtain⟨N1,l⟩:=l _ p
 obtain⟨N2,u⟩:=u _ p
 obtain⟨N3,q1⟩:=q1 tq t0
 obtain⟨N4,q2⟩:=q2 tq t0
 refine⟨N1+N2+N3+N4,fun K hK=>?_⟩
 have l:=l K (by omega)
 have u:=u K (by omega)
 have q1:=q1 K (by omega)
 have q2:=q2 K (by omega)
 have m1:=Rat.mul_le_mul_of_nonneg_right q1 (Rat.le_of_lt T0)
 have m2:=Rat.mul_le_mul_of_nonneg_right q2 (Rat.le_of_lt T0)
 rw[ATp_2 hX,Rat.intCast_sub,Rat.intCast_sub]
 generalize AT0 X⁻¹ K=z at *
 constructor<;>grind
theorem EnE.congr {f h:Nat→Rat}{s:Nat}{a b:Int}{g:Rat}(e:EnE f s a b g)(q:∀ K,h K=f K):EnE h s a b g:=by
 have:h=f:=funext q
 rw[this];exact e
theorem EnE.ng {f:Nat→Rat}{t:Nat}{a b:Int}{x:Rat}(h:EnE f t a b x):EnE (fun K=>-(f K)) t (-b) (-a) x:=by
 obtain⟨N,h⟩:=h
 refine⟨N,fun K hK=>?_⟩
 have h:=h K hK
 rw[Rat.intCast_neg,Rat.intCast_neg]
 constructor<;>grind
theorem at_0_lq {x y:Rat}(h0:0≤x)(h:x≤y)(h1:y≤4 / 3):Lqe (AT0 x) (AT0 y) tq:=Lqe.of (AT0_le h0 h h1) (Rat.le_of_lt tq_pos)
theorem en_mid {s:Nat}{y1 y2:Int}{X u v:Rat}(l:LoE (AT0 u) s y1)(r:HiE (AT0 v) s y2)(u0:0≤u)(uX:u≤X)(u1:u≤1)(Xv:X≤v)(v1:v≤4 / 3):EnE (ATp X) s y1 y2 (3*tq*((2^s:Int):Rat)):=by
 by_cases h:X≤1
 ·exact (en_of l r (at_0_lq u0 uX (by grind)) (at_0_lq (by grind) Xv v1)).congr fun K=>ATp_1 h K
 ·exact en_of l r (comp_lo (by grind) u0 u1) (comp_hi (by grind) Xv v1)
theorem inv_span {T x1 x2 z1 z2:Int}(hT:0<T)(h1:T<x1)(h2:x1≤x2)(h3:x2≤x1+1)(e1:z1*x2≤T*T)(e2:T*T<z1*x2+x2)(e3:T*T≤z2*x1)(e4:z2*x1<T*T+x1) :
  0≤z1∧z1≤z2∧z2≤T∧z2-z1≤4:=by
 have TT:=Int.mul_pos hT hT
 have a0:0≤z1:=by
  refine Decidable.byContradiction fun hn=>?_
  have:=Int.mul_le_mul_of_nonneg_right (show z1≤-1 by omega) (show 0≤x2 by omega)
  omega
 have a1:z2≤T:=by
  refine Decidable.byContradiction fun hn=>?_
  have:=Int.mul_le_mul_of_nonneg_right (show T+1≤z2 by omega) (show 0≤x1 by omega)
  have:=Int.mul_le_mul_of_nonneg_left (show T+1≤x1 by omega) (show 0≤T by omega)
  rw[Int.add_mul] at *
  rw[Int.mul_add] at *
  omega
 have a2:z1≤z2:=by
  refine Decidable.byContradiction fun hn=>?_
  have m1:=Int.mul_le_mul_of_nonneg_right (show z2+1≤z1 by omega) (show 0≤x1 by omega)
  have m2:=Int.mul_le_mul_of_nonneg_left h2 a0
  rw[Int.add_mul] at m1
  omega
 refine⟨a0,a2,a1,Decidable.byContradiction fun hn=>?_⟩
 have m1:=Int.mul_le_mul_of_nonneg_right (show z1+5≤z2 by omega) (show 0≤x1 by omega)
 have m2:=Int.mul_le_mul_of_nonneg_left h3 a0
 rw[Int.add_mul] at m1
 rw[Int.mul_add] at m2
 omega
theorem inv_enc {T x z:Int}{X:Rat}(hT:0<T)(X1:1<X):((X*(T:Rat)≤(x:Rat)∧0≤z∧z*x≤T*T)→(z:Rat)*(T:Rat)⁻¹≤X⁻¹)∧(((x:Rat)≤X*(T:Rat)∧0≤z∧T*T≤z*x)→X⁻¹≤(z:Rat)*(T:Rat)⁻¹):=by
 have T0:(0:Rat)<(T:Rat):=Rat.intCast_pos.2 hT
 have i0:=Rat.inv_pos.2 T0
 have ie:=inv_one T0
 have X0:0<X:=by grind
 have j0:=Rat.inv_pos.2 X0
 have je:=inv_one X0
 have TX:=Rat.mul_pos T0 X0
 have e1:(z:Rat)*(T:Rat)⁻¹*((T:Rat)*X)=(z:Rat)*X:=by
  have:(z:Rat)*(T:Rat)⁻¹*((T:Rat)*X)=(z:Rat)*X*((T:Rat)⁻¹*(T:Rat)):=by grind
  rw[this,ie,Rat.mul_one]
 have e2:X⁻¹*((T:Rat)*X)=(T:Rat):=by
  have:X⁻¹*((T:Rat)*X)=(T:Rat)*(X⁻¹*X):=by grind
  rw[this,je,Rat.mul_one]
 constructor
 ·intro ⟨h1,h2,h3⟩
  have h3:=Rat.intCast_le_intCast.2 h3
  rw[Rat.intCast_mul,Rat.intCast_mul] at h3
  have m:=Rat.mul_le_mul_of_nonneg_left h1 (show (0:Rat)≤(z:Rat) from Rat.intCast_nonneg.2 h2)
  refine Rat.le_of_mul_le_mul_right (c:=(T:Rat)*X) ?_ TX
  rw[e1,e2]
  refine Rat.le_of_mul_le_mul_right (c:=(T:Rat)) ?_ T0
  grind
 ·intro ⟨h1,h2,h3⟩
  have h3:=Rat.intCast_le_intCast.2 h3
  rw[Rat.intCast_mul,Rat.intCast_mul] at h3
  have m:=Rat.mul_le_mul_of_nonneg_left h1 (show (0:Rat)≤(z:Rat) from Rat.intCast_nonneg.2 h2)
  refine Rat.le_of_mul_le_mul_right (c:=(T:Rat)*X) ?_ TX
  rw[e1,e2]
  refine Rat.le_of_mul_le_mul_right (c:=(T:Rat)) ?_ T0
  grind
theorem at_sc {x:Int}{T:Int}{X:Rat}(hT:0<T):((x:Rat)≤X*(T:Rat)→(x:Rat)*(T:Rat)⁻¹≤X)∧(X*(T:Rat)≤(x:Rat)→X≤(x:Rat)*(T:Rat)⁻¹):=by
 have T0:(0:Rat)<(T:Rat):=Rat.intCast_pos.2 hT
 have ie:=inv_one T0
 have e:(x:Rat)*(T:Rat)⁻¹*(T:Rat)=(x:Rat):=by rw[Rat.mul_assoc,ie,Rat.mul_one]
 exact⟨fun h=>Rat.le_of_mul_le_mul_right (by rw[e];exact h) T0,fun h=>Rat.le_of_mul_le_mul_right (by rw[e];exact h) T0⟩
end Go.Proofs.YtkkbddkpggjgpaaGreatDoor

namespace Go.Proofs.YtkkbddkpggjgpaaGreatDoor
open Go.RowKit
set_option maxRecDepth 100000
set_option maxHeartbeats 2000000
theorem pi_all:(List.range 400).all (fun t=>decide (piLo (t:Int)*2^(430-t)≤ptPi) && decide (ptPi≤piHi (t:Int)*2^(430-t)))=true:=by kernel_rfl
theorem cQ2:dv ptPi (-430)=cQ*2:=of_decide_eq_true (by kernel_rfl)
theorem pq_at {t:Nat}(ht:t<400):((piLo (t:Int):Int):Rat)≤cQ*((2^(t+1):Int):Rat)∧cQ*((2^(t+1):Int):Rat)≤((piHi (t:Int):Int):Rat):=by
 have h:=List.all_eq_true.1 pi_all t (List.mem_range.2 ht)
 simp only [Bool.and_eq_true,decide_eq_true_eq] at h
 have a:=(cl_sc (t:=t) oO).1 h.1
 have b:=(cl_sc (t:=t) oO).2 h.2
 have e:cQ*((2^(t+1):Int):Rat)=dv ptPi (-430)*((2^t:Int):Rat):=by
  rw[cQ2,Int.pow_succ,Rat.intCast_mul]
  show cQ*(((2^t:Int):Rat)*2)=_
  grind
 rw[e];exact⟨a,b⟩
end Go.Proofs.YtkkbddkpggjgpaaGreatDoor






namespace Go.Proofs.YtkkbddkpggjgpaaGreatDoor
open Go.RowKit
set_option maxRecDepth 100000
set_option maxHeartbeats 2000000
def gE:Rat:=dv 1 (-40)
theorem gE_b:0<gE∧gE*65536+gE<1:=⟨of_decide_eq_true (by kernel_rfl),of_decide_eq_true (by kernel_rfl)⟩
theorem pow_up {a b:Nat}(h:a≤b):((2^a:Int):Rat)≤((2^b:Int):Rat):=Rat.intCast_le_intCast.2 (by rw[pow_cast,pow_cast];exact Int.ofNat_le.2 (Nat.pow_le_pow_right oO h))
end Go.Proofs.YtkkbddkpggjgpaaGreatDoor

namespace Go.Proofs.YtkkbddkpggjgpaaGreatDoor
open Go.RowKit
set_option maxRecDepth 100000
set_option maxHeartbeats 2000000
theorem at_clo (m ee ss lo hi:Int)(c0:Impl Tryz.prog Amb 111 [(yV m ee),(.int .i64 ss)] (sV lo hi)):Impl Tryz.prog Amb 110 [(.int .i64 ss),(.pt [(V.bool (decide (m<0))),(N m.natAbs),(V.int .i64 ee)] 0)] (sV lo hi):=by
 exact impl_ob hP hAmb Tryz.func110 (by kernel_rfl) (.lits 2<|.call (sV lo hi)<|.lits 2<|.ret)
  (cast_ob (aI True.intro (aI (c0 ) ((vsub_refl (sV lo hi))))) (by kernel_rfl))
theorem at_value0 (m ee w lo hi:Int)(c0:Impl Tryz.prog Amb 78 [(.int .i64 w),(.clos 110 [(.pt [(V.bool (decide (m<0))),(N m.natAbs),(V.int .i64 ee)] 0)])] (sV lo hi)):Impl Tryz.prog Amb 48 [(yV m ee),(.int .i64 w)] (sV lo hi):=by
 exact impl_ob hP hAmb Tryz.func48 (by kernel_rfl) (.lit<|.call (sV lo hi)<|.lits 2<|.ret)
  (cast_ob (aI True.intro (aI (c0 ) ((vsub_refl (sV lo hi))))) (by kernel_rfl))
theorem at_intv (l1 h1 l2 h2 w a1 a2 b1 b2:Int)(c0:0≤w∧w≤4096)(c1:Impl Tryz.prog Amb 74 [(zV l1),(.int .i64 ((0:Int)-w))] (.tup [(yV a1 a2),(.int .i64 0)]))(c2:Impl Tryz.prog Amb 74 [(zV h2),(.int .i64 ((0:Int)-w))] (.tup [(yV b1 b2),(.int .i64 0)])):Impl Tryz.prog Amb 47 [(sV l1 h1),(sV l2 h2),(.int .i64 w)] (.tup [(wV a1 a2 b1 b2),(.int .i64 0)]):=by
 exact impl_ob hP hAmb Tryz.func47 (by kernel_rfl) (.lits 2<|.yes<|.lit<|.call (.tup [(yV a1 a2),(.int .i64 0)])<|.lits 3<|.yes<|.lit<|.call (.tup [(yV b1 b2),(.int .i64 0)])<|.lits 12<|.ret)
  (cast_ob (aI True.intro (aI (fits_i64 oS:(fits .i64 ((0:Int)-w))=true) (aI (c1 ) (aI (fits_i64 oS:(fits .i64 ((0:Int)-w))=true) (aI (c2 ) ((vsub_refl (.tup [(wV a1 a2 b1 b2),(.int .i64 0)])))))))) (by kernel_rfl))
theorem at_Atan0 (m e n f w l1 h1 l2 h2 a1 a2 b1 b2:Int)(c0:0≤w∧w≤4096)(c1:Impl Tryz.prog Amb 48 [(yV m e),(.int .i64 w)] (sV l1 h1))(c2:Impl Tryz.prog Amb 48 [(yV n f),(.int .i64 w)] (sV l2 h2))(c3:Impl Tryz.prog Amb 47 [(sV l1 h1),(sV l2 h2),(.int .i64 w)] (.tup [(wV a1 a2 b1 b2),(.int .i64 0)])):Impl Tryz.prog Amb 15 [(wV m e n f),(.int .i64 w)] (.tup [(wV a1 a2 b1 b2),(.int .i64 0)]):=by
 exact impl_ob hP hAmb Tryz.func15 (by kernel_rfl) (.lit<|.no<|.lits 3<|.no<|.lits 2<|.call (sV l1 h1)<|.lits 2<|.call (sV l2 h2)<|.lit<|.call (.tup [(wV a1 a2 b1 b2),(.int .i64 0)])<|.lits 2<|.ret)
  (cast_ob (aI True.intro (aI (iLt_mkF oS:(iLt w 0)=false) (aI (iGt_mkF oS:(iGt w 4096)=false) (aI (c1 ) (aI (c2 ) (aI (c3 ) ((vsub_refl (.tup [(wV a1 a2 b1 b2),(.int .i64 0)]))))))))) (by kernel_rfl))
theorem two_up {a b:Nat}(h:a≤b):(2:Int)^a≤2^b:=by
 have p:=Int.ofNat_le.2 (Nat.pow_le_pow_right (n:=2) oO h)
 rw[← pow_cast,← pow_cast] at p
 exact p
theorem fx_AtanM (m ee sc:Int)(hs:24≤sc∧sc≤360)(hm:L (m).natAbs≤100)(he:-5000≤ee∧ee≤5000) :
  ∃ y1 y2:Int,(∀ (neg:Bool),neg=decide (m<0)→Impl Tryz.prog Amb 111 [(yV m ee),(.int .i64 sc)] (sV ((if neg then -y2 else y1) / 2^24) (-(-(if neg then -y1 else y2) / 2^24))))∧EnE (ATp (dv (m.natAbs:Int) ee)) (sc+24).toNat y1 y2 (3*tq*((2^(sc+24).toNat:Int):Rat))∧y2-y1≤1099528404992∧L y1.natAbs≤420∧L y2.natAbs≤420:=by
 obtain⟨t,ht⟩:∃ t:Nat,(t:Int)=sc+24:=⟨(sc+24).toNat,by omega⟩
 have tn:(sc+24).toNat=t:=by omega
 have hNa:=int_Nat false m.natAbs oO
 rw[show sgn false m.natAbs=(m.natAbs:Int) from sgn_f _] at hNa
 have la:L ((m.natAbs:Int)).natAbs≤100:=by rw[Int.natAbs_natCast];exact hm
 have hOf:=fx_Of (m.natAbs:Int) ee (sc+24) oO oO oO
 have lf:=flr_LD (m.natAbs:Int) ee (sc+24)
 have X0:0≤dv (m.natAbs:Int) ee:=dv_ge0.2 (Int.natCast_nonneg _)
 generalize hX:dv (m.natAbs:Int) ee=X at *
 have sc1:=(flr_sc X t).1
 have sc2:=(cei_sc X t).1
 have fc:=(flr_cei1 X t)
 have hO:=fx_One (sc+24) oO
 rw[tn] at hO
 rw[ht] at sc1 sc2 fc
 have P:=two_pos t
 have PB:=two_up (show 48≤t by omega)
 rw[show (2:Int)^48=281474976710656 from rfl] at PB
 have x10:0≤flr X (sc+24):=le_flr.2 (by rw[dv_zero];exact X0)
 have lO:=L_pow1 t
 generalize flr X (sc+24)=x1 at *
 generalize cei X (sc+24)=x2 at *
 have s1:=(at_sc (x:=x1) (X:=X) P).1 sc1
 have s2:=(at_sc (x:=x2) (X:=X) P).2 sc2
 have T0:(0:Rat)<((2^t:Int):Rat):=Rat.intCast_pos.2 P
 have i0:=Rat.inv_pos.2 T0
 have ie:=inv_one T0
 have one:(((2^t:Int)):Rat)*(((2^t:Int):Rat))⁻¹=1:=by rw[Rat.mul_comm];exact ie
 have n1:0≤(x1:Rat)*(((2^t:Int):Rat))⁻¹:=Rat.mul_nonneg (Rat.intCast_nonneg.2 x10) (Rat.le_of_lt i0)
 have small:∀ {x:Int},x≤2^t+1→(x:Rat)*(((2^t:Int):Rat))⁻¹≤4 / 3:=by
  intro x hx
  have h:=Rat.intCast_le_intCast.2 (show 3*x≤4*2^t by omega)
  rw[Rat.intCast_mul,Rat.intCast_mul,show ((3:Int):Rat)=3 from rfl,show ((4:Int):Rat)=4 from rfl] at h
  have m:=Rat.mul_le_mul_of_nonneg_right h (Rat.le_of_lt i0)
  grind
 have le1:∀ {x:Int},x≤2^t→(x:Rat)*(((2^t:Int):Rat))⁻¹≤1:=by
  intro x hx
  have m:=Rat.mul_le_mul_of_nonneg_right (Rat.intCast_le_intCast.2 hx) (Rat.le_of_lt i0)
  rw[one] at m;exact m
 have w0:∀ {r1 r2:Int},r2-r1≤1099511627776→r2-r1≤1099528404992:=fun h=>by omega
 by_cases c1:x1≤1*2^t
 ·by_cases c2:x2≤1*2^t
  ·-- up to 1
   obtain⟨r1,r2,hA,l,u,w,lr1,lr2⟩:=fx_angE x1 x2 (sc+24) oO x10 oO (by rw[tn];omega) oO
   rw[tn] at l u
   refine⟨r1,r2,fun neg hn=>?_,?_,w0 w,by omega,by omega⟩
   ·cases neg with
    | true=>exact fx_AtanAN m ee sc (m.natAbs:Int) x1 x2 (1*2^t) (1*2^t) 0 0 0 0 0 0 0 0 r1 r2 oO (of_decide_eq_true hn.symm) c1 c2 oO oO oO oO oO oO hNa hOf hO hA
    | false=>exact fx_AtanAP m ee sc (m.natAbs:Int) x1 x2 (1*2^t) (1*2^t) 0 0 0 0 0 0 0 0 r1 r2 oO (by have:=of_decide_eq_false hn.symm;omega) c1 c2 oO oO oO oO oO oO hNa hOf hO hA
   ·rw[tn]
    exact en_mid l u n1 s1 (le1 oO) s2 (small oO)
  ·obtain⟨r1,r2,hA,l,u,w,lr1,lr2⟩:=fx_angE x1 (1*2^t+1) (sc+24) oO x10 oO (by rw[tn];omega) oO
   rw[tn] at l u
   refine⟨r1,r2,fun neg hn=>?_,?_,w0 w,by omega,by omega⟩
   ·cases neg with
    | true=>exact fx_AtanCN m ee sc (m.natAbs:Int) x1 x2 (1*2^t) (1*2^t) 0 0 0 0 0 0 0 0 r1 r2 oO (of_decide_eq_true hn.symm) c1 oO oO oO oO oO oO oO hNa hOf hO hA
    | false=>exact fx_AtanCP m ee sc (m.natAbs:Int) x1 x2 (1*2^t) (1*2^t) 0 0 0 0 0 0 0 0 r1 r2 oO (by have:=of_decide_eq_false hn.symm;omega) c1 oO oO oO oO oO oO oO hNa hOf hO hA
   ·rw[tn]
    refine en_mid l u n1 s1 (le1 oO) ?_ (small oO)
    refine Rat.le_trans s2 ?_
    exact Rat.mul_le_mul_of_nonneg_right (Rat.intCast_le_intCast.2 oO) (Rat.le_of_lt i0)
 ·-- beyond 1
  have cl:=pq_at (t:=t+2) oO
  have tt:((t+2:Nat):Int)=sc+24+2:=by omega
  rw[tt] at cl
  have b:=pi_ok (s:=sc+24+2) oO
  have bw:piHi (sc+24+2)-piLo (sc+24+2)<16777216:=by
   have:=nbits_lt (piHi (sc+24+2)-piLo (sc+24+2)).natAbs
   have p:=Nat.pow_le_pow_right (n:=2) oO b.2.2
   omega
  have hP:Impl Tryz.prog Amb 104 [(.int .i64 ((sc+24)+2))] (sV (piLo (sc+24+2)) (piHi (sc+24+2))):=fx_Pi (sc+24+2) oO
  generalize piLo (sc+24+2)=p1 at *
  generalize piHi (sc+24+2)=p2 at *
  have hH:=fx_Half p1 p2 3 oO oO oO
  have he1:=half_enc (a:=p1) (b:=p2) (X:=cQ) (t:=t+2+1) (s:=t) (n:=3) oO cl.1 cl.2
  have hw1:=half_w (a:=p1) (b:=p2) (W:=2097152) (n:=3) oO
  have o1:=L_abs_shr p1 3
  have o2:=L_abs_neg p2
  have o3:=L_abs_shr (-p2) 3
  have o4:=L_abs_neg (-p2 / 2^3)
  rw[show (3:Int).toNat=3 from rfl] at hH
  generalize p1 / 2^3=h1 at *
  generalize -(-p2 / 2^3)=h2 at *
  -- the quotient
  have lx:L x1.natAbs≤1000∧L x2.natAbs≤1000:=by omega
  have hD:=fx_Div (1*2^t) (1*2^t) x1 x2 (sc+24) oO oO oO oO oO oO oO
  rw[tn,Int.fdiv_eq_ediv_of_nonneg _ (show 0≤x2 by omega),Int.fdiv_eq_ediv_of_nonneg _ (show 0≤x1 by omega)] at hD
  have q1:=Int.ediv_mul_le (1*2^t*2^t) (show x2≠0 by omega)
  have q2:=Int.lt_ediv_add_one_mul_self (1*2^t*2^t) (show 0<x2 by omega)
  have q3:=Int.ediv_mul_le (-(1*2^t*2^t)) (show x1≠0 by omega)
  have q4:=Int.lt_ediv_add_one_mul_self (-(1*2^t*2^t)) (show 0<x1 by omega)
  generalize 1*2^t*2^t / x2=z1 at *
  generalize -(1*2^t*2^t) / x1=z2 at *
  rw[Int.add_mul] at q2 q4
  have e1:(1:Int)*2^t*2^t=2^t*2^t:=by rw[Int.one_mul]
  rw[e1] at q1 q2 q3 q4
  have nz:-z2*x1=-(z2*x1):=Int.neg_mul _ _
  have zf:=inv_span (T:=2^t) (x1:=x1) (x2:=x2) (z1:=z1) (z2:=-z2) P oO oO oO q1 oO oO oO
  obtain⟨a1,a2,hA,l,u,w,lr1,lr2⟩:=fx_angE z1 (-z2) (sc+24) oO zf.1 zf.2.1 (by rw[tn];omega) oO
  rw[tn] at l u
  have X1:1<X:=by
   have h:=Rat.intCast_lt_intCast.2 (show (2:Int)^t<x1 by omega)
   refine Rat.lt_of_mul_lt_mul_right (c:=((2^t:Int):Rat)) ?_ (Rat.le_of_lt T0)
   rw[Rat.one_mul];grind
  have v1:=(inv_enc (z:=z1) (x:=x2) P X1).1 ⟨sc2,zf.1,q1⟩
  have v2:=(inv_enc (z:=-z2) (x:=x1) P X1).2 ⟨sc1,by omega,by omega⟩
  have iv:=inv_le1 (x:=X) (Rat.le_of_lt X1)
  have hS:=fx_Sub h1 h2 a1 a2 oO oO oO oO
  have y1:=L_abs_sub h1 a2
  have y2:=L_abs_sub h2 a1
  have n2:0≤(z1:Rat)*(((2^t:Int):Rat))⁻¹:=Rat.mul_nonneg (Rat.intCast_nonneg.2 zf.1) (Rat.le_of_lt i0)
  refine⟨h1-a2,h2-a1,fun neg hn=>?_,?_,by omega,by omega,by omega⟩
  ·have hS:Impl Tryz.prog Amb 164 [(sV h1 h2),(sV a1 a2)] (sV (h1-a2) (h2-a1)):=impl_eq (sp_eqA oO oO) hS
   cases neg with
   | true=>exact fx_AtanBN m ee sc (m.natAbs:Int) x1 x2 (1*2^t) (1*2^t) p1 p2 h1 h2 z1 (-z2) a1 a2 (h1-a2) (h2-a1) oO (of_decide_eq_true hn.symm) oO oO oO oO oO oO oO oO hNa hOf hO hP hH hD hA hS
   | false=>exact fx_AtanBP m ee sc (m.natAbs:Int) x1 x2 (1*2^t) (1*2^t) p1 p2 h1 h2 z1 (-z2) a1 a2 (h1-a2) (h2-a1) oO (by have:=of_decide_eq_false hn.symm;omega) oO oO oO oO oO oO oO oO hNa hOf hO hP hH hD hA hS
  ·rw[tn]
   exact en_comp l u (by grind) (AT0_le n2 v1 (by grind)) (AT0_le (by grind) v2 (small oO)) he1.1 he1.2
theorem dv_neg_lt {m e:Int}(h:m<0):dv m e<0:=by
 have:=(dv_pos (m:=-m) (e:=e)).2 oO
 rw[dv_neg] at this;grind
theorem dv_lt_neg {m e:Int}(h:dv m e<0):m<0:=by
 refine Decidable.byContradiction fun hn=>?_
 have:=(dv_ge0 (m:=m) (e:=e)).2 oO
 grind
theorem fx_AtanE (m ee sc:Int)(hs:24≤sc∧sc≤360)(hm:L (m).natAbs≤100)(he:-5000≤ee∧ee≤5000) :
  ∃ y1 y2:Int,Impl Tryz.prog Amb 111 [(yV m ee),(.int .i64 sc)] (sV y1 y2)∧EnE (AT (dv m ee)) sc.toNat y1 y2 (3*tq*((2^sc.toNat:Int):Rat))∧y2-y1≤65540∧L y1.natAbs≤430∧L y2.natAbs≤430:=by
 obtain⟨y1,y2,hC,hE,hw,l1,l2⟩:=fx_AtanM m ee sc hs hm he
 have n1:=L_abs_neg y1
 have n2:=L_abs_neg y2
 have key:∀ {a b:Int},EnE (AT (dv m ee)) (sc+24).toNat a b (3*tq*((2^(sc+24).toNat:Int):Rat))→b-a≤1099528404992→L a.natAbs≤420→L b.natAbs≤420→EnE (AT (dv m ee)) sc.toNat (a / 2^24) (-(-b / 2^24)) (3*tq*((2^sc.toNat:Int):Rat))∧-(-b / 2^24)-a / 2^24≤65540∧L (a / 2^24).natAbs≤430∧L (-(-b / 2^24)).natAbs≤430:=by
  intro a b e w la lb
  have hw:=half_w (a:=a) (b:=b) (W:=65538) (n:=24) oO
  have o1:=L_abs_shr a 24
  have o2:=L_abs_neg b
  have o3:=L_abs_shr (-b) 24
  have o4:=L_abs_neg (-b / 2^24)
  exact⟨e.half oO,by omega,by omega,by omega⟩
 by_cases h:m<0
 ·have hC:=hC true (decide_eq_true h).symm
  have e:EnE (AT (dv m ee)) (sc+24).toNat (-y2) (-y1) (3*tq*((2^(sc+24).toNat:Int):Rat)):=hE.ng.congr fun K=>by
   rw[AT_m (dv_neg_lt h),← dv_neg,show -m=(m.natAbs:Int) by omega]
  obtain⟨k1,k2,k3,k4⟩:=key e oO oO oO
  exact⟨_,_,hC,k1,k2,k3,k4⟩
 ·have hC:=hC false (decide_eq_false h).symm
  have e:EnE (AT (dv m ee)) (sc+24).toNat y1 y2 (3*tq*((2^(sc+24).toNat:Int):Rat)):=hE.congr fun K=>by
   rw[AT_p (fun q=>h (dv_lt_neg q)),show (m.natAbs:Int)=m by omega]
  obtain⟨k1,k2,k3,k4⟩:=key e oO oO oO
  exact⟨_,_,hC,k1,k2,k3,k4⟩
end Go.Proofs.YtkkbddkpggjgpaaGreatDoor




namespace Go.Proofs.YtkkbddkpggjgpaaGreatDoor
open Go.RowKit
set_option maxRecDepth 100000
set_option maxHeartbeats 4000000
theorem dv_g {a w:Int}{k:Nat}(h:L a.natAbs≤k)(hk:k≤300)(hw:0≤w∧w≤400):dv (mkM a (-w)) (mkX a (-w))=dv a (-w)∧L (mkM a (-w)).natAbs≤k∧(-400≤mkX a (-w)∧mkX a (-w)≤32*k)∧vdb (mkM a (-w)) (mkX a (-w))=true∧mkE a (-w)=0∧-w≤mkX a (-w):=by
 have f:=mk_fit (m:=a) (e:=-w) oO oO
 have i1:=iMin_range (-w) 0
 have i2:iMax (-w) 0≤0:=by unfold iMax;split<;>omega
 exact⟨f.2.2.2.2.2,by omega,by omega,f.2.2.2.2.1,f.1,by omega⟩
theorem enV_ok {lo hi:Rat}{w:Int}(h:enE lo hi w=0):enV lo hi w=(.tup [(wV (mkM (flr lo w) (-w)) (mkX (flr lo w) (-w)) (mkM (cei hi w) (-w)) (mkX (cei hi w) (-w))),(.int .i64 0)]):=by
 obtain⟨a,b,c,d⟩:=en_yes h
 unfold enV
 rw[a,b,c,d,h]
theorem dv_plus (a c w:Int):dv a w+dv c w=dv (a+c) w:=by unfold dv;rw[Rat.intCast_add,Rat.add_mul]
theorem g_meet {m e n f p g q h:Int}(h1:dv p g≤dv n f)(h2:dv m e≤dv q h):ivCmp m e n f p g q h=0:=by
 unfold ivCmp
 rw[if_neg,if_neg]
 ·have:=cmpD_le.2 h2
  omega
 ·intro k
  rw[cmpD_dv] at k
  rcases cmpQ_range (dv n f) (dv p g) with ⟨_,x⟩ | ⟨x,_⟩ | ⟨x,_⟩
  ·exact Rat.not_lt.2 h1 x
  ·omega
  ·omega
theorem g_cmp (a b c d w:Int)(hw:0≤w∧w≤200)(la:L a.natAbs≤60)(lb:L b.natAbs≤60)(lc:L c.natAbs≤60)(ld:L d.natAbs≤60)(h1:c≤b)(h2:a≤d):Impl Tryz.prog Amb 21 [(wV (mkM a (-w)) (mkX a (-w)) (mkM b (-w)) (mkX b (-w))),(wV (mkM c (-w)) (mkX c (-w)) (mkM d (-w)) (mkX d (-w)))] (.int .i64 0):=by
 have A:=dv_g (w:=w) la oO oO
 have B:=dv_g (w:=w) lb oO oO
 have C:=dv_g (w:=w) lc oO oO
 have D:=dv_g (w:=w) ld oO oO
 exact impl_eq (congrArg (V.int .i64) (g_meet (by rw[C.1,B.1];exact dv_le.2 h1) (by rw[A.1,D.1];exact dv_le.2 h2))) (r10_Cmp (mkM a (-w)) (mkX a (-w)) (mkM b (-w)) (mkX b (-w)) (mkM c (-w)) (mkX c (-w)) (mkM d (-w)) (mkX d (-w)) oO oO oO oO oO oO oO oO)
theorem g_has (a b k w:Int)(hw:0≤w∧w≤200)(la:L a.natAbs≤60)(lb:L b.natAbs≤60)(hk:(-9223372036854775808:Int)≤k∧k≤9223372036854775807)(h1:a≤k*2^w.toNat)(h2:k*2^w.toNat≤b):Impl Tryz.prog Amb 41 [(wV (mkM a (-w)) (mkX a (-w)) (mkM b (-w)) (mkX b (-w))),(.agg [(.bool (decide (((k:Int):Rat).num<0))),(N ((((k:Int):Rat).num).natAbs)),(N (((k:Int):Rat).den))])] (.bool true):=by
 have A:=dv_g (w:=w) la oO oO
 have B:=dv_g (w:=w) lb oO oO
 have e:((k:Int):Rat)=dv (k*2^w.toNat) (-w):=by
  rw[dv_shl,show (-w+(w.toNat:Int))=0 by omega];unfold dv;rw[zp_zero,Rat.mul_one]
 have q:=q_ofL (n:=k) oO
 exact impl_eq (congrArg V.bool (decide_eq_true ⟨cmpQ_le.2 (by rw[A.1,e];exact dv_le.2 h1),cmpQ_le.2 (by rw[B.1,e];exact dv_le.2 h2)⟩)) (r10_Has (mkM a (-w)) (mkX a (-w)) (mkM b (-w)) (mkX b (-w)) ((k:Int):Rat) oO oO oO oO A.2.2.2.1 B.2.2.2.1 oO oO)
theorem EnE.neg {f:Nat→Rat}{t:Nat}{a b:Int}{x:Rat}(h:EnE f t a b x):EnE (fun K=>-(f K)) t (-b) (-a) x:=by
 obtain⟨N,h⟩:=h
 refine⟨N,fun K hK=>?_⟩
 have h:=h K hK
 rw[Rat.intCast_neg,Rat.intCast_neg,Rat.neg_mul]
 constructor<;>grind
end Go.Proofs.YtkkbddkpggjgpaaGreatDoor

namespace Go.Proofs.YtkkbddkpggjgpaaGreatDoor
open Go.RowKit
set_option maxRecDepth 100000
set_option maxHeartbeats 2000000
theorem tq_gE {n:Nat}(h:n≤370):8*tq*((2^n:Int):Rat)≤gE:=by
 have a:(0:Rat)≤8*tq:=of_decide_eq_true (by kernel_rfl)
 have m:=Rat.mul_le_mul_of_nonneg_left (pow_up h) a
 exact Rat.le_trans m (of_decide_eq_true (by kernel_rfl))
theorem at_valueE (m ee w:Int)(hw:0≤w∧w≤330)(hm:L (m).natAbs≤100)(he:-5000≤ee∧ee≤5000) :
  ∃ lo hi:Int,Impl Tryz.prog Amb 48 [(yV m ee),(.int .i64 w)] (sV lo hi)∧EnE (AT (dv m ee)) w.toNat lo hi gE∧hi-lo≤2∧(1000*hi≤1571*2^w.toNat+3000∧-(1571*2^w.toNat+3000)≤1000*lo):=by
 obtain⟨y1,y2,hC,hE,hw2,l1,l2⟩:=fx_AtanE m ee (w+24) oO hm he
 have tz:=tq_gE (n:=(w+24).toNat) oO
 have tq0:=tq_pos
 have Z0:(0:Rat)<((2^(w+24).toNat:Int):Rat):=Rat.intCast_pos.2 (two_pos _)
 have tZ:=Rat.mul_pos tq0 Z0
 have gb:=gE_b
 have y12:y1≤y2:=hE.le hE (Lq.refl _) (by grind)
 have hT:=fx_Settle1 110 _ y1 y2 w (at_clo m ee (w+24) y1 y2 hC) oO (nbits_of_lt oO) oO
 have w2:=half_w (a:=y1) (b:=y2) (W:=1) (n:=24) oO
 have e:=hE.half (s:=w.toNat) (n:=24) oO
 have t:=tq_gE (n:=w.toNat) oO
 have tp:=tq_pos
 have T0:(0:Rat)<((2^w.toNat:Int):Rat):=Rat.intCast_pos.2 (two_pos _)
 have tT:=Rat.mul_pos tp T0
 have e:=e.mono (g':=gE) (by grind)
 refine⟨_,_,at_value0 m ee w _ _ hT,e,w2,?_⟩
 generalize y1 / 2^24=lo at *
 generalize -(-y2 / 2^24)=hi at *
 obtain⟨N,e⟩:=e
 have e:=e N (Nat.le_refl _)
 have b:=AT_b (dv m ee) N
 have c:=cQ_b
 have g:=gE_b
 have m1:=Rat.mul_le_mul_of_nonneg_right (show 1000*AT (dv m ee) N≤1571 by grind) (Rat.le_of_lt T0)
 have m2:=Rat.mul_le_mul_of_nonneg_right (show -1571≤1000*AT (dv m ee) N by grind) (Rat.le_of_lt T0)
 have k1:((1000*lo:Int):Rat)≤((1571*2^w.toNat+1000:Int):Rat):=by
  rw[Rat.intCast_add,Rat.intCast_mul,Rat.intCast_mul]
  show (1000:Rat)*_≤1571*_+1000
  grind
 have k2:((-(1571*2^w.toNat)-1000:Int):Rat)≤((1000*hi:Int):Rat):=by
  rw[Rat.intCast_sub,Rat.intCast_neg,Rat.intCast_mul,Rat.intCast_mul]
  show -((1571:Rat)*_)-1000≤(1000:Rat)*_
  grind
 have k1:=Rat.intCast_le_intCast.1 k1
 have k2:=Rat.intCast_le_intCast.1 k2
 omega
theorem at_L {x w:Int}(hw:0≤w∧w≤350)(h1:1000*x≤1571*2^w.toNat+5000)(h2:-(1571*2^w.toNat+5000)≤1000*x):L x.natAbs≤12:=by
 have e:((2^(w.toNat+3):Nat):Int)=2^w.toNat*8:=by rw[← pow_cast,Int.pow_add];rfl
 have:=two_pos w.toNat
 exact L_pow2 (n:=w.toNat+3) oO oO
theorem EnE.sh {f:Nat→Rat}{s:Nat}{a b:Int}{x e:Rat}(h:EnE f s a b x)(e0:0≤e):EnE (fun K=>f K+e) s a b (x+e*((2^s:Int):Rat)):=by
 obtain⟨N,h⟩:=h
 have T0:(0:Rat)<((2^s:Int):Rat):=Rat.intCast_pos.2 (two_pos s)
 have p:=Rat.mul_nonneg e0 (Rat.le_of_lt T0)
 refine⟨N,fun K hK=>?_⟩
 have h:=h K hK
 constructor<;>grind
theorem at_le {x y:Rat}{s:Nat}{a b c d:Int}(h:EnE (AT x) s a b gE)(k:EnE (AT y) s c d gE)(hxy:x≤y)(hs:s≤350):a≤d:=by
 have t:=tq_gE (n:=s) oO
 have tp:=tq_pos
 have g:=gE_b
 have T0:(0:Rat)<((2^s:Int):Rat):=Rat.intCast_pos.2 (two_pos s)
 have tT:=Rat.mul_pos tp T0
 exact h.le (k.sh (Rat.le_of_lt tp)) (AT_mono hxy) (by grind)
theorem at_AtanE (m ee n f w:Int)(hw:0≤w∧w≤300)(hm:L (m).natAbs≤100)(he:-5000≤ee∧ee≤5000)(hn:L (n).natAbs≤100)(hf:-5000≤f∧f≤5000) :
  ∃ l1 h1 l2 h2:Int,Impl Tryz.prog Amb 15 [(wV m ee n f),(.int .i64 w)] (.tup [(wV (mkM l1 (-w)) (mkX l1 (-w)) (mkM h2 (-w)) (mkX h2 (-w))),(.int .i64 0)])∧(EnE (AT (dv m ee)) w.toNat l1 h1 gE∧h1-l1≤2∧(1000*h1≤1571*2^w.toNat+3000∧-(1571*2^w.toNat+3000)≤1000*l1))∧(EnE (AT (dv n f)) w.toNat l2 h2 gE∧h2-l2≤2∧(1000*h2≤1571*2^w.toNat+3000∧-(1571*2^w.toNat+3000)≤1000*l2))∧(L l1.natAbs≤12∧L h2.natAbs≤12):=by
 obtain⟨l1,h1,hA,eA,wA,bA⟩:=at_valueE m ee w oO hm he
 obtain⟨l2,h2,hB,eB,wB,bB⟩:=at_valueE n f w oO hn hf
 have ge:=gE_b
 have o1:l1≤h1:=eA.le eA (Lq.refl _) (by grind)
 have o2:l2≤h2:=eB.le eB (Lq.refl _) (by grind)
 have z1:=at_L (x:=l1) (w:=w) oO oO oO
 have z2:=at_L (x:=h2) (w:=w) oO oO oO
 have mA:=dy_Make l1 (0-w) oO oO
 have mB:=dy_Make h2 (0-w) oO oO
 rw[Int.zero_sub,mk_fine2 (m:=l1) (e:=-w) oO oO] at mA
 rw[Int.zero_sub,mk_fine2 (m:=h2) (e:=-w) oO oO] at mB
 have hI:=at_intv l1 h1 l2 h2 w _ _ _ _ oO (by rw[Int.zero_sub];exact mA) (by rw[Int.zero_sub];exact mB)
 exact⟨l1,h1,l2,h2,at_Atan0 m ee n f w l1 h1 l2 h2 _ _ _ _ oO hA hB hI,⟨eA,wA,bA⟩,⟨eB,wB,bB⟩,z1,z2⟩
end Go.Proofs.YtkkbddkpggjgpaaGreatDoor

namespace Go.Proofs.YtkkbddkpggjgpaaGreatDoor
structure Hstep (T a b a' b':Int):Prop where
 h1:0≤a'
 h2:a'≤b'
 h3:2*b'≤b+2
 lo:2*((a':Rat)*(T:Rat)⁻¹)≤(a:Rat)*(T:Rat)⁻¹*(1-(a':Rat)*(T:Rat)⁻¹*((a':Rat)*(T:Rat)⁻¹))
 hi:(b:Rat)*(T:Rat)⁻¹*(1-(b':Rat)*(T:Rat)⁻¹*((b':Rat)*(T:Rat)⁻¹))≤2*((b':Rat)*(T:Rat)⁻¹)
end Go.Proofs.YtkkbddkpggjgpaaGreatDoor










namespace Go.Proofs.YtkkbddkpggjgpaaGreatDoor
open Go.RowKit
set_option maxRecDepth 100000
theorem r13_Touches (m e n f p g q h:Int)(c0:L (m).natAbs≤8192)(c1:L (n).natAbs≤8192)(c2:(-65536:Int)≤e∧e≤65536)(c3:(-65536:Int)≤f∧f≤65536)(c4:L (p).natAbs≤8192)(c5:L (q).natAbs≤8192)(c6:(-65536:Int)≤g∧g≤65536)(c7:(-65536:Int)≤h∧h≤65536):Impl Tryz.prog Amb 32 [(wV m e n f),(wV p g q h)] (.bool (iEq (ivCmp m e n f p g q h) 0)):=by
 exact impl_ob hP hAmb Tryz.func32 (by kernel_rfl) (.lits 3<|.call (.int .i64 (ivCmp m e n f p g q h))<|.lits 2<|.ret)
  (cast_ob (aI True.intro (aI (r10_Cmp m e n f p g q h oO oO oO oO oO oO oO oO) ((vsub_refl (.bool (iEq (ivCmp m e n f p g q h) 0)))))) (by kernel_rfl))
def eA (w:Int):Int:=(mkM ((eLo (w+24)) / 2^24) (-w))
def eB (w:Int):Int:=(mkX ((eLo (w+24)) / 2^24) (-w))
end Go.Proofs.YtkkbddkpggjgpaaGreatDoor




namespace Go.Proofs.YtkkbddkpggjgpaaGreatDoor
open Go.RowKit
set_option maxRecDepth 100000
set_option maxHeartbeats 2000000
theorem l16_of (a b:Int)(c0:(-9223372036854775808:Int)≤a∧a≤9223372036854775807)(c1:(-9223372036854775808:Int)≤b∧b≤9223372036854775807):Impl Tryz.prog Amb 36 [(.int .i64 a),(.int .i64 b)] (wV (mkM a 0) (mkX a 0) (mkM b 0) (mkX b 0)):=by
 exact impl_ob hP hAmb Tryz.func36 (by kernel_rfl) (.lit<|.call (yV (mkM a 0) (mkX a 0))<|.lit<|.call (yV (mkM b 0) (mkX b 0))<|.lits 3<|.ret)
  (cast_ob (aI True.intro (aI (r08_Of a oO) (have f14:=(of_fit (n:=a) oO).2.2.2.2.1;have f13:=(of_fit (n:=a) oO).2.2.2.1;have f12:=(of_fit (n:=a) oO).2.2.1;have f11:=(of_fit (n:=a) oO).2.1;have f10:=(of_fit (n:=a) oO).1;have f9:=(L_i64 oO:L (a:Int).natAbs≤2);have f8:=mk_facts a 0;aI (r08_Of b oO) (have f7:=(of_fit (n:=b) oO).2.2.2.2.1;have f6:=(of_fit (n:=b) oO).2.2.2.1;have f5:=(of_fit (n:=b) oO).2.2.1;have f4:=(of_fit (n:=b) oO).2.1;have f3:=(of_fit (n:=b) oO).1;have f2:=(L_i64 oO:L (b:Int).natAbs≤2);have f1:=mk_facts b 0;(vsub_refl (wV (mkM a 0) (mkX a 0) (mkM b 0) (mkX b 0))))))) (by kernel_rfl))
theorem at_RecipA (n w:Int)(c0:(-9223372036854775808:Int)≤n∧n≤9223372036854775807)(c1:(-9223372036854775808:Int)≤w∧w≤9223372036854775807)(c2:w<0∨4096<w):Impl Tryz.prog Amb 26 [(.int .i64 n),(.int .i64 w)] (.tup [(.agg [(.bool false),.nil,(.int .i64 0),(.bool false),.nil,(.int .i64 0)]),(.int .i64 1)]):=by
 exact impl_ob hP hAmb Tryz.func26 (by kernel_rfl) (.lit<|.both (.lits 12<|.ret) (.lits 3<|.yes<|.lits 9<|.ret))
  (cast_ob (aI True.intro (aI (fun (h1:(iLt w 0)=true)=>have _gh1:=iLt_t h1;(vsub_refl (.tup [(.agg [(.bool false),.nil,(.int .i64 0),(.bool false),.nil,(.int .i64 0)]),(.int .i64 1)]))) (fun (h2:(iLt w 0)=false)=>have _gh2:=iLt_f h2;aI (iGt_mk oO:(iGt w 4096)=true) ((vsub_refl (.tup [(.agg [(.bool false),.nil,(.int .i64 0),(.bool false),.nil,(.int .i64 0)]),(.int .i64 1)])))))) (by kernel_rfl))
theorem at_RecipB (n w:Int)(c0:(-9223372036854775808:Int)≤n∧n≤9223372036854775807)(c1:(-9223372036854775808:Int)≤w∧w≤9223372036854775807)(c2:0≤w∧w≤4096)(c3:n<2):Impl Tryz.prog Amb 26 [(.int .i64 n),(.int .i64 w)] (.tup [(.agg [(.bool false),.nil,(.int .i64 0),(.bool false),.nil,(.int .i64 0)]),(.int .i64 1)]):=by
 exact impl_ob hP hAmb Tryz.func26 (by kernel_rfl) (.lit<|.no<|.lits 3<|.no<|.lits 4<|.yes<|.lits 6<|.ret)
  (cast_ob (aI True.intro (aI (iLt_mkF oO:(iLt w 0)=false) (aI (iGt_mkF oO:(iGt w 4096)=false) (aI (iLt_mk oO:(iLt n 2)=true) ((vsub_refl (.tup [(.agg [(.bool false),.nil,(.int .i64 0),(.bool false),.nil,(.int .i64 0)]),(.int .i64 1)]))))))) (by kernel_rfl))
theorem at_RecipC (n w:Int)(c0:(-9223372036854775808:Int)≤n∧n≤9223372036854775807)(c1:(-9223372036854775808:Int)≤w∧w≤9223372036854775807)(c2:0≤w∧w≤4096)(c3:1000000<n):Impl Tryz.prog Amb 26 [(.int .i64 n),(.int .i64 w)] (.tup [(.agg [(.bool false),.nil,(.int .i64 0),(.bool false),.nil,(.int .i64 0)]),(.int .i64 1)]):=by
 exact impl_ob hP hAmb Tryz.func26 (by kernel_rfl) (.lit<|.no<|.lits 3<|.no<|.lits 4<|.no<|.lits 4<|.yes<|.lits 3<|.ret)
  (cast_ob (aI True.intro (aI (iLt_mkF oO:(iLt w 0)=false) (aI (iGt_mkF oO:(iGt w 4096)=false) (aI (iLt_mkF oO:(iLt n 2)=false) (aI (iGt_mk oO:(iGt n 1000000)=true) ((vsub_refl (.tup [(.agg [(.bool false),.nil,(.int .i64 0),(.bool false),.nil,(.int .i64 0)]),(.int .i64 1)])))))))) (by kernel_rfl))
theorem l16_awake0 (t1 t2 t3 t4 a1 a2 a3 a4:Int)(qa:Rat)(c0:Impl Tryz.prog Amb 36 [(.int .i64 0),(.int .i64 0)] (wV t1 t2 t3 t4))(c1:Impl Tryz.prog Amb 15 [(wV t1 t2 t3 t4),(.int .i64 4)] (.tup [(wV a1 a2 a3 a4),(.int .i64 0)]))(c2:Impl Tryz.prog Amb 26 [(.int .i64 1),(.int .i64 5)] (.tup [(.agg [(.bool false),.nil,(.int .i64 0),(.bool false),.nil,(.int .i64 0)]),(.int .i64 1)]))(c3:Impl Tryz.prog Amb 29 [(.int .i64 0)] (.agg [(.bool (decide (qa.num<0))),(N qa.num.natAbs),(N qa.den)]))(c4:Impl Tryz.prog Amb 41 [(wV a1 a2 a3 a4),(.agg [(.bool (decide (qa.num<0))),(N qa.num.natAbs),(N qa.den)])] (.bool true)):Impl Tryz.prog Amb 11 [] (.bool true):=by
 exact impl_ob hP hAmb Tryz.func11 (by kernel_rfl) (.lit<|.call (wV t1 t2 t3 t4)<|.lit<|.call (.tup [(wV a1 a2 a3 a4),(.int .i64 0)])<|.lits 2<|.call (.tup [(.agg [(.bool false),.nil,(.int .i64 0),(.bool false),.nil,(.int .i64 0)]),(.int .i64 1)])<|.lits 6<|.call (.agg [(.bool (decide (qa.num<0))),(N qa.num.natAbs),(N qa.den)])<|.lits 2<|.call (.bool true)<|.lits 6<|.ret)
  (cast_ob (aI True.intro (aI (c0 ) (aI (c1 ) (aI (c2 ) (aI (c3 ) (aI (c4 ) ((vsub_refl (.bool true))))))))) (by kernel_rfl))
end Go.Proofs.YtkkbddkpggjgpaaGreatDoor

namespace Go.Proofs.YtkkbddkpggjgpaaGreatDoor
open Go.RowKit
set_option maxRecDepth 100000
set_option maxHeartbeats 4000000
theorem AT_00 (K:Nat):AT 0 K=0:=by
 rw[AT_p (show ¬ (0:Rat)<0 by grind),ATp_1 (show (0:Rat)≤1 by decide)]
 unfold AT0
 rw[if_pos (by grind),AL_zero]
theorem l16_00:mkM 0 0=0∧mkX 0 0=0:=⟨by kernel_rfl,by kernel_rfl⟩
theorem l16_awake:Impl Tryz.prog Amb 11 [] (.bool true):=by
 have y:=l16_of 0 0 oO oO
 rw[l16_00.1,l16_00.2] at y
 have z0:L (0:Int).natAbs=0:=L_zero
 obtain⟨l1,h1,l2,h2,hA,⟨e1,_,_⟩,⟨e2,_,_⟩,la,lb⟩:=at_AtanE 0 0 0 0 4 oO oO oO oO oO
 rw[dv_zero] at e1 e2
 have g:=gE_b
 have k1:l1≤0:=by
  obtain⟨N,e⟩:=e1
  have e:=(e N (Nat.le_refl _)).1
  rw[AT_00,Rat.zero_mul,Rat.zero_add] at e
  refine Decidable.byContradiction fun hn=>?_
  have:((1:Int):Rat)≤(l1:Rat):=Rat.intCast_le_intCast.2 oO
  rw[show ((1:Int):Rat)=1 from rfl] at this
  grind
 have k2:0≤h2:=by
  obtain⟨N,e⟩:=e2
  have e:=(e N (Nat.le_refl _)).2
  rw[AT_00,Rat.zero_mul] at e
  refine Decidable.byContradiction fun hn=>?_
  have:(h2:Rat)≤((-1:Int):Rat):=Rat.intCast_le_intCast.2 oO
  rw[show ((-1:Int):Rat)=-1 from rfl] at this
  grind
 have hH:=g_has l1 h2 0 4 oO oO oO oO oO oO
 exact l16_awake0 _ _ _ _ _ _ _ _ _ y hA (at_RecipB 1 5 oO oO oO oO) (r07_Of 0 oO) hH
theorem at_L8 {x w:Int}(hw:0≤w∧w≤200)(h1:1000*x≤1571*2^w.toNat+5000)(h2:-(1571*2^w.toNat+5000)≤1000*x):L x.natAbs≤8:=by
 have e:((2^(w.toNat+3):Nat):Int)=2^w.toNat*8:=by rw[← pow_cast,Int.pow_add];rfl
 have:=two_pos w.toNat
 exact L_pow2 (n:=w.toNat+3) oO oO
end Go.Proofs.YtkkbddkpggjgpaaGreatDoor

namespace Go.Proofs.YtkkbddkpggjgpaaGreatDoor
theorem fl_U {p m:Nat}{X:Rat}(hm:0<m)(h1:((p:Int):Rat)≤X)(h2:X<((p:Int):Rat)+1):(((p / m:Nat):Int):Rat)*((m:Int):Rat)≤X∧X<((((p / m:Nat):Int):Rat)+1)*((m:Int):Rat):=by
 have a:=Nat.div_mul_le_self p m
 have b:p+1≤(p / m+1)*m:=by
  have:=Nat.lt_div_mul_add (a:=p) hm
  rw[Nat.add_mul,Nat.one_mul];omega
 have a:=Rat.intCast_le_intCast.2 (Int.ofNat_le.2 a)
 have b:=Rat.intCast_le_intCast.2 (Int.ofNat_le.2 b)
 rw[Int.natCast_mul,Rat.intCast_mul] at a
 rw[Int.natCast_mul,Rat.intCast_mul,Int.natCast_add,Int.natCast_add,Rat.intCast_add,Rat.intCast_add,Int.natCast_one,show ((1:Int):Rat)=1 from rfl] at b
 constructor<;>grind
theorem tA_mul (z:Rat)(j:Nat):tA z j*(odn j:Rat)=z^(2*j+1):=by
 have n0:(0:Rat)<(odn j:Rat):=Rat.intCast_pos.2 (odn_pos j)
 exact Rat.div_mul_cancel (by grind)
theorem arc_E {n s:Int}{T:Int × Int}{z S:Rat}(hn:2≤n)(hz:z*(n:Rat)=1)(z0:0<z):∀ (m:Nat) (f k:Int) (p:Nat) (a:Int) (j:Nat),f.toNat=m→k=(j:Int)→ArcInv n true s T f k p a→((p:Int):Rat)≤z^(2*j+1)*S→z^(2*j+1)*S<((p:Int):Rat)+1 →
  -((j:Int):Rat)≤(a:Rat)-AL z j*S→(a:Rat)-AL z j*S≤((j:Int):Rat)→∃ j':Nat,T.1=(j':Int)∧(-((j':Int):Rat)≤(T.2:Rat)-AL z j'*S∧(T.2:Rat)-AL z j'*S≤((j':Int):Rat))∧z^(2*j'+1)*S<1
 | m,f,k,p,a,j,hm,hk,h,h1,h2,h3,h4=>by
  by_cases hp:p=0
  ·obtain⟨e1,e2⟩:=arc_end h hp
   subst hp
   refine⟨j,by rw[← e1,hk],⟨by rw[← e2];exact h3,by rw[← e2];exact h4⟩,?_⟩
   have c:(((0:Nat):Int):Rat)=0:=rfl
   rw[c,Rat.zero_add] at h2
   exact h2
  ·have hf:=arc_f h hp
   cases m with
   | zero=>omega
   | succ m =>
    have nx:=arc_next hn h hp (b:=(true && decide (k%2=1))) rfl
    have nN:((n.toNat:Nat):Int)=n:=by omega
    have u1:=fl_U (m:=n.toNat) (by omega) h1 h2
    rw[nN] at u1
    have v1:(((p / n.toNat:Nat):Int):Rat)≤z^(2*j+1)*S*z∧z^(2*j+1)*S*z<(((p / n.toNat:Nat):Int):Rat)+1:=by
     have m1:=Rat.mul_le_mul_of_nonneg_right u1.1 (Rat.le_of_lt z0)
     have m2:=Rat.mul_lt_mul_of_pos_right u1.2 z0
     have e1:(((p / n.toNat:Nat):Int):Rat)*(n:Rat)*z=(((p / n.toNat:Nat):Int):Rat):=by rw[Rat.mul_assoc,Rat.mul_comm (n:Rat),hz,Rat.mul_one]
     have e2:((((p / n.toNat:Nat):Int):Rat)+1)*(n:Rat)*z=(((p / n.toNat:Nat):Int):Rat)+1:=by rw[Rat.mul_assoc,Rat.mul_comm (n:Rat),hz,Rat.mul_one]
     rw[e1] at m1
     rw[e2] at m2
     exact⟨m1,m2⟩
    have u2:=fl_U (m:=n.toNat) (by omega) v1.1 v1.2
    rw[nN] at u2
    have v2:(((p / n.toNat / n.toNat:Nat):Int):Rat)≤z^(2*(j+1)+1)*S∧z^(2*(j+1)+1)*S<(((p / n.toNat / n.toNat:Nat):Int):Rat)+1:=by
     have m1:=Rat.mul_le_mul_of_nonneg_right u2.1 (Rat.le_of_lt z0)
     have m2:=Rat.mul_lt_mul_of_pos_right u2.2 z0
     have e1:(((p / n.toNat / n.toNat:Nat):Int):Rat)*(n:Rat)*z=(((p / n.toNat / n.toNat:Nat):Int):Rat):=by rw[Rat.mul_assoc,Rat.mul_comm (n:Rat),hz,Rat.mul_one]
     have e2:((((p / n.toNat / n.toNat:Nat):Int):Rat)+1)*(n:Rat)*z=(((p / n.toNat / n.toNat:Nat):Int):Rat)+1:=by rw[Rat.mul_assoc,Rat.mul_comm (n:Rat),hz,Rat.mul_one]
     rw[e1] at m1
     rw[e2] at m2
     have e3:z^(2*(j+1)+1)*S=z^(2*j+1)*S*z*z:=by rw[odd_succ];grind
     rw[e3]
     exact⟨m1,m2⟩
    have od:((2*k+1).toNat:Int)=odn j:=by unfold odn;omega
    have u3:=fl_U (m:=(2*k+1).toNat) (by omega) h1 h2
    rw[od] at u3
    have n0:(0:Rat)<(odn j:Rat):=Rat.intCast_pos.2 (odn_pos j)
    have tm:tA z j*S*(odn j:Rat)=z^(2*j+1)*S:=by rw[← tA_mul];grind
    rw[← tm] at u3
    have w1:=Rat.le_of_mul_le_mul_right u3.1 n0
    have w2:=Rat.lt_of_mul_lt_mul_right u3.2 (Rat.le_of_lt n0)
    have eA:AL z (j+1)*S=AL z j*S+sg j*(tA z j*S):=by
     show (AL z j+sg j*tA z j)*S=_
     grind
    have cj:(((j+1:Nat):Int):Rat)=((j:Int):Rat)+1:=by rw[Int.natCast_add,Rat.intCast_add];rfl
    have st:-(((j:Int):Rat)+1)≤((a+sgn (true && decide (k%2=1)) (p / (2*k+1).toNat):Int):Rat)-AL z (j+1)*S∧((a+sgn (true && decide (k%2=1)) (p / (2*k+1).toNat):Int):Rat)-AL z (j+1)*S≤((j:Int):Rat)+1:=by
     rw[eA,Rat.intCast_add]
     generalize p / (2*k+1).toNat=t at *
     generalize tA z j*S=y at *
     by_cases q:j%2=0
     ·have s1:sg j=1:=by unfold sg;rw[if_pos q]
      rw[decide_eq_false (show ¬ k%2=1 by omega),s1]
      show -(((j:Int):Rat)+1)≤(a:Rat)+((t:Int):Rat)-_∧(a:Rat)+((t:Int):Rat)-_≤_
      constructor<;>grind
     ·have s1:sg j=-1:=by unfold sg;rw[if_neg q]
      rw[decide_eq_true (show k%2=1 by omega),s1]
      show -(((j:Int):Rat)+1)≤(a:Rat)+((-(t:Int):Int):Rat)-_∧(a:Rat)+((-(t:Int):Int):Rat)-_≤_
      rw[Rat.intCast_neg]
      constructor<;>grind
    exact arc_E hn hz z0 m (f-1) (k+1) _ _ (j+1) (by omega) (by omega) nx v2.1 v2.2 (by rw[cj];exact st.1) (by rw[cj];exact st.2)
theorem arc_enc {n s:Int}{z:Rat}(hn:2≤n)(hs:0≤s)(hz:z*(n:Rat)=1)(z0:0<z)(z1:z≤1 / 2):∃ N,∀ K,N≤K→(((arcT n true s).2-3*((arcT n true s).1+2):Int):Rat)≤AL z K*((2^s.toNat:Int):Rat)∧AL z K*((2^s.toNat:Int):Rat)≤(((arcT n true s).2+3*((arcT n true s).1+2):Int):Rat):=by
 have h:=arc_init (n:=n) (g:=true) (s:=s) hs
 have T0:(0:Rat)<((2^s.toNat:Int):Rat):=Rat.intCast_pos.2 (two_pos _)
 have nN:((n.toNat:Nat):Int)=n:=by omega
 have c:(((1*2^s.toNat:Nat):Int):Rat)=((2^s.toNat:Int):Rat):=by rw[Nat.one_mul,pow_cast]
 have u:=fl_U (p:=1*2^s.toNat) (m:=n.toNat) (X:=((2^s.toNat:Int):Rat)) (by omega) (by rw[c];exact Rat.le_refl) (by rw[c];grind)
 rw[nN] at u
 have m1:=Rat.mul_le_mul_of_nonneg_right u.1 (Rat.le_of_lt z0)
 have m2:=Rat.mul_lt_mul_of_pos_right u.2 z0
 rw[Rat.mul_assoc,Rat.mul_comm (n:Rat),hz,Rat.mul_one] at m1
 rw[Rat.mul_assoc,Rat.mul_comm (n:Rat),hz,Rat.mul_one] at m2
 have zp:z^(2*0+1)=z:=by rw[Rat.pow_succ,Rat.pow_zero,Rat.one_mul]
 have a0:AL z 0=0:=rfl
 obtain⟨j,e1,e2,e3⟩:=arc_E (S:=((2^s.toNat:Int):Rat)) hn hz z0 _ _ 0 _ 0 0 rfl rfl h (by rw[zp,Rat.mul_comm];exact m1) (by rw[zp,Rat.mul_comm];exact m2) (by rw[a0];show -(0:Rat)≤0-0*_;grind) (by rw[a0];show (0:Rat)-0*_≤0;grind)
 refine⟨j,fun K hK=>?_⟩
 have nr:=AL_near (Rat.le_of_lt z0) (by grind) hK
 have t:=(tA_nn (Rat.le_of_lt z0) j).2
 have t2:=Rat.mul_le_mul_of_nonneg_right t (Rat.le_of_lt T0)
 have k1:=Rat.mul_le_mul_of_nonneg_right nr.1 (Rat.le_of_lt T0)
 have k2:=Rat.mul_le_mul_of_nonneg_right nr.2 (Rat.le_of_lt T0)
 have j0:(0:Rat)≤((j:Int):Rat):=Rat.intCast_nonneg.2 (Int.natCast_nonneg _)
 rw[e1,Rat.intCast_sub,Rat.intCast_add,Rat.intCast_mul,Rat.intCast_add,show ((3:Int):Rat)=3 from rfl,show ((2:Int):Rat)=2 from rfl]
 constructor<;>grind
theorem ata_E {n F:Int}{T:Int × Int}{A:Int}{z S:Rat}(hn:2≤n)(hz:z*(n:Rat)=1):∀ (m:Nat) (f k lo hi a b:Int) (j:Nat),f.toNat=m→k=(j:Int)→AtInv n F T f k lo hi a b A→(lo:Rat)≤z^(2*j+1)*S→z^(2*j+1)*S≤(hi:Rat)→(a:Rat)≤AL z j*S→AL z j*S≤(b:Rat) →
  ∃ j':Nat,((T.1:Rat)≤AL z j'*S∧AL z j'*S≤(T.2:Rat))∧z^(2*j'+1)*S≤1
 | m,f,k,lo,hi,a,b,j,hm,hk,h,h1,h2,h3,h4=>by
  by_cases ht:lo.natAbs≤1∧hi.natAbs≤1
  ·obtain⟨e1,e2⟩:=at_end h ht
   refine⟨j,⟨by rw[← e1];exact h3,by rw[← e2];exact h4⟩,Rat.le_trans h2 ?_⟩
   have:(hi:Rat)≤((1:Int):Rat):=Rat.intCast_le_intCast.2 (by omega)
   exact this
  ·have hf:=pow_tiny h.1 h.2.2.2.2.1 h.2.2.2.2.2.1 ht
   cases m with
   | zero=>omega
   | succ m =>
    have n0:(0:Rat)<(n:Rat):=Rat.intCast_pos.2 (by omega)
    have dz:∀ y:Rat,y / (n:Rat)=y*z:=fun y=>by
     have e:=Rat.div_mul_cancel (a:=y) (b:=(n:Rat)) (by grind)
     have:y / (n:Rat)=y / (n:Rat)*(z*(n:Rat)):=by rw[hz,Rat.mul_one]
     rw[this]
     have:y / (n:Rat)*(z*(n:Rat))=y / (n:Rat)*(n:Rat)*z:=by grind
     rw[this,e]
    have o1:=ov_in (n:=n) (by omega) h1 h2
    have o2:=ov_in (n:=n) (by omega) o1.1 o1.2
    rw[dz,dz] at o2
    have e3:z^(2*(j+1)+1)*S=z^(2*j+1)*S*z*z:=by rw[odd_succ];grind
    rw[← e3] at o2
    have o3:=ov_in (n:=odn j) (odn_pos j) h1 h2
    have n1:(0:Rat)<(odn j:Rat):=Rat.intCast_pos.2 (odn_pos j)
    have e4:z^(2*j+1)*S / (odn j:Rat)=tA z j*S:=by unfold tA;rw[Rat.div_def,Rat.div_def];grind
    rw[e4] at o3
    have od:2*k+1=odn j:=by unfold odn;omega
    have eA:AL z (j+1)*S=AL z j*S+sg j*(tA z j*S):=by
     show (AL z j+sg j*tA z j)*S=_
     grind
    have wr:wRem k 2=k%2:=Int.tmod_eq_emod_of_nonneg (by omega)
    by_cases hq:wRem k (2:Int)=1
    ·have s1:sg j=-1:=by unfold sg;rw[if_neg (by omega)]
     rw[s1] at eA
     refine ata_E hn hz m _ _ _ _ _ _ (j+1) (by omega) (by omega) (at_next hn h ht _ _ (.inl ⟨hq,rfl,rfl⟩)) o2.1 o2.2 ?_ ?_
     ·rw[od,Rat.intCast_add,Rat.intCast_neg,eA]
      have p:tA z j*S≤((-(Int.fdiv (-(max lo hi)) (odn j)):Int):Rat):=o3.2
      grind
     ·rw[od,Rat.intCast_add,Rat.intCast_neg,eA]
      have p:((Int.fdiv (min lo hi) (odn j):Int):Rat)≤tA z j*S:=o3.1
      grind
    ·have s1:sg j=1:=by unfold sg;rw[if_pos (by omega)]
     rw[s1] at eA
     refine ata_E hn hz m _ _ _ _ _ _ (j+1) (by omega) (by omega) (at_next hn h ht _ _ (.inr ⟨hq,rfl,rfl⟩)) o2.1 o2.2 ?_ ?_
     ·rw[od,Rat.intCast_add,eA]
      have p:((Int.fdiv (min lo hi) (odn j):Int):Rat)≤tA z j*S:=o3.1
      grind
     ·rw[od,Rat.intCast_add,eA]
      have p:tA z j*S≤((-(Int.fdiv (-(max lo hi)) (odn j)):Int):Rat):=o3.2
      grind
theorem ata_enc {n v:Int}{z:Rat}(hn:2≤n)(hv:0≤v)(hz:z*(n:Rat)=1)(z0:0<z)(z1:z≤1 / 2):∃ N,∀ K,N≤K→(((atanT n v).1-2:Int):Rat)≤AL z K*((2^v.toNat:Int):Rat)∧AL z K*((2^v.toNat:Int):Rat)≤(((atanT n v).2+2:Int):Rat):=by
 have h:=at_init (n:=n) (v:=v) hn hv
 have T0:(0:Rat)<((2^v.toNat:Int):Rat):=Rat.intCast_pos.2 (two_pos _)
 have n0:(0:Rat)<(n:Rat):=Rat.intCast_pos.2 (by omega)
 have e1:((1*2^v.toNat:Int):Rat)=((2^v.toNat:Int):Rat):=by rw[Int.one_mul]
 have o:=ov_in (a:=1*2^v.toNat) (b:=1*2^v.toNat) (n:=n) (y:=((2^v.toNat:Int):Rat)) (by omega) (by rw[e1];exact Rat.le_refl) (by rw[e1];exact Rat.le_refl)
 have dz:((2^v.toNat:Int):Rat) / (n:Rat)=z^(2*0+1)*((2^v.toNat:Int):Rat):=by
  have e:=Rat.div_mul_cancel (a:=((2^v.toNat:Int):Rat)) (b:=(n:Rat)) (by grind)
  have zp:z^(2*0+1)=z:=by rw[Rat.pow_succ,Rat.pow_zero,Rat.one_mul]
  rw[zp]
  have:((2^v.toNat:Int):Rat) / (n:Rat)=((2^v.toNat:Int):Rat) / (n:Rat)*(z*(n:Rat)):=by rw[hz,Rat.mul_one]
  rw[this]
  have:((2^v.toNat:Int):Rat) / (n:Rat)*(z*(n:Rat))=z*(((2^v.toNat:Int):Rat) / (n:Rat)*(n:Rat)):=by grind
  rw[this,e]
 rw[dz] at o
 have a0:AL z 0=0:=rfl
 have zz:((0*2^v.toNat:Int):Rat)=0:=by rw[Int.zero_mul];rfl
 obtain⟨j,e2,e3⟩:=ata_E (S:=((2^v.toNat:Int):Rat)) hn hz _ _ _ _ _ _ _ 0 rfl rfl h o.1 o.2 (by rw[a0,zz,Rat.zero_mul];exact Rat.le_refl) (by rw[a0,zz,Rat.zero_mul];exact Rat.le_refl)
 refine⟨j,fun K hK=>?_⟩
 have nr:=AL_near (Rat.le_of_lt z0) (by grind) hK
 have t:=(tA_nn (Rat.le_of_lt z0) j).2
 have t2:=Rat.mul_le_mul_of_nonneg_right t (Rat.le_of_lt T0)
 have k1:=Rat.mul_le_mul_of_nonneg_right nr.1 (Rat.le_of_lt T0)
 have k2:=Rat.mul_le_mul_of_nonneg_right nr.2 (Rat.le_of_lt T0)
 rw[Rat.intCast_sub,Rat.intCast_add,show ((2:Int):Rat)=2 from rfl]
 constructor<;>grind
theorem AT_AL {z:Rat}(h0:0≤z)(h1:z≤1 / 2)(K:Nat):AT z K=AL z K:=by
 rw[AT_p (show ¬ z<0 by grind),ATp_1 (show z≤1 by grind)]
 unfold AT0
 rw[if_pos h1]
end Go.Proofs.YtkkbddkpggjgpaaGreatDoor
