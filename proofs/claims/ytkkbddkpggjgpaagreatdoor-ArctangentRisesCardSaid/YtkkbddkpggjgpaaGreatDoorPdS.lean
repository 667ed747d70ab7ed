/-
  Lower layers: what functions of the program compute, and plain facts. Conditions: as the theorems say.
-/
import Derived.Test.YtkkbddkpggjgpaaGreatDoorChecked
import Derived.Test.YtkkbddkpggjgpaaGreatDoorRows
import Derived.WalkKit
import Derived.ProofKit
import Derived.OpenShut
import Derived.Deep.DeepHandedRow
import Derived.Lib.LaidTab
import Derived.Lib.SmallJoins
import Derived.ChangeSlices
import Derived.Carry
import Derived.Test.YtkkbddkpggjgpaaGreatDoorCards
import Derived.Test.YtkkbddkpggjgpaaGreatDoorTie
import Derived.Test.YtkkbddkpggjgpaaGreatDoorPdR
set_option linter.unusedVariables false
set_option linter.unusedSimpArgs false
namespace Go.Proofs.YtkkbddkpggjgpaaGreatDoor
open Go.RowKit
set_option maxRecDepth 100000
set_option maxHeartbeats 4000000
theorem sp_eqA {a b c d:Int}(h1:a=c)(h2:b=d):(V.agg [.bool (decide (a<0)),N a.natAbs,.bool (decide (b<0)),N b.natAbs])=.agg [.bool (decide (c<0)),N c.natAbs,.bool (decide (d<0)),N d.natAbs]:=by subst h1;subst h2;rfl
theorem ang_w {s1 s2 p N D:Int}(h:s2-s1≤N*(D+8))(hN:0≤N∧N≤8000)(hD:0≤D∧D+3≤65536*67108867)(hp:0≤p∧p<8):-(-((s2+p)*2^8) / 2^24)-(s1-p)*2^8 / 2^24≤1099511627776:=by
 have m:=Int.mul_le_mul (hN.2) (show D+8≤4398046900000 by omega) oO oO
 have w:=half_w (a:=(s1-p)*2^8) (b:=(s2+p)*2^8) (W:=549755813888) (n:=24) oO
 omega
theorem sc_inv {x:Int}{S n:Nat}:(x:Rat)*(((2^S:Int):Rat))⁻¹=((x*2^n:Int):Rat)*(((2^(S+n):Int):Rat))⁻¹:=by
 have P0:(0:Rat)<((2^S:Int):Rat):=Rat.intCast_pos.2 (two_pos S)
 have Q0:(0:Rat)<((2^(S+n):Int):Rat):=Rat.intCast_pos.2 (two_pos _)
 have ie:=inv_one P0
 have je:=inv_one Q0
 refine Rat.le_antisymm ?_ ?_
 all_goals
  refine Rat.le_of_mul_le_mul_right (c:=((2^(S+n):Int):Rat)) ?_ Q0
  have e:((2^(S+n):Int):Rat)=((2^S:Int):Rat)*((2^n:Int):Rat):=by rw[Int.pow_add,Rat.intCast_mul]
  have e1:(x:Rat)*(((2^S:Int):Rat))⁻¹*((2^(S+n):Int):Rat)=(x:Rat)*((2^n:Int):Rat):=by
   rw[e]
   have:(x:Rat)*(((2^S:Int):Rat))⁻¹*(((2^S:Int):Rat)*((2^n:Int):Rat))=(x:Rat)*((2^n:Int):Rat)*((((2^S:Int):Rat))⁻¹*((2^S:Int):Rat)):=by grind
   rw[this,ie,Rat.mul_one]
  have e2:((x*2^n:Int):Rat)*(((2^(S+n):Int):Rat))⁻¹*((2^(S+n):Int):Rat)=(x:Rat)*((2^n:Int):Rat):=by rw[Rat.mul_assoc,je,Rat.mul_one,Rat.intCast_mul]
  rw[e1,e2]
  exact Rat.le_refl
theorem sq0_1 (T a b:Int):∀ j,sq0 a (fun j=>(aP T a b j).1) j=(aP T a b j).1∧sq0 b (fun j=>(aP T a b j).2) j=(aP T a b j).2
 | 0=>⟨rfl,rfl⟩
 | _+1=>⟨rfl,rfl⟩
theorem sqr_L {a s:Int}:L (sqLo a s).natAbs≤L a.natAbs+s.toNat / 32+1∧L (sqHi a s).natAbs≤L a.natAbs+s.toNat / 32+2:=by
 have m1:=L_abs_shl a s.toNat
 rw[abs_shl] at m1
 have r:=rt_L (a.natAbs*2^s.toNat)
 have z1:=L_lit 1 (by decide)
 have ad:=L_add (rt (a.natAbs*2^s.toNat)) 1
 unfold sqLo sqHi
 rw[Int.natAbs_natCast,Int.natAbs_natCast]
 refine⟨by omega,?_⟩
 split
 ·rw[Nat.add_zero];omega
 ·omega
theorem sq_T2 {t:Nat}{a b:Int}(h0:0≤a)(h1:a≤b)(h2:8*b≤9*2^t)(ht:t≤6000):L (a*a / 2^t).natAbs≤200∧L (-(-(b*b) / 2^t)).natAbs≤200:=by
 have P:=two_pos t
 have key:0≤a*a / 2^t∧a*a / 2^t≤8192*2^t∧0≤-(-(b*b) / 2^t)∧-(-(b*b) / 2^t)≤8192*2^t:=by
  generalize (2:Int)^t=T at *
  have aa:=Int.mul_nonneg h0 h0
  have bb:=Int.mul_nonneg (show 0≤b by omega) (show 0≤b by omega)
  have m1:=Int.mul_le_mul (show b≤2*T by omega) (show b≤2*T by omega) (show 0≤b by omega) oO
  have m0:=Int.mul_le_mul h1 h1 h0 (show 0≤b by omega)
  have e:2*T*(2*T)=4*T*T:=by grind
  have g0:a*a / T≤4*T:=Int.ediv_le_of_le_mul P oO
  have g1:-(b*b) / T≤0:=Int.ediv_le_of_le_mul P oO
  have g2:-(4*T)≤-(b*b) / T:=Int.le_ediv_of_mul_le P (by rw[Int.neg_mul];omega)
  have g3:=Int.ediv_nonneg aa (show 0≤T by omega)
  omega
 exact⟨L_T key.1 key.2.1 ht,L_T key.2.2.1 key.2.2.2 ht⟩
theorem fx_angE (x1 x2 sc:Int)(hs:24≤sc∧sc≤4600)(h0:0≤x1)(h1:x1≤x2)(hT:x2≤2^sc.toNat+1)(hw:x2-x1≤4) :
  ∃ r1 r2:Int,Impl Tryz.prog Amb 175 [(sV x1 x2),(.int .i64 sc)] (sV r1 r2)∧LoE (AT0 ((x1:Rat)*(((2^sc.toNat:Int):Rat))⁻¹)) sc.toNat r1∧HiE (AT0 ((x2:Rat)*(((2^sc.toNat:Int):Rat))⁻¹)) sc.toNat r2∧(r2-r1≤1099511627776∧L r1.natAbs≤210∧L r2.natAbs≤210):=by
 obtain⟨S,hS⟩:∃ S:Nat,(S:Int)=sc:=⟨sc.toNat,by omega⟩
 have hSn:sc.toNat=S:=by omega
 have tn:(sc+8+16).toNat=S+24:=by omega
 have PSp:=two_pos S
 have big:(16777216:Int)≤2^S:=by
  have p:=Int.ofNat_le.2 (Nat.pow_le_pow_right (n:=2) oO (show 24≤S by omega))
  rw[← pow_cast,← pow_cast] at p
  exact p
 have eT:(2:Int)^(S+24)=2^S*16777216:=Int.pow_add _ _ _
 have q1:8*(x2*16777216)≤9*2^(S+24):=by rw[hSn] at hT;omega
 have qa:0≤x1*16777216:=by omega
 have qb:x1*16777216≤x2*16777216:=by omega
 -- the halvings
 obtain⟨ha,hb,⟨a0,b0⟩,nx,hf,H8,W8,LIM⟩:=hv_ex (t:=sc+8+16) (S:=S) (n:=8) (c:=16) oO qa qb (by rw[tn];exact q1) (by rw[tn];omega) oO
 have t6:S+24≤6000:=by omega
 rw[show (4:Int)^8=65536 from rfl] at W8
 have h8:=H8.h2
 have lh:∀ i,L (ha i).natAbs≤200∧L (hb i).natAbs≤200:=fun i=>by
  have f:=hf i
  rw[tn] at f
  exact⟨L_T f.1 oO t6,L_T oO oO t6⟩
 have hO:=fx_One (sc+8+16) oO
 have lO:=L_pow1 (sc+8+16).toNat
 have hTw:=fx_Twice x1 x2 ((sc+8+16)-sc) (by
  have:L x1.natAbs≤200:=L_T h0 (by rw[hSn] at hT;omega) (show S≤6000 by omega)
  omega) (by
  have:L x2.natAbs≤200:=L_T oO (by rw[hSn] at hT;omega) (show S≤6000 by omega)
  omega) oO
 rw[show (sc+8+16-sc).toNat=24 by omega,show (2:Int)^24=16777216 from rfl] at hTw
 -- the squares under the roots
 have lm:∀ i,L (ha i*ha i / (2^(sc+8+16).toNat)).natAbs≤200∧L (-(-(hb i*hb i) / (2^(sc+8+16).toNat))).natAbs≤200:=fun i=>sq_T2 (hf i).1 (hf i).2.1 (hf i).2.2 oO
 have P:=two_pos (sc+8+16).toNat
 have nn:∀ i,0≤ha i*ha i / (2^(sc+8+16).toNat):=fun i=>Int.ediv_nonneg (Int.mul_nonneg (hf i).1 (hf i).1) oO
 have nm:∀ i,0≤-(-(hb i*hb i) / (2^(sc+8+16).toNat)):=fun i=>by
  have:=Int.mul_nonneg (show 0≤hb i by have:=hf i;omega) (show 0≤hb i by have:=hf i;omega)
  have:-(hb i*hb i) / (2^(sc+8+16).toNat)≤0:=Int.ediv_le_of_le_mul P oO
  omega
 have lp:∀ i,L (1*(2^(sc+8+16).toNat)+ha i*ha i / (2^(sc+8+16).toNat)).natAbs≤360∧L (1*(2^(sc+8+16).toNat)+-(-(hb i*hb i) / (2^(sc+8+16).toNat))).natAbs≤360:=fun i=>by
  have:=lm i
  have l1:=L_abs_add (1*(2^(sc+8+16).toNat)) (ha i*ha i / (2^(sc+8+16).toNat))
  have l2:=L_abs_add (1*(2^(sc+8+16).toNat)) (-(-(hb i*hb i) / (2^(sc+8+16).toNat)))
  omega
 -- the series
 obtain⟨N,hN,hs8,hl⟩:=aP_small (t:=(sc+8+16).toNat) H8
 have pf:=aP_facts H8
 have pb:=pt_bd H8
 have sb:=tyS_bdW pb
 have z1:=sq0_1 (2^(sc+8+16).toNat) (ha 8) (hb 8)
 have mN:=Int.mul_le_mul_of_nonneg_right (show (N:Int)+1≤8000 by omega) (Int.le_of_lt P)
 have lpp:∀ j,L (aP (2^(sc+8+16).toNat) (ha 8) (hb 8) j).1.natAbs≤200∧L (aP (2^(sc+8+16).toNat) (ha 8) (hb 8) j).2.natAbs≤200:=fun j=>by
  have a:=pf j
  have o:(aP (2^(sc+8+16).toNat) (ha 8) (hb 8) j).1≤(2^(sc+8+16).toNat):=by
   have q:=pt_bd H8 0
   have T0:(0:Rat)<(((2^(sc+8+16).toNat):Int):Rat):=Rat.intCast_pos.2 oO
   have eX:(ha 8:Rat)*((((2^(sc+8+16).toNat):Int):Rat))⁻¹*(((2^(sc+8+16).toNat):Int):Rat)=ha 8:=by rw[Rat.mul_assoc,inv_one T0,Rat.mul_one]
   have pe:=aP_enc (X:=(ha 8:Rat)*((((2^(sc+8+16).toNat):Int):Rat))⁻¹) H8 (by rw[eX];exact Rat.le_refl) (by rw[eX];exact Rat.intCast_le_intCast.2 H8.h2) j
   have:=Rat.intCast_le_intCast.1 (Rat.le_trans pe.1 pe.2)
   omega
  rw[tn] at *
  exact⟨L_T a.1 oO t6,L_T a.2.1 oO t6⟩
 have lpt:∀ j,L (sq0 (ha 8) (pt1 (2^(sc+8+16).toNat) (ha 8) (hb 8)) j).natAbs≤200∧L (sq0 (hb 8) (pt2 (2^(sc+8+16).toNat) (ha 8) (hb 8)) j).natAbs≤200:=fun j=>by
  have a:=pb j
  rw[tn] at *
  exact⟨L_T a.1 oO t6,L_T oO oO t6⟩
 have lts:∀ j,j≤N→L (sA1 (2^(sc+8+16).toNat) (ha 8) (hb 8) j).natAbs≤201∧L (sA2 (2^(sc+8+16).toNat) (ha 8) (hb 8) j).natAbs≤201:=fun j hj=>by
  have a:=(sb j).1
  have m:=Int.mul_le_mul_of_nonneg_right (show (j:Int)+1≤8000 by omega) (Int.le_of_lt P)
  have k:∀ {x:Int},-(((j:Int)+1)*(2^(sc+8+16).toNat))≤x→x≤((j:Int)+1)*(2^(sc+8+16).toNat)→L x.natAbs≤201:=by
   intro x g1 g2
   have:=L_T (x:=(x.natAbs:Int)) (t:=S+24) oO (by rw[tn] at *;omega) t6
   rw[Int.natAbs_natCast] at this
   omega
  unfold sA1 sA2
  exact⟨k a.1.1 a.1.2,k a.2.1 a.2.2⟩
 have lq1:=lm 8
 have lw:=lts N (Nat.le_refl _)
 have lw1:=L_abs_sub (sA1 (2^(sc+8+16).toNat) (ha 8) (hb 8) N) (aP (2^(sc+8+16).toNat) (ha 8) (hb 8) N).2
 have lw2:=L_abs_add (sA2 (2^(sc+8+16).toNat) (ha 8) (hb 8) N) (aP (2^(sc+8+16).toNat) (ha 8) (hb 8) N).2
 have lw3:=(lpp N).2
 have hWd:=fx_Wide (sA1 (2^(sc+8+16).toNat) (ha 8) (hb 8) N) (sA2 (2^(sc+8+16).toNat) (ha 8) (hb 8) N) (aP (2^(sc+8+16).toNat) (ha 8) (hb 8) N).2 oO oO oO
 have hT8:=fx_Twice (sA1 (2^(sc+8+16).toNat) (ha 8) (hb 8) N-(aP (2^(sc+8+16).toNat) (ha 8) (hb 8) N).2) (sA2 (2^(sc+8+16).toNat) (ha 8) (hb 8) N+(aP (2^(sc+8+16).toNat) (ha 8) (hb 8) N).2) 8 oO oO oO
 rw[show (8:Int).toNat=8 from rfl] at hT8
 have o1:=L_abs_shl (sA1 (2^(sc+8+16).toNat) (ha 8) (hb 8) N-(aP (2^(sc+8+16).toNat) (ha 8) (hb 8) N).2) 8
 have o2:=L_abs_shl (sA2 (2^(sc+8+16).toNat) (ha 8) (hb 8) N+(aP (2^(sc+8+16).toNat) (ha 8) (hb 8) N).2) 8
 have hHf:=fx_Half ((sA1 (2^(sc+8+16).toNat) (ha 8) (hb 8) N-(aP (2^(sc+8+16).toNat) (ha 8) (hb 8) N).2)*2^8) ((sA2 (2^(sc+8+16).toNat) (ha 8) (hb 8) N+(aP (2^(sc+8+16).toNat) (ha 8) (hb 8) N).2)*2^8) ((sc+8+16)-sc) oO oO oO
 rw[show (sc+8+16-sc).toNat=24 by omega] at hHf
 have o3:=L_abs_shr ((sA1 (2^(sc+8+16).toNat) (ha 8) (hb 8) N-(aP (2^(sc+8+16).toNat) (ha 8) (hb 8) N).2)*2^8) 24
 have o4:=L_abs_neg ((sA2 (2^(sc+8+16).toNat) (ha 8) (hb 8) N+(aP (2^(sc+8+16).toNat) (ha 8) (hb 8) N).2)*2^8)
 have o5:=L_abs_shr (-((sA2 (2^(sc+8+16).toNat) (ha 8) (hb 8) N+(aP (2^(sc+8+16).toNat) (ha 8) (hb 8) N).2)*2^8)) 24
 have o6:=L_abs_neg (-((sA2 (2^(sc+8+16).toNat) (ha 8) (hb 8) N+(aP (2^(sc+8+16).toNat) (ha 8) (hb 8) N).2)*2^8) / 2^24)
 have LM:=LIM N
 refine⟨_,_,fx_ang0 x1 x2 sc (1*(2^(sc+8+16).toNat)) (1*(2^(sc+8+16).toNat)) (ha 8*ha 8 / (2^(sc+8+16).toNat)) (-(-(hb 8*hb 8) / (2^(sc+8+16).toNat))) _ _ _ _ _ _ N ha hb (fun i=>ha i*ha i / (2^(sc+8+16).toNat)) (fun i=>-(-(hb i*hb i) / (2^(sc+8+16).toNat))) (fun i=>1*(2^(sc+8+16).toNat)+ha i*ha i / (2^(sc+8+16).toNat)) (fun i=>1*(2^(sc+8+16).toNat)+-(-(hb i*hb i) / (2^(sc+8+16).toNat)))
  (fun i=>sqLo (1*(2^(sc+8+16).toNat)+ha i*ha i / (2^(sc+8+16).toNat)) (sc+8+16)) (fun i=>sqHi (1*(2^(sc+8+16).toNat)+-(-(hb i*hb i) / (2^(sc+8+16).toNat))) (sc+8+16)) (fun i=>1*(2^(sc+8+16).toNat)+sqLo (1*(2^(sc+8+16).toNat)+ha i*ha i / (2^(sc+8+16).toNat)) (sc+8+16)) (fun i=>1*(2^(sc+8+16).toNat)+sqHi (1*(2^(sc+8+16).toNat)+-(-(hb i*hb i) / (2^(sc+8+16).toNat))) (sc+8+16))
  (fun j=>(aP (2^(sc+8+16).toNat) (ha 8) (hb 8) j).1) (fun j=>(aP (2^(sc+8+16).toNat) (ha 8) (hb 8) j).2) (pt1 (2^(sc+8+16).toNat) (ha 8) (hb 8)) (pt2 (2^(sc+8+16).toNat) (ha 8) (hb 8)) ?_ ?_ ?_ ?_ ?_ oO ?_ hO ?_ ?_ ?_ ?_ ?_ ?_ oO ?_ hT8 hHf,?_,?_,?_,?_,?_⟩
 ·intro i _
  have:=lh i
  exact fx_Mul (ha i) (hb i) (ha i) (hb i) (sc+8+16) oO oO oO oO oO
 ·intro i _
  have:=lm i
  exact fx_Add (1*(2^(sc+8+16).toNat)) (1*(2^(sc+8+16).toNat)) (ha i*ha i / (2^(sc+8+16).toNat)) (-(-(hb i*hb i) / (2^(sc+8+16).toNat))) oO oO oO oO
 ·intro i _
  have:=lp i
  exact fx_Sqrt (1*(2^(sc+8+16).toNat)+ha i*ha i / (2^(sc+8+16).toNat)) (1*(2^(sc+8+16).toNat)+-(-(hb i*hb i) / (2^(sc+8+16).toNat))) (sc+8+16) oO oO oO
 ·intro i _
  have:=lp i
  have r1:=(sqr_L (a:=1*(2^(sc+8+16).toNat)+ha i*ha i / (2^(sc+8+16).toNat)) (s:=sc+8+16)).1
  have r2:=(sqr_L (a:=1*(2^(sc+8+16).toNat)+-(-(hb i*hb i) / (2^(sc+8+16).toNat))) (s:=sc+8+16)).2
  exact fx_Add (1*(2^(sc+8+16).toNat)) (1*(2^(sc+8+16).toNat)) (sqLo (1*(2^(sc+8+16).toNat)+ha i*ha i / (2^(sc+8+16).toNat)) (sc+8+16)) (sqHi (1*(2^(sc+8+16).toNat)+-(-(hb i*hb i) / (2^(sc+8+16).toNat))) (sc+8+16)) oO oO oO oO
 ·intro i _
  have:=lp i
  have l:=lh i
  have r1:=(sqr_L (a:=1*(2^(sc+8+16).toNat)+ha i*ha i / (2^(sc+8+16).toNat)) (s:=sc+8+16)).1
  have r2:=(sqr_L (a:=1*(2^(sc+8+16).toNat)+-(-(hb i*hb i) / (2^(sc+8+16).toNat))) (s:=sc+8+16)).2
  have n1:=(sqLo_spec (a:=1*(2^(sc+8+16).toNat)+ha i*ha i / (2^(sc+8+16).toNat)) (s:=sc+8+16) (by have:=nn i;omega)).1
  have n2:=(sqHi_spec (b:=1*(2^(sc+8+16).toNat)+-(-(hb i*hb i) / (2^(sc+8+16).toNat))) (s:=sc+8+16) (by have:=nm i;omega)).1
  have a1:=L_abs_add (1*(2^(sc+8+16).toNat)) (sqLo (1*(2^(sc+8+16).toNat)+ha i*ha i / (2^(sc+8+16).toNat)) (sc+8+16))
  have a2:=L_abs_add (1*(2^(sc+8+16).toNat)) (sqHi (1*(2^(sc+8+16).toNat)+-(-(hb i*hb i) / (2^(sc+8+16).toNat))) (sc+8+16))
  exact impl_eq (sp_eqA (nx i).1.symm (nx i).2.symm) (fx_Div (ha i) (hb i) (1*(2^(sc+8+16).toNat)+sqLo (1*(2^(sc+8+16).toNat)+ha i*ha i / (2^(sc+8+16).toNat)) (sc+8+16)) (1*(2^(sc+8+16).toNat)+sqHi (1*(2^(sc+8+16).toNat)+-(-(hb i*hb i) / (2^(sc+8+16).toNat))) (sc+8+16)) (sc+8+16) oO oO oO oO oO oO oO)
 ·exact impl_eq (sp_eqA a0.symm b0.symm) hTw
 ·have:=lh 8
  exact fx_Mul (ha 8) (hb 8) (ha 8) (hb 8) (sc+8+16) oO oO oO oO oO
 ·intro j hj
  have l:=lpp j
  refine impl_eq (congrArg V.bool (decide_eq_decide.2 ?_)) (impl_arg (fun w S l h=>by rw[(z1 j).1,(z1 j).2] at h;exact h) (fx_Tiny (aP (2^(sc+8+16).toNat) (ha 8) (hb 8) j).1 (aP (2^(sc+8+16).toNat) (ha 8) (hb 8) j).2 oO))
  constructor
  ·intro hq
   refine Decidable.byContradiction fun hn=>hl j oO ?_
   omega
  ·intro hq
   rw[show j=N by omega]
   have:=(pf N).2.1
   omega
 ·intro j hj
  have l:=lpp j
  have m:=fx_Mul (aP (2^(sc+8+16).toNat) (ha 8) (hb 8) j).1 (aP (2^(sc+8+16).toNat) (ha 8) (hb 8) j).2 (ha 8*ha 8 / (2^(sc+8+16).toNat)) (-(-(hb 8*hb 8) / (2^(sc+8+16).toNat))) (sc+8+16) oO oO oO oO oO
  exact impl_arg (fun w S l h=>by rw[(z1 j).1,(z1 j).2] at h;exact h) m
 ·intro j k hj hk
  have l:=lpp (j+1)
  subst hk
  exact fx_Part (aP (2^(sc+8+16).toNat) (ha 8) (hb 8) (j+1)).1 (aP (2^(sc+8+16).toNat) (ha 8) (hb 8) (j+1)).2 (odn (j+1)) oO oO (by unfold odn;omega)
 ·intro j hj he
  have l:=lpt (j+1)
  have l2:=lts j oO
  exact impl_eq (sp_eqA (if_pos he).symm (if_pos he).symm) (fx_Sub (sA1 (2^(sc+8+16).toNat) (ha 8) (hb 8) j) (sA2 (2^(sc+8+16).toNat) (ha 8) (hb 8) j) (sq0 (ha 8) (pt1 (2^(sc+8+16).toNat) (ha 8) (hb 8)) (j+1)) (sq0 (hb 8) (pt2 (2^(sc+8+16).toNat) (ha 8) (hb 8)) (j+1)) oO oO oO oO)
 ·intro j hj he
  have l:=lpt (j+1)
  have l2:=lts j oO
  exact impl_eq (sp_eqA (if_neg oO).symm (if_neg oO).symm) (fx_Add (sA1 (2^(sc+8+16).toNat) (ha 8) (hb 8) j) (sA2 (2^(sc+8+16).toNat) (ha 8) (hb 8) j) (sq0 (ha 8) (pt1 (2^(sc+8+16).toNat) (ha 8) (hb 8)) (j+1)) (sq0 (hb 8) (pt2 (2^(sc+8+16).toNat) (ha 8) (hb 8)) (j+1)) oO oO oO oO)
 ·exact impl_arg (fun w S l h=>by rw[(z1 N).2] at h;exact h) hWd
 ·rw[hSn,sc_inv (n:=24),← tn]
  exact LM.1
 ·rw[hSn,sc_inv (n:=24),← tn]
  exact LM.2
 ·exact ang_w (sb N).2.2 oO oO (by have:=(pf N).2.1;omega)
 ·omega
 ·omega
end Go.Proofs.YtkkbddkpggjgpaaGreatDoor

namespace Go.Proofs.YtkkbddkpggjgpaaGreatDoor
theorem EnE.half {f:Nat→Rat}{t s n:Nat}{a b:Int}{g:Rat}(ht:t=s+n)(h:EnE f t a b (g*((2^t:Int):Rat))):EnE f s (a / 2^n) (-(-b / 2^n)) (g*((2^s:Int):Rat)):=by
 obtain⟨N,h⟩:=h
 refine⟨N,fun K hK=>?_⟩
 have q:=h K hK
 have e1:f K*((2^t:Int):Rat)+g*((2^t:Int):Rat)=(f K+g)*((2^t:Int):Rat):=by grind
 have P0:(0:Rat)<((2^n:Int):Rat):=Rat.intCast_pos.2 (two_pos n)
 have f1:=(fl_R (a:=a) (two_pos n)).1
 have f2:=(ce_R (a:=b) (two_pos n)).1
 have e:((2^t:Int):Rat)=((2^s:Int):Rat)*((2^n:Int):Rat):=by rw[ht,Int.pow_add,Rat.intCast_mul]
 rw[e] at q
 constructor
 ·refine Rat.le_of_mul_le_mul_right (c:=((2^n:Int):Rat)) ?_ P0
  have:=q.1
  grind
 ·refine Rat.le_of_mul_le_mul_right (c:=((2^n:Int):Rat)) ?_ P0
  have:=q.2
  grind
end Go.Proofs.YtkkbddkpggjgpaaGreatDoor

namespace Go.Proofs.YtkkbddkpggjgpaaGreatDoor
theorem en_of {f1 f2 h:Nat→Rat}{s:Nat}{y1 y2:Int}(l:LoE f1 s y1)(u:HiE f2 s y2)(q1:Lqe f1 h tq)(q2:Lqe h f2 tq):EnE h s y1 y2 (3*tq*((2^s:Int):Rat)):=by
 have T0:(0:Rat)<((2^s:Int):Rat):=Rat.intCast_pos.2 (two_pos s)
 have t0:=tq_pos
 have p:=Rat.mul_pos t0 T0
 obtain⟨N1,l⟩:=l _ p
 obtain⟨N2,u⟩:=u _ p
 obtain⟨N3,q1⟩:=q1 tq t0
 obtain⟨N4,q2⟩:=q2 tq t0
 refine⟨N1+N2+N3+N4,fun K hK=>?_⟩
 have l:=l K (by omega)
 have u:=u K (by omega)
 have q1:f1 K≤h K+tq+tq:=q1 K (by omega)
 have q2:h K≤f2 K+tq+tq:=q2 K (by omega)
 have m1:=Rat.mul_le_mul_of_nonneg_right q1 (Rat.le_of_lt T0)
 have m2:=Rat.mul_le_mul_of_nonneg_right q2 (Rat.le_of_lt T0)
 constructor<;>grind
theorem en_comp {f1 f2:Nat→Rat}{s:Nat}{a1 a2 h1 h2:Int}{X:Rat}(l:LoE f1 s a1)(u:HiE f2 s a2)(hX:¬ X≤1)(q1:Lq f1 (AT0 X⁻¹))(q2:Lq (AT0 X⁻¹) f2)(c1:(h1:Rat)≤cQ*((2^s:Int):Rat))(c2:cQ*((2^s:Int):Rat)≤(h2:Rat)) :
  EnE (ATp X) s (h1-a2) (h2-a1) (3*tq*((2^s:Int):Rat)):=by
 have T0:(0:Rat)<((2^s:Int):Rat):=Rat.intCast_pos.2 (two_pos s)
 have t0:=tq_pos
 have p:=Rat.mul_pos t0 T0
 obtain⟨N1,l⟩:=l _ p
 obtain⟨N2,u⟩:=u _ p
 obtain⟨N3,q1⟩:=q1 tq t0
 obtain⟨N4,q2⟩:=q2 tq t0
 refine⟨N1+N2+N3+N4,fun K hK=>?_⟩
 have l:=l K (by omega)
 have u:=u K (by omega)
 have q1:=q1 K (by omega)
 have q2:=q2 K (by omega)
 have m1:=Rat.mul_le_mul_of_nonneg_right q1 (Rat.le_of_lt T0)
 have m2:=Rat.mul_le_mul_of_nonneg_right q2 (Rat.le_of_lt T0)
 rw[ATp_2 hX,Rat.intCast_sub,Rat.intCast_sub]
 generalize AT0 X⁻¹ K=z at *
 constructor<;>grind
theorem EnE.congr {f h:Nat→Rat}{s:Nat}{a b:Int}{g:Rat}(e:EnE f s a b g)(q:∀ K,h K=f K):EnE h s a b g:=by
 have:h=f:=funext q
 rw[this];exact e
theorem EnE.ng {f:Nat→Rat}{t:Nat}{a b:Int}{x:Rat}(h:EnE f t a b x):EnE (fun K=>-(f K)) t (-b) (-a) x:=by
 obtain⟨N,h⟩:=h
 refine⟨N,fun K hK=>?_⟩
 have h:=h K hK
 rw[Rat.intCast_neg,Rat.intCast_neg]
 constructor<;>grind
theorem at_0_lq {x y:Rat}(h0:0≤x)(h:x≤y)(h1:y≤4 / 3):Lqe (AT0 x) (AT0 y) tq:=Lqe.of (AT0_le h0 h h1) (Rat.le_of_lt tq_pos)
theorem en_mid {s:Nat}{y1 y2:Int}{X u v:Rat}(l:LoE (AT0 u) s y1)(r:HiE (AT0 v) s y2)(u0:0≤u)(uX:u≤X)(u1:u≤1)(Xv:X≤v)(v1:v≤4 / 3):EnE (ATp X) s y1 y2 (3*tq*((2^s:Int):Rat)):=by
 by_cases h:X≤1
 ·exact (en_of l r (at_0_lq u0 uX (by grind)) (at_0_lq (by grind) Xv v1)).congr fun K=>ATp_1 h K
 ·exact en_of l r (comp_lo (by grind) u0 u1) (comp_hi (by grind) Xv v1)
theorem inv_span {T x1 x2 z1 z2:Int}(hT:0<T)(h1:T<x1)(h2:x1≤x2)(h3:x2≤x1+1)(e1:z1*x2≤T*T)(e2:T*T<z1*x2+x2)(e3:T*T≤z2*x1)(e4:z2*x1<T*T+x1) :
  0≤z1∧z1≤z2∧z2≤T∧z2-z1≤4:=by
 have TT:=Int.mul_pos hT hT
 have a0:0≤z1:=by
  refine Decidable.byContradiction fun hn=>?_
  have:=Int.mul_le_mul_of_nonneg_right (show z1≤-1 by omega) (show 0≤x2 by omega)
  omega
 have a1:z2≤T:=by
  refine Decidable.byContradiction fun hn=>?_
  have:=Int.mul_le_mul_of_nonneg_right (show T+1≤z2 by omega) (show 0≤x1 by omega)
  have:=Int.mul_le_mul_of_nonneg_left (show T+1≤x1 by omega) (show 0≤T by omega)
  rw[Int.add_mul] at *
  rw[Int.mul_add] at *
  omega
 have a2:z1≤z2:=by
  refine Decidable.byContradiction fun hn=>?_
  have m1:=Int.mul_le_mul_of_nonneg_right (show z2+1≤z1 by omega) (show 0≤x1 by omega)
  have m2:=Int.mul_le_mul_of_nonneg_left h2 a0
  rw[Int.add_mul] at m1
  omega
 refine⟨a0,a2,a1,Decidable.byContradiction fun hn=>?_⟩
 have m1:=Int.mul_le_mul_of_nonneg_right (show z1+5≤z2 by omega) (show 0≤x1 by omega)
 have m2:=Int.mul_le_mul_of_nonneg_left h3 a0
 rw[Int.add_mul] at m1
 rw[Int.mul_add] at m2
 omega
theorem inv_enc {T x z:Int}{X:Rat}(hT:0<T)(X1:1<X):((X*(T:Rat)≤(x:Rat)∧0≤z∧z*x≤T*T)→(z:Rat)*(T:Rat)⁻¹≤X⁻¹)∧(((x:Rat)≤X*(T:Rat)∧0≤z∧T*T≤z*x)→X⁻¹≤(z:Rat)*(T:Rat)⁻¹):=by
 have T0:(0:Rat)<(T:Rat):=Rat.intCast_pos.2 hT
 have i0:=Rat.inv_pos.2 T0
 have ie:=inv_one T0
 have X0:0<X:=by grind
 have j0:=Rat.inv_pos.2 X0
 have je:=inv_one X0
 have TX:=Rat.mul_pos T0 X0
 have e1:(z:Rat)*(T:Rat)⁻¹*((T:Rat)*X)=(z:Rat)*X:=by
  have:(z:Rat)*(T:Rat)⁻¹*((T:Rat)*X)=(z:Rat)*X*((T:Rat)⁻¹*(T:Rat)):=by grind
  rw[this,ie,Rat.mul_one]
 have e2:X⁻¹*((T:Rat)*X)=(T:Rat):=by
  have:X⁻¹*((T:Rat)*X)=(T:Rat)*(X⁻¹*X):=by grind
  rw[this,je,Rat.mul_one]
 constructor
 ·intro ⟨h1,h2,h3⟩
  have h3:=Rat.intCast_le_intCast.2 h3
  rw[Rat.intCast_mul,Rat.intCast_mul] at h3
  have m:=Rat.mul_le_mul_of_nonneg_left h1 (show (0:Rat)≤(z:Rat) from Rat.intCast_nonneg.2 h2)
  refine Rat.le_of_mul_le_mul_right (c:=(T:Rat)*X) ?_ TX
  rw[e1,e2]
  refine Rat.le_of_mul_le_mul_right (c:=(T:Rat)) ?_ T0
  grind
 ·intro ⟨h1,h2,h3⟩
  have h3:=Rat.intCast_le_intCast.2 h3
  rw[Rat.intCast_mul,Rat.intCast_mul] at h3
  have m:=Rat.mul_le_mul_of_nonneg_left h1 (show (0:Rat)≤(z:Rat) from Rat.intCast_nonneg.2 h2)
  refine Rat.le_of_mul_le_mul_right (c:=(T:Rat)*X) ?_ TX
  rw[e1,e2]
  refine Rat.le_of_mul_le_mul_right (c:=(T:Rat)) ?_ T0
  grind
theorem at_sc {x:Int}{T:Int}{X:Rat}(hT:0<T):((x:Rat)≤X*(T:Rat)→(x:Rat)*(T:Rat)⁻¹≤X)∧(X*(T:Rat)≤(x:Rat)→X≤(x:Rat)*(T:Rat)⁻¹):=by
 have T0:(0:Rat)<(T:Rat):=Rat.intCast_pos.2 hT
 have ie:=inv_one T0
 have e:(x:Rat)*(T:Rat)⁻¹*(T:Rat)=(x:Rat):=by rw[Rat.mul_assoc,ie,Rat.mul_one]
 exact⟨fun h=>Rat.le_of_mul_le_mul_right (by rw[e];exact h) T0,fun h=>Rat.le_of_mul_le_mul_right (by rw[e];exact h) T0⟩
end Go.Proofs.YtkkbddkpggjgpaaGreatDoor

namespace Go.Proofs.YtkkbddkpggjgpaaGreatDoor
open Go.RowKit
set_option maxRecDepth 100000
set_option maxHeartbeats 2000000
theorem pi_all:(List.range 400).all (fun t=>decide (piLo (t:Int)*2^(430-t)≤ptPi) && decide (ptPi≤piHi (t:Int)*2^(430-t)))=true:=by kernel_rfl
theorem cQ2:dv ptPi (-430)=cQ*2:=of_decide_eq_true (by kernel_rfl)
theorem pq_at {t:Nat}(ht:t<400):((piLo (t:Int):Int):Rat)≤cQ*((2^(t+1):Int):Rat)∧cQ*((2^(t+1):Int):Rat)≤((piHi (t:Int):Int):Rat):=by
 have h:=List.all_eq_true.1 pi_all t (List.mem_range.2 ht)
 simp only [Bool.and_eq_true,decide_eq_true_eq] at h
 have a:=(cl_sc (t:=t) oO).1 h.1
 have b:=(cl_sc (t:=t) oO).2 h.2
 have e:cQ*((2^(t+1):Int):Rat)=dv ptPi (-430)*((2^t:Int):Rat):=by
  rw[cQ2,Int.pow_succ,Rat.intCast_mul]
  show cQ*(((2^t:Int):Rat)*2)=_
  grind
 rw[e];exact⟨a,b⟩
end Go.Proofs.YtkkbddkpggjgpaaGreatDoor






namespace Go.Proofs.YtkkbddkpggjgpaaGreatDoor
open Go.RowKit
set_option maxRecDepth 100000
set_option maxHeartbeats 2000000
def gE:Rat:=dv 1 (-40)
theorem gE_b:0<gE∧gE*65536+gE<1:=⟨of_decide_eq_true (by kernel_rfl),of_decide_eq_true (by kernel_rfl)⟩
theorem pow_up {a b:Nat}(h:a≤b):((2^a:Int):Rat)≤((2^b:Int):Rat):=Rat.intCast_le_intCast.2 (by rw[pow_cast,pow_cast];exact Int.ofNat_le.2 (Nat.pow_le_pow_right oO h))
end Go.Proofs.YtkkbddkpggjgpaaGreatDoor

namespace Go.Proofs.YtkkbddkpggjgpaaGreatDoor
open Go.RowKit
set_option maxRecDepth 100000
set_option maxHeartbeats 2000000
theorem at_clo (m ee ss lo hi:Int)(c0:Impl Tryz.prog Amb 111 [(yV m ee),(.int .i64 ss)] (sV lo hi)):Impl Tryz.prog Amb 110 [(.int .i64 ss),(.pt [(V.bool (decide (m<0))),(N m.natAbs),(V.int .i64 ee)] 0)] (sV lo hi):=by
 exact impl_ob hP hAmb Tryz.func110 (by kernel_rfl) (.lits 2<|.call (sV lo hi)<|.lits 2<|.ret)
  (cast_ob (aI True.intro (aI (c0 ) ((vsub_refl (sV lo hi))))) (by kernel_rfl))
theorem at_value0 (m ee w lo hi:Int)(c0:Impl Tryz.prog Amb 78 [(.int .i64 w),(.clos 110 [(.pt [(V.bool (decide (m<0))),(N m.natAbs),(V.int .i64 ee)] 0)])] (sV lo hi)):Impl Tryz.prog Amb 48 [(yV m ee),(.int .i64 w)] (sV lo hi):=by
 exact impl_ob hP hAmb Tryz.func48 (by kernel_rfl) (.lit<|.call (sV lo hi)<|.lits 2<|.ret)
  (cast_ob (aI True.intro (aI (c0 ) ((vsub_refl (sV lo hi))))) (by kernel_rfl))
theorem at_intv (l1 h1 l2 h2 w a1 a2 b1 b2:Int)(c0:0≤w∧w≤4096)(c1:Impl Tryz.prog Amb 74 [(zV l1),(.int .i64 ((0:Int)-w))] (.tup [(yV a1 a2),(.int .i64 0)]))(c2:Impl Tryz.prog Amb 74 [(zV h2),(.int .i64 ((0:Int)-w))] (.tup [(yV b1 b2),(.int .i64 0)])):Impl Tryz.prog Amb 47 [(sV l1 h1),(sV l2 h2),(.int .i64 w)] (.tup [(wV a1 a2 b1 b2),(.int .i64 0)]):=by
 exact impl_ob hP hAmb Tryz.func47 (by kernel_rfl) (.lits 2<|.yes<|.lit<|.call (.tup [(yV a1 a2),(.int .i64 0)])<|.lits 3<|.yes<|.lit<|.call (.tup [(yV b1 b2),(.int .i64 0)])<|.lits 12<|.ret)
  (cast_ob (aI True.intro (aI (fits_i64 oS:(fits .i64 ((0:Int)-w))=true) (aI (c1 ) (aI (fits_i64 oS:(fits .i64 ((0:Int)-w))=true) (aI (c2 ) ((vsub_refl (.tup [(wV a1 a2 b1 b2),(.int .i64 0)])))))))) (by kernel_rfl))
theorem at_Atan0 (m e n f w l1 h1 l2 h2 a1 a2 b1 b2:Int)(c0:0≤w∧w≤4096)(c1:Impl Tryz.prog Amb 48 [(yV m e),(.int .i64 w)] (sV l1 h1))(c2:Impl Tryz.prog Amb 48 [(yV n f),(.int .i64 w)] (sV l2 h2))(c3:Impl Tryz.prog Amb 47 [(sV l1 h1),(sV l2 h2),(.int .i64 w)] (.tup [(wV a1 a2 b1 b2),(.int .i64 0)])):Impl Tryz.prog Amb 15 [(wV m e n f),(.int .i64 w)] (.tup [(wV a1 a2 b1 b2),(.int .i64 0)]):=by
 exact impl_ob hP hAmb Tryz.func15 (by kernel_rfl) (.lit<|.no<|.lits 3<|.no<|.lits 2<|.call (sV l1 h1)<|.lits 2<|.call (sV l2 h2)<|.lit<|.call (.tup [(wV a1 a2 b1 b2),(.int .i64 0)])<|.lits 2<|.ret)
  (cast_ob (aI True.intro (aI (iLt_mkF oS:(iLt w 0)=false) (aI (iGt_mkF oS:(iGt w 4096)=false) (aI (c1 ) (aI (c2 ) (aI (c3 ) ((vsub_refl (.tup [(wV a1 a2 b1 b2),(.int .i64 0)]))))))))) (by kernel_rfl))
theorem two_up {a b:Nat}(h:a≤b):(2:Int)^a≤2^b:=by
 have p:=Int.ofNat_le.2 (Nat.pow_le_pow_right (n:=2) oO h)
 rw[← pow_cast,← pow_cast] at p
 exact p
theorem fx_AtanM (m ee sc:Int)(hs:24≤sc∧sc≤360)(hm:L (m).natAbs≤100)(he:-5000≤ee∧ee≤5000) :
  ∃ y1 y2:Int,(∀ (neg:Bool),neg=decide (m<0)→Impl Tryz.prog Amb 111 [(yV m ee),(.int .i64 sc)] (sV ((if neg then -y2 else y1) / 2^24) (-(-(if neg then -y1 else y2) / 2^24))))∧EnE (ATp (dv (m.natAbs:Int) ee)) (sc+24).toNat y1 y2 (3*tq*((2^(sc+24).toNat:Int):Rat))∧y2-y1≤1099528404992∧L y1.natAbs≤420∧L y2.natAbs≤420:=by
 obtain⟨t,ht⟩:∃ t:Nat,(t:Int)=sc+24:=⟨(sc+24).toNat,by omega⟩
 have tn:(sc+24).toNat=t:=by omega
 have hNa:=int_Nat false m.natAbs oO
 rw[show sgn false m.natAbs=(m.natAbs:Int) from sgn_f _] at hNa
 have la:L ((m.natAbs:Int)).natAbs≤100:=by rw[Int.natAbs_natCast];exact hm
 have hOf:=fx_Of (m.natAbs:Int) ee (sc+24) oO oO oO
 have lf:=flr_LD (m.natAbs:Int) ee (sc+24)
 have X0:0≤dv (m.natAbs:Int) ee:=dv_ge0.2 (Int.natCast_nonneg _)
 generalize hX:dv (m.natAbs:Int) ee=X at *
 have sc1:=(flr_sc X t).1
 have sc2:=(cei_sc X t).1
 have fc:=(flr_cei1 X t)
 have hO:=fx_One (sc+24) oO
 rw[tn] at hO
 rw[ht] at sc1 sc2 fc
 have P:=two_pos t
 have PB:=two_up (show 48≤t by omega)
 rw[show (2:Int)^48=281474976710656 from rfl] at PB
 have x10:0≤flr X (sc+24):=le_flr.2 (by rw[dv_zero];exact X0)
 have lO:=L_pow1 t
 generalize flr X (sc+24)=x1 at *
 generalize cei X (sc+24)=x2 at *
 have s1:=(at_sc (x:=x1) (X:=X) P).1 sc1
 have s2:=(at_sc (x:=x2) (X:=X) P).2 sc2
 have T0:(0:Rat)<((2^t:Int):Rat):=Rat.intCast_pos.2 P
 have i0:=Rat.inv_pos.2 T0
 have ie:=inv_one T0
 have one:(((2^t:Int)):Rat)*(((2^t:Int):Rat))⁻¹=1:=by rw[Rat.mul_comm];exact ie
 have n1:0≤(x1:Rat)*(((2^t:Int):Rat))⁻¹:=Rat.mul_nonneg (Rat.intCast_nonneg.2 x10) (Rat.le_of_lt i0)
 have small:∀ {x:Int},x≤2^t+1→(x:Rat)*(((2^t:Int):Rat))⁻¹≤4 / 3:=by
  intro x hx
  have h:=Rat.intCast_le_intCast.2 (show 3*x≤4*2^t by omega)
  rw[Rat.intCast_mul,Rat.intCast_mul,show ((3:Int):Rat)=3 from rfl,show ((4:Int):Rat)=4 from rfl] at h
  have m:=Rat.mul_le_mul_of_nonneg_right h (Rat.le_of_lt i0)
  grind
 have le1:∀ {x:Int},x≤2^t→(x:Rat)*(((2^t:Int):Rat))⁻¹≤1:=by
  intro x hx
  have m:=Rat.mul_le_mul_of_nonneg_right (Rat.intCast_le_intCast.2 hx) (Rat.le_of_lt i0)
  rw[one] at m;exact m
 have w0:∀ {r1 r2:Int},r2-r1≤1099511627776→r2-r1≤1099528404992:=fun h=>by omega
 by_cases c1:x1≤1*2^t
 ·by_cases c2:x2≤1*2^t
  ·-- up to 1
   obtain⟨r1,r2,hA,l,u,w,lr1,lr2⟩:=fx_angE x1 x2 (sc+24) oO x10 oO (by rw[tn];omega) oO
   rw[tn] at l u
   refine⟨r1,r2,fun neg hn=>?_,?_,w0 w,by omega,by omega⟩
   ·cases neg with
    | true=>exact fx_AtanAN m ee sc (m.natAbs:Int) x1 x2 (1*2^t) (1*2^t) 0 0 0 0 0 0 0 0 r1 r2 oO (of_decide_eq_true hn.symm) c1 c2 oO oO oO oO oO oO hNa hOf hO hA
    | false=>exact fx_AtanAP m ee sc (m.natAbs:Int) x1 x2 (1*2^t) (1*2^t) 0 0 0 0 0 0 0 0 r1 r2 oO (by have:=of_decide_eq_false hn.symm;omega) c1 c2 oO oO oO oO oO oO hNa hOf hO hA
   ·rw[tn]
    exact en_mid l u n1 s1 (le1 oO) s2 (small oO)
  ·obtain⟨r1,r2,hA,l,u,w,lr1,lr2⟩:=fx_angE x1 (1*2^t+1) (sc+24) oO x10 oO (by rw[tn];omega) oO
   rw[tn] at l u
   refine⟨r1,r2,fun neg hn=>?_,?_,w0 w,by omega,by omega⟩
   ·cases neg with
    | true=>exact fx_AtanCN m ee sc (m.natAbs:Int) x1 x2 (1*2^t) (1*2^t) 0 0 0 0 0 0 0 0 r1 r2 oO (of_decide_eq_true hn.symm) c1 oO oO oO oO oO oO oO hNa hOf hO hA
    | false=>exact fx_AtanCP m ee sc (m.natAbs:Int) x1 x2 (1*2^t) (1*2^t) 0 0 0 0 0 0 0 0 r1 r2 oO (by have:=of_decide_eq_false hn.symm;omega) c1 oO oO oO oO oO oO oO hNa hOf hO hA
   ·rw[tn]
    refine en_mid l u n1 s1 (le1 oO) ?_ (small oO)
    refine Rat.le_trans s2 ?_
    exact Rat.mul_le_mul_of_nonneg_right (Rat.intCast_le_intCast.2 oO) (Rat.le_of_lt i0)
 ·-- beyond 1
  have cl:=pq_at (t:=t+2) oO
  have tt:((t+2:Nat):Int)=sc+24+2:=by omega
  rw[tt] at cl
  have b:=pi_ok (s:=sc+24+2) oO
  have bw:piHi (sc+24+2)-piLo (sc+24+2)<16777216:=by
   have:=nbits_lt (piHi (sc+24+2)-piLo (sc+24+2)).natAbs
   have p:=Nat.pow_le_pow_right (n:=2) oO b.2.2
   omega
  have hP:Impl Tryz.prog Amb 104 [(.int .i64 ((sc+24)+2))] (sV (piLo (sc+24+2)) (piHi (sc+24+2))):=fx_Pi (sc+24+2) oO
  generalize piLo (sc+24+2)=p1 at *
  generalize piHi (sc+24+2)=p2 at *
  have hH:=fx_Half p1 p2 3 oO oO oO
  have he1:=half_enc (a:=p1) (b:=p2) (X:=cQ) (t:=t+2+1) (s:=t) (n:=3) oO cl.1 cl.2
  have hw1:=half_w (a:=p1) (b:=p2) (W:=2097152) (n:=3) oO
  have o1:=L_abs_shr p1 3
  have o2:=L_abs_neg p2
  have o3:=L_abs_shr (-p2) 3
  have o4:=L_abs_neg (-p2 / 2^3)
  rw[show (3:Int).toNat=3 from rfl] at hH
  generalize p1 / 2^3=h1 at *
  generalize -(-p2 / 2^3)=h2 at *
  -- the quotient
  have lx:L x1.natAbs≤1000∧L x2.natAbs≤1000:=by omega
  have hD:=fx_Div (1*2^t) (1*2^t) x1 x2 (sc+24) oO oO oO oO oO oO oO
  rw[tn,Int.fdiv_eq_ediv_of_nonneg _ (show 0≤x2 by omega),Int.fdiv_eq_ediv_of_nonneg _ (show 0≤x1 by omega)] at hD
  have q1:=Int.ediv_mul_le (1*2^t*2^t) (show x2≠0 by omega)
  have q2:=Int.lt_ediv_add_one_mul_self (1*2^t*2^t) (show 0<x2 by omega)
  have q3:=Int.ediv_mul_le (-(1*2^t*2^t)) (show x1≠0 by omega)
  have q4:=Int.lt_ediv_add_one_mul_self (-(1*2^t*2^t)) (show 0<x1 by omega)
  generalize 1*2^t*2^t / x2=z1 at *
  generalize -(1*2^t*2^t) / x1=z2 at *
  rw[Int.add_mul] at q2 q4
  have e1:(1:Int)*2^t*2^t=2^t*2^t:=by rw[Int.one_mul]
  rw[e1] at q1 q2 q3 q4
  have nz:-z2*x1=-(z2*x1):=Int.neg_mul _ _
  have zf:=inv_span (T:=2^t) (x1:=x1) (x2:=x2) (z1:=z1) (z2:=-z2) P oO oO oO q1 oO oO oO
  obtain⟨a1,a2,hA,l,u,w,lr1,lr2⟩:=fx_angE z1 (-z2) (sc+24) oO zf.1 zf.2.1 (by rw[tn];omega) oO
  rw[tn] at l u
  have X1:1<X:=by
   have h:=Rat.intCast_lt_intCast.2 (show (2:Int)^t<x1 by omega)
   refine Rat.lt_of_mul_lt_mul_right (c:=((2^t:Int):Rat)) ?_ (Rat.le_of_lt T0)
   rw[Rat.one_mul];grind
  have v1:=(inv_enc (z:=z1) (x:=x2) P X1).1 ⟨sc2,zf.1,q1⟩
  have v2:=(inv_enc (z:=-z2) (x:=x1) P X1).2 ⟨sc1,by omega,by omega⟩
  have iv:=inv_le1 (x:=X) (Rat.le_of_lt X1)
  have hS:=fx_Sub h1 h2 a1 a2 oO oO oO oO
  have y1:=L_abs_sub h1 a2
  have y2:=L_abs_sub h2 a1
  have n2:0≤(z1:Rat)*(((2^t:Int):Rat))⁻¹:=Rat.mul_nonneg (Rat.intCast_nonneg.2 zf.1) (Rat.le_of_lt i0)
  refine⟨h1-a2,h2-a1,fun neg hn=>?_,?_,by omega,by omega,by omega⟩
  ·have hS:Impl Tryz.prog Amb 164 [(sV h1 h2),(sV a1 a2)] (sV (h1-a2) (h2-a1)):=impl_eq (sp_eqA oO oO) hS
   cases neg with
   | true=>exact fx_AtanBN m ee sc (m.natAbs:Int) x1 x2 (1*2^t) (1*2^t) p1 p2 h1 h2 z1 (-z2) a1 a2 (h1-a2) (h2-a1) oO (of_decide_eq_true hn.symm) oO oO oO oO oO oO oO oO hNa hOf hO hP hH hD hA hS
   | false=>exact fx_AtanBP m ee sc (m.natAbs:Int) x1 x2 (1*2^t) (1*2^t) p1 p2 h1 h2 z1 (-z2) a1 a2 (h1-a2) (h2-a1) oO (by have:=of_decide_eq_false hn.symm;omega) oO oO oO oO oO oO oO oO hNa hOf hO hP hH hD hA hS
  ·rw[tn]
   exact en_comp l u (by grind) (AT0_le n2 v1 (by grind)) (AT0_le (by grind) v2 (small oO)) he1.1 he1.2
theorem dv_neg_lt {m e:Int}(h:m<0):dv m e<0:=by
 have:=(dv_pos (m:=-m) (e:=e)).2 oO
 rw[dv_neg] at this;grind
theorem dv_lt_neg {m e:Int}(h:dv m e<0):m<0:=by
 refine Decidable.byContradiction fun hn=>?_
 have:=(dv_ge0 (m:=m) (e:=e)).2 oO
 grind
theorem fx_AtanE (m ee sc:Int)(hs:24≤sc∧sc≤360)(hm:L (m).natAbs≤100)(he:-5000≤ee∧ee≤5000) :
  ∃ y1 y2:Int,Impl Tryz.prog Amb 111 [(yV m ee),(.int .i64 sc)] (sV y1 y2)∧EnE (AT (dv m ee)) sc.toNat y1 y2 (3*tq*((2^sc.toNat:Int):Rat))∧y2-y1≤65540∧L y1.natAbs≤430∧L y2.natAbs≤430:=by
 obtain⟨y1,y2,hC,hE,hw,l1,l2⟩:=fx_AtanM m ee sc hs hm he
 have n1:=L_abs_neg y1
 have n2:=L_abs_neg y2
 have key:∀ {a b:Int},EnE (AT (dv m ee)) (sc+24).toNat a b (3*tq*((2^(sc+24).toNat:Int):Rat))→b-a≤1099528404992→L a.natAbs≤420→L b.natAbs≤420→EnE (AT (dv m ee)) sc.toNat (a / 2^24) (-(-b / 2^24)) (3*tq*((2^sc.toNat:Int):Rat))∧-(-b / 2^24)-a / 2^24≤65540∧L (a / 2^24).natAbs≤430∧L (-(-b / 2^24)).natAbs≤430:=by
  intro a b e w la lb
  have hw:=half_w (a:=a) (b:=b) (W:=65538) (n:=24) oO
  have o1:=L_abs_shr a 24
  have o2:=L_abs_neg b
  have o3:=L_abs_shr (-b) 24
  have o4:=L_abs_neg (-b / 2^24)
  exact⟨e.half oO,by omega,by omega,by omega⟩
 by_cases h:m<0
 ·have hC:=hC true (decide_eq_true h).symm
  have e:EnE (AT (dv m ee)) (sc+24).toNat (-y2) (-y1) (3*tq*((2^(sc+24).toNat:Int):Rat)):=hE.ng.congr fun K=>by
   rw[AT_m (dv_neg_lt h),← dv_neg,show -m=(m.natAbs:Int) by omega]
  obtain⟨k1,k2,k3,k4⟩:=key e oO oO oO
  exact⟨_,_,hC,k1,k2,k3,k4⟩
 ·have hC:=hC false (decide_eq_false h).symm
  have e:EnE (AT (dv m ee)) (sc+24).toNat y1 y2 (3*tq*((2^(sc+24).toNat:Int):Rat)):=hE.congr fun K=>by
   rw[AT_p (fun q=>h (dv_lt_neg q)),show (m.natAbs:Int)=m by omega]
  obtain⟨k1,k2,k3,k4⟩:=key e oO oO oO
  exact⟨_,_,hC,k1,k2,k3,k4⟩
end Go.Proofs.YtkkbddkpggjgpaaGreatDoor




namespace Go.Proofs.YtkkbddkpggjgpaaGreatDoor
open Go.RowKit
set_option maxRecDepth 100000
set_option maxHeartbeats 4000000
theorem dv_g {a w:Int}{k:Nat}(h:L a.natAbs≤k)(hk:k≤300)(hw:0≤w∧w≤400):dv (mkM a (-w)) (mkX a (-w))=dv a (-w)∧L (mkM a (-w)).natAbs≤k∧(-400≤mkX a (-w)∧mkX a (-w)≤32*k)∧vdb (mkM a (-w)) (mkX a (-w))=true∧mkE a (-w)=0∧-w≤mkX a (-w):=by
 have f:=mk_fit (m:=a) (e:=-w) oO oO
 have i1:=iMin_range (-w) 0
 have i2:iMax (-w) 0≤0:=by unfold iMax;split<;>omega
 exact⟨f.2.2.2.2.2,by omega,by omega,f.2.2.2.2.1,f.1,by omega⟩
theorem g_has (a b k w:Int)(hw:0≤w∧w≤200)(la:L a.natAbs≤60)(lb:L b.natAbs≤60)(hk:(-9223372036854775808:Int)≤k∧k≤9223372036854775807)(h1:a≤k*2^w.toNat)(h2:k*2^w.toNat≤b):Impl Tryz.prog Amb 41 [(wV (mkM a (-w)) (mkX a (-w)) (mkM b (-w)) (mkX b (-w))),(.agg [(.bool (decide (((k:Int):Rat).num<0))),(N ((((k:Int):Rat).num).natAbs)),(N (((k:Int):Rat).den))])] (.bool true):=by
 have A:=dv_g (w:=w) la oO oO
 have B:=dv_g (w:=w) lb oO oO
 have e:((k:Int):Rat)=dv (k*2^w.toNat) (-w):=by
  rw[dv_shl,show (-w+(w.toNat:Int))=0 by omega];unfold dv;rw[zp_zero,Rat.mul_one]
 have q:=q_ofL (n:=k) oO
 exact impl_eq (congrArg V.bool (decide_eq_true ⟨cmpQ_le.2 (by rw[A.1,e];exact dv_le.2 h1),cmpQ_le.2 (by rw[B.1,e];exact dv_le.2 h2)⟩)) (r10_Has (mkM a (-w)) (mkX a (-w)) (mkM b (-w)) (mkX b (-w)) ((k:Int):Rat) oO oO oO oO A.2.2.2.1 B.2.2.2.1 oO oO)
theorem EnE.neg {f:Nat→Rat}{t:Nat}{a b:Int}{x:Rat}(h:EnE f t a b x):EnE (fun K=>-(f K)) t (-b) (-a) x:=by
 obtain⟨N,h⟩:=h
 refine⟨N,fun K hK=>?_⟩
 have h:=h K hK
 rw[Rat.intCast_neg,Rat.intCast_neg,Rat.neg_mul]
 constructor<;>grind
end Go.Proofs.YtkkbddkpggjgpaaGreatDoor

namespace Go.Proofs.YtkkbddkpggjgpaaGreatDoor
open Go.RowKit
set_option maxRecDepth 100000
set_option maxHeartbeats 2000000
theorem tq_gE {n:Nat}(h:n≤370):8*tq*((2^n:Int):Rat)≤gE:=by
 have a:(0:Rat)≤8*tq:=of_decide_eq_true (by kernel_rfl)
 have m:=Rat.mul_le_mul_of_nonneg_left (pow_up h) a
 exact Rat.le_trans m (of_decide_eq_true (by kernel_rfl))
theorem at_valueE (m ee w:Int)(hw:0≤w∧w≤330)(hm:L (m).natAbs≤100)(he:-5000≤ee∧ee≤5000) :
  ∃ lo hi:Int,Impl Tryz.prog Amb 48 [(yV m ee),(.int .i64 w)] (sV lo hi)∧EnE (AT (dv m ee)) w.toNat lo hi gE∧hi-lo≤2∧(1000*hi≤1571*2^w.toNat+3000∧-(1571*2^w.toNat+3000)≤1000*lo):=by
 obtain⟨y1,y2,hC,hE,hw2,l1,l2⟩:=fx_AtanE m ee (w+24) oO hm he
 have tz:=tq_gE (n:=(w+24).toNat) oO
 have tq0:=tq_pos
 have Z0:(0:Rat)<((2^(w+24).toNat:Int):Rat):=Rat.intCast_pos.2 (two_pos _)
 have tZ:=Rat.mul_pos tq0 Z0
 have gb:=gE_b
 have y12:y1≤y2:=hE.le hE (Lq.refl _) (by grind)
 have hT:=fx_Settle1 110 _ y1 y2 w (at_clo m ee (w+24) y1 y2 hC) oO (nbits_of_lt oO) oO
 have w2:=half_w (a:=y1) (b:=y2) (W:=1) (n:=24) oO
 have e:=hE.half (s:=w.toNat) (n:=24) oO
 have t:=tq_gE (n:=w.toNat) oO
 have tp:=tq_pos
 have T0:(0:Rat)<((2^w.toNat:Int):Rat):=Rat.intCast_pos.2 (two_pos _)
 have tT:=Rat.mul_pos tp T0
 have e:=e.mono (g':=gE) (by grind)
 refine⟨_,_,at_value0 m ee w _ _ hT,e,w2,?_⟩
 generalize y1 / 2^24=lo at *
 generalize -(-y2 / 2^24)=hi at *
 obtain⟨N,e⟩:=e
 have e:=e N (Nat.le_refl _)
 have b:=AT_b (dv m ee) N
 have c:=cQ_b
 have g:=gE_b
 have m1:=Rat.mul_le_mul_of_nonneg_right (show 1000*AT (dv m ee) N≤1571 by grind) (Rat.le_of_lt T0)
 have m2:=Rat.mul_le_mul_of_nonneg_right (show -1571≤1000*AT (dv m ee) N by grind) (Rat.le_of_lt T0)
 have k1:((1000*lo:Int):Rat)≤((1571*2^w.toNat+1000:Int):Rat):=by
  rw[Rat.intCast_add,Rat.intCast_mul,Rat.intCast_mul]
  show (1000:Rat)*_≤1571*_+1000
  grind
 have k2:((-(1571*2^w.toNat)-1000:Int):Rat)≤((1000*hi:Int):Rat):=by
  rw[Rat.intCast_sub,Rat.intCast_neg,Rat.intCast_mul,Rat.intCast_mul]
  show -((1571:Rat)*_)-1000≤(1000:Rat)*_
  grind
 have k1:=Rat.intCast_le_intCast.1 k1
 have k2:=Rat.intCast_le_intCast.1 k2
 omega
theorem at_L {x w:Int}(hw:0≤w∧w≤350)(h1:1000*x≤1571*2^w.toNat+5000)(h2:-(1571*2^w.toNat+5000)≤1000*x):L x.natAbs≤12:=by
 have e:((2^(w.toNat+3):Nat):Int)=2^w.toNat*8:=by rw[← pow_cast,Int.pow_add];rfl
 have:=two_pos w.toNat
 exact L_pow2 (n:=w.toNat+3) oO oO
theorem EnE.sh {f:Nat→Rat}{s:Nat}{a b:Int}{x e:Rat}(h:EnE f s a b x)(e0:0≤e):EnE (fun K=>f K+e) s a b (x+e*((2^s:Int):Rat)):=by
 obtain⟨N,h⟩:=h
 have T0:(0:Rat)<((2^s:Int):Rat):=Rat.intCast_pos.2 (two_pos s)
 have p:=Rat.mul_nonneg e0 (Rat.le_of_lt T0)
 refine⟨N,fun K hK=>?_⟩
 have h:=h K hK
 constructor<;>grind
theorem at_le {x y:Rat}{s:Nat}{a b c d:Int}(h:EnE (AT x) s a b gE)(k:EnE (AT y) s c d gE)(hxy:x≤y)(hs:s≤350):a≤d:=by
 have t:=tq_gE (n:=s) oO
 have tp:=tq_pos
 have g:=gE_b
 have T0:(0:Rat)<((2^s:Int):Rat):=Rat.intCast_pos.2 (two_pos s)
 have tT:=Rat.mul_pos tp T0
 exact h.le (k.sh (Rat.le_of_lt tp)) (AT_mono hxy) (by grind)
theorem at_AtanE (m ee n f w:Int)(hw:0≤w∧w≤300)(hm:L (m).natAbs≤100)(he:-5000≤ee∧ee≤5000)(hn:L (n).natAbs≤100)(hf:-5000≤f∧f≤5000) :
  ∃ l1 h1 l2 h2:Int,Impl Tryz.prog Amb 15 [(wV m ee n f),(.int .i64 w)] (.tup [(wV (mkM l1 (-w)) (mkX l1 (-w)) (mkM h2 (-w)) (mkX h2 (-w))),(.int .i64 0)])∧(EnE (AT (dv m ee)) w.toNat l1 h1 gE∧h1-l1≤2∧(1000*h1≤1571*2^w.toNat+3000∧-(1571*2^w.toNat+3000)≤1000*l1))∧(EnE (AT (dv n f)) w.toNat l2 h2 gE∧h2-l2≤2∧(1000*h2≤1571*2^w.toNat+3000∧-(1571*2^w.toNat+3000)≤1000*l2))∧(L l1.natAbs≤12∧L h2.natAbs≤12):=by
 obtain⟨l1,h1,hA,eA,wA,bA⟩:=at_valueE m ee w oO hm he
 obtain⟨l2,h2,hB,eB,wB,bB⟩:=at_valueE n f w oO hn hf
 have ge:=gE_b
 have o1:l1≤h1:=eA.le eA (Lq.refl _) (by grind)
 have o2:l2≤h2:=eB.le eB (Lq.refl _) (by grind)
 have z1:=at_L (x:=l1) (w:=w) oO oO oO
 have z2:=at_L (x:=h2) (w:=w) oO oO oO
 have mA:=dy_Make l1 (0-w) oO oO
 have mB:=dy_Make h2 (0-w) oO oO
 rw[Int.zero_sub,mk_fine2 (m:=l1) (e:=-w) oO oO] at mA
 rw[Int.zero_sub,mk_fine2 (m:=h2) (e:=-w) oO oO] at mB
 have hI:=at_intv l1 h1 l2 h2 w _ _ _ _ oO (by rw[Int.zero_sub];exact mA) (by rw[Int.zero_sub];exact mB)
 exact⟨l1,h1,l2,h2,at_Atan0 m ee n f w l1 h1 l2 h2 _ _ _ _ oO hA hB hI,⟨eA,wA,bA⟩,⟨eB,wB,bB⟩,z1,z2⟩
end Go.Proofs.YtkkbddkpggjgpaaGreatDoor

namespace Go.Proofs.YtkkbddkpggjgpaaGreatDoor
structure Hstep (T a b a' b':Int):Prop where
 h1:0≤a'
 h2:a'≤b'
 h3:2*b'≤b+2
 lo:2*((a':Rat)*(T:Rat)⁻¹)≤(a:Rat)*(T:Rat)⁻¹*(1-(a':Rat)*(T:Rat)⁻¹*((a':Rat)*(T:Rat)⁻¹))
 hi:(b:Rat)*(T:Rat)⁻¹*(1-(b':Rat)*(T:Rat)⁻¹*((b':Rat)*(T:Rat)⁻¹))≤2*((b':Rat)*(T:Rat)⁻¹)
end Go.Proofs.YtkkbddkpggjgpaaGreatDoor










namespace Go.Proofs.YtkkbddkpggjgpaaGreatDoor
open Go.RowKit
set_option maxRecDepth 100000
def eA (w:Int):Int:=(mkM ((eLo (w+24)) / 2^24) (-w))
def eB (w:Int):Int:=(mkX ((eLo (w+24)) / 2^24) (-w))
end Go.Proofs.YtkkbddkpggjgpaaGreatDoor




namespace Go.Proofs.YtkkbddkpggjgpaaGreatDoor
open Go.RowKit
set_option maxRecDepth 100000
set_option maxHeartbeats 2000000
theorem l16_of (a b:Int)(c0:(-9223372036854775808:Int)≤a∧a≤9223372036854775807)(c1:(-9223372036854775808:Int)≤b∧b≤9223372036854775807):Impl Tryz.prog Amb 36 [(.int .i64 a),(.int .i64 b)] (wV (mkM a 0) (mkX a 0) (mkM b 0) (mkX b 0)):=by
 exact impl_ob hP hAmb Tryz.func36 (by kernel_rfl) (.lit<|.call (yV (mkM a 0) (mkX a 0))<|.lit<|.call (yV (mkM b 0) (mkX b 0))<|.lits 3<|.ret)
  (cast_ob (aI True.intro (aI (r08_Of a oO) (have f14:=(of_fit (n:=a) oO).2.2.2.2.1;have f13:=(of_fit (n:=a) oO).2.2.2.1;have f12:=(of_fit (n:=a) oO).2.2.1;have f11:=(of_fit (n:=a) oO).2.1;have f10:=(of_fit (n:=a) oO).1;have f9:=(L_i64 oO:L (a:Int).natAbs≤2);have f8:=mk_facts a 0;aI (r08_Of b oO) (have f7:=(of_fit (n:=b) oO).2.2.2.2.1;have f6:=(of_fit (n:=b) oO).2.2.2.1;have f5:=(of_fit (n:=b) oO).2.2.1;have f4:=(of_fit (n:=b) oO).2.1;have f3:=(of_fit (n:=b) oO).1;have f2:=(L_i64 oO:L (b:Int).natAbs≤2);have f1:=mk_facts b 0;(vsub_refl (wV (mkM a 0) (mkX a 0) (mkM b 0) (mkX b 0))))))) (by kernel_rfl))
theorem at_RecipB (n w:Int)(c0:(-9223372036854775808:Int)≤n∧n≤9223372036854775807)(c1:(-9223372036854775808:Int)≤w∧w≤9223372036854775807)(c2:0≤w∧w≤4096)(c3:n<2):Impl Tryz.prog Amb 26 [(.int .i64 n),(.int .i64 w)] (.tup [(.agg [(.bool false),.nil,(.int .i64 0),(.bool false),.nil,(.int .i64 0)]),(.int .i64 1)]):=by
 exact impl_ob hP hAmb Tryz.func26 (by kernel_rfl) (.lit<|.no<|.lits 3<|.no<|.lits 4<|.yes<|.lits 6<|.ret)
  (cast_ob (aI True.intro (aI (iLt_mkF oO:(iLt w 0)=false) (aI (iGt_mkF oO:(iGt w 4096)=false) (aI (iLt_mk oO:(iLt n 2)=true) ((vsub_refl (.tup [(.agg [(.bool false),.nil,(.int .i64 0),(.bool false),.nil,(.int .i64 0)]),(.int .i64 1)]))))))) (by kernel_rfl))
theorem l16_awake0 (t1 t2 t3 t4 a1 a2 a3 a4:Int)(qa:Rat)(c0:Impl Tryz.prog Amb 36 [(.int .i64 0),(.int .i64 0)] (wV t1 t2 t3 t4))(c1:Impl Tryz.prog Amb 15 [(wV t1 t2 t3 t4),(.int .i64 4)] (.tup [(wV a1 a2 a3 a4),(.int .i64 0)]))(c2:Impl Tryz.prog Amb 26 [(.int .i64 1),(.int .i64 5)] (.tup [(.agg [(.bool false),.nil,(.int .i64 0),(.bool false),.nil,(.int .i64 0)]),(.int .i64 1)]))(c3:Impl Tryz.prog Amb 29 [(.int .i64 0)] (.agg [(.bool (decide (qa.num<0))),(N qa.num.natAbs),(N qa.den)]))(c4:Impl Tryz.prog Amb 41 [(wV a1 a2 a3 a4),(.agg [(.bool (decide (qa.num<0))),(N qa.num.natAbs),(N qa.den)])] (.bool true)):Impl Tryz.prog Amb 11 [] (.bool true):=by
 exact impl_ob hP hAmb Tryz.func11 (by kernel_rfl) (.lit<|.call (wV t1 t2 t3 t4)<|.lit<|.call (.tup [(wV a1 a2 a3 a4),(.int .i64 0)])<|.lits 2<|.call (.tup [(.agg [(.bool false),.nil,(.int .i64 0),(.bool false),.nil,(.int .i64 0)]),(.int .i64 1)])<|.lits 6<|.call (.agg [(.bool (decide (qa.num<0))),(N qa.num.natAbs),(N qa.den)])<|.lits 2<|.call (.bool true)<|.lits 6<|.ret)
  (cast_ob (aI True.intro (aI (c0 ) (aI (c1 ) (aI (c2 ) (aI (c3 ) (aI (c4 ) ((vsub_refl (.bool true))))))))) (by kernel_rfl))
theorem l16_RisesF (b1:Bool)(l1:List Nat)(e1:Int)(b2:Bool)(l2:List Nat)(e2:Int)(b3:Bool)(l3:List Nat)(e3:Int)(b4:Bool)(l4:List Nat)(e4 w m ee n f p q r t ya yb yc yd za zb zc zd k1 k2:Int)(ok:Bool)(c0:(-9223372036854775808:Int)≤w∧w≤9223372036854775807)(c1:Impl Tryz.prog Amb 11 [] (.bool true))(c2:Impl Tryz.prog Amb 12 [(.agg [(.bool b1),(.sl 1 (U l1)),(.int .i64 e1),(.bool b2),(.sl 1 (U l2)),(.int .i64 e2)]),(.int .i64 2),(.int .i64 50)] (.tup [(wV m ee n f),(.bool false)]))(c3:Impl Tryz.prog Amb 12 [(.agg [(.bool b3),(.sl 1 (U l3)),(.int .i64 e3),(.bool b4),(.sl 1 (U l4)),(.int .i64 e4)]),(.int .i64 2),(.int .i64 50)] (.tup [(wV p q r t),(.bool ok)])):Impl Tryz.prog Amb 5 [(.agg [(.bool b1),(.sl 1 (U l1)),(.int .i64 e1),(.bool b2),(.sl 1 (U l2)),(.int .i64 e2)]),(.agg [(.bool b3),(.sl 1 (U l3)),(.int .i64 e3),(.bool b4),(.sl 1 (U l4)),(.int .i64 e4)]),(.int .i64 w)] (.bool true):=by
 exact impl_ob hP hAmb Tryz.func5 (by kernel_rfl) (.lit<|.call (.bool true)<|.lits 4<|.call (.tup [(wV m ee n f),(.bool false)])<|.lits 3<|.call (.tup [(wV p q r t),(.bool ok)])<|.lits 7<|.ret)
  (cast_ob (aI True.intro (aI (c1 ) (aI (c2 ) (aI (c3 ) ((vsub_refl (.bool true))))))) (by kernel_rfl))
theorem l16_RisesG (b1:Bool)(l1:List Nat)(e1:Int)(b2:Bool)(l2:List Nat)(e2:Int)(b3:Bool)(l3:List Nat)(e3:Int)(b4:Bool)(l4:List Nat)(e4 w m ee n f p q r t ya yb yc yd za zb zc zd k1 k2:Int)(ok:Bool)(c0:(-9223372036854775808:Int)≤w∧w≤9223372036854775807)(c1:Impl Tryz.prog Amb 11 [] (.bool true))(c2:Impl Tryz.prog Amb 12 [(.agg [(.bool b1),(.sl 1 (U l1)),(.int .i64 e1),(.bool b2),(.sl 1 (U l2)),(.int .i64 e2)]),(.int .i64 2),(.int .i64 50)] (.tup [(wV m ee n f),(.bool true)]))(c3:Impl Tryz.prog Amb 12 [(.agg [(.bool b3),(.sl 1 (U l3)),(.int .i64 e3),(.bool b4),(.sl 1 (U l4)),(.int .i64 e4)]),(.int .i64 2),(.int .i64 50)] (.tup [(wV p q r t),(.bool false)])):Impl Tryz.prog Amb 5 [(.agg [(.bool b1),(.sl 1 (U l1)),(.int .i64 e1),(.bool b2),(.sl 1 (U l2)),(.int .i64 e2)]),(.agg [(.bool b3),(.sl 1 (U l3)),(.int .i64 e3),(.bool b4),(.sl 1 (U l4)),(.int .i64 e4)]),(.int .i64 w)] (.bool true):=by
 exact impl_ob hP hAmb Tryz.func5 (by kernel_rfl) (.lit<|.call (.bool true)<|.lits 4<|.call (.tup [(wV m ee n f),(.bool true)])<|.lits 3<|.call (.tup [(wV p q r t),(.bool false)])<|.lits 8<|.ret)
  (cast_ob (aI True.intro (aI (c1 ) (aI (c2 ) (aI (c3 ) ((vsub_refl (.bool true))))))) (by kernel_rfl))
theorem l16_RisesY (b1:Bool)(l1:List Nat)(e1:Int)(b2:Bool)(l2:List Nat)(e2:Int)(b3:Bool)(l3:List Nat)(e3:Int)(b4:Bool)(l4:List Nat)(e4 w m ee n f p q r t ya yb yc yd za zb zc zd k1 k2:Int)(ok:Bool)(c0:(-9223372036854775808:Int)≤w∧w≤9223372036854775807)(c1:Impl Tryz.prog Amb 11 [] (.bool true))(c2:Impl Tryz.prog Amb 12 [(.agg [(.bool b1),(.sl 1 (U l1)),(.int .i64 e1),(.bool b2),(.sl 1 (U l2)),(.int .i64 e2)]),(.int .i64 2),(.int .i64 50)] (.tup [(wV m ee n f),(.bool true)]))(c3:Impl Tryz.prog Amb 12 [(.agg [(.bool b3),(.sl 1 (U l3)),(.int .i64 e3),(.bool b4),(.sl 1 (U l4)),(.int .i64 e4)]),(.int .i64 2),(.int .i64 50)] (.tup [(wV p q r t),(.bool true)]))(c4:Impl Tryz.prog Amb 15 [(wV m ee n f),(.int .i64 (w%60))] (.tup [(wV ya yb yc yd),(.int .i64 0)]))(c5:Impl Tryz.prog Amb 15 [(wV p q r t),(.int .i64 (w%60))] (.tup [(wV za zb zc zd),(.int .i64 0)]))(c6:Impl Tryz.prog Amb 20 [(yV m ee),(yV r t)] (.int .i64 k1))(c7:Impl Tryz.prog Amb 21 [(wV ya yb yc yd),(wV za zb zc zd)] (.int .i64 k2))(c8:k1≤0∧k2≤0):Impl Tryz.prog Amb 5 [(.agg [(.bool b1),(.sl 1 (U l1)),(.int .i64 e1),(.bool b2),(.sl 1 (U l2)),(.int .i64 e2)]),(.agg [(.bool b3),(.sl 1 (U l3)),(.int .i64 e3),(.bool b4),(.sl 1 (U l4)),(.int .i64 e4)]),(.int .i64 w)] (.bool true):=by
 exact impl_ob hP hAmb Tryz.func5 (by kernel_rfl) (.lit<|.call (.bool true)<|.lits 4<|.call (.tup [(wV m ee n f),(.bool true)])<|.lits 3<|.call (.tup [(wV p q r t),(.bool true)])<|.lits 8<|.call (.int .i64 (w%60))<|.lits 2<|.call (.tup [(wV ya yb yc yd),(.int .i64 0)])<|.lits 3<|.call (.tup [(wV za zb zc zd),(.int .i64 0)])<|.lits 14<|.call (.int .i64 k1)<|.lits 3<|.no<|.lits 5<|.call (.int .i64 k2)<|.lits 6<|.ret)
  (cast_ob (aI True.intro (aI (c1 ) (aI (c2 ) (aI (c3 ) (aI (mill_Mod w 60 oS oS) (have f2:=Int.emod_lt_of_pos w (show (0:Int)<60 by first | omega | assumption);have f1:=Int.emod_nonneg w (show (60:Int)≠0 by first | omega | assumption);aI (c4 ) (aI (c5 ) (aI (c6 ) (aI (iGt_mkF oO:(iGt k1 0)=false) (aI (c7 ) ((vsub_of (congrArg V.bool (iLe_mk oO)):vsub (.bool (iLe k2 0)) (.bool true))))))))))))) (by kernel_rfl))
theorem l16_RisesN (b1:Bool)(l1:List Nat)(e1:Int)(b2:Bool)(l2:List Nat)(e2:Int)(b3:Bool)(l3:List Nat)(e3:Int)(b4:Bool)(l4:List Nat)(e4 w m ee n f p q r t ya yb yc yd za zb zc zd k1 k2:Int)(ok:Bool)(c0:(-9223372036854775808:Int)≤w∧w≤9223372036854775807)(c1:Impl Tryz.prog Amb 11 [] (.bool true))(c2:Impl Tryz.prog Amb 12 [(.agg [(.bool b1),(.sl 1 (U l1)),(.int .i64 e1),(.bool b2),(.sl 1 (U l2)),(.int .i64 e2)]),(.int .i64 2),(.int .i64 50)] (.tup [(wV m ee n f),(.bool true)]))(c3:Impl Tryz.prog Amb 12 [(.agg [(.bool b3),(.sl 1 (U l3)),(.int .i64 e3),(.bool b4),(.sl 1 (U l4)),(.int .i64 e4)]),(.int .i64 2),(.int .i64 50)] (.tup [(wV p q r t),(.bool true)]))(c4:Impl Tryz.prog Amb 15 [(wV m ee n f),(.int .i64 (w%60))] (.tup [(wV ya yb yc yd),(.int .i64 0)]))(c5:Impl Tryz.prog Amb 15 [(wV p q r t),(.int .i64 (w%60))] (.tup [(wV za zb zc zd),(.int .i64 0)]))(c6:Impl Tryz.prog Amb 20 [(yV m ee),(yV r t)] (.int .i64 k1))(c7:0<k1):Impl Tryz.prog Amb 5 [(.agg [(.bool b1),(.sl 1 (U l1)),(.int .i64 e1),(.bool b2),(.sl 1 (U l2)),(.int .i64 e2)]),(.agg [(.bool b3),(.sl 1 (U l3)),(.int .i64 e3),(.bool b4),(.sl 1 (U l4)),(.int .i64 e4)]),(.int .i64 w)] (.bool true):=by
 exact impl_ob hP hAmb Tryz.func5 (by kernel_rfl) (.lit<|.call (.bool true)<|.lits 4<|.call (.tup [(wV m ee n f),(.bool true)])<|.lits 3<|.call (.tup [(wV p q r t),(.bool true)])<|.lits 8<|.call (.int .i64 (w%60))<|.lits 2<|.call (.tup [(wV ya yb yc yd),(.int .i64 0)])<|.lits 3<|.call (.tup [(wV za zb zc zd),(.int .i64 0)])<|.lits 14<|.call (.int .i64 k1)<|.lits 3<|.yes<|.lits 7<|.ret)
  (cast_ob (aI True.intro (aI (c1 ) (aI (c2 ) (aI (c3 ) (aI (mill_Mod w 60 oS oS) (have f2:=Int.emod_lt_of_pos w (show (0:Int)<60 by first | omega | assumption);have f1:=Int.emod_nonneg w (show (60:Int)≠0 by first | omega | assumption);aI (c4 ) (aI (c5 ) (aI (c6 ) (aI (iGt_mk oO:(iGt k1 0)=true) ((vsub_refl (.bool true)))))))))))) (by kernel_rfl))
end Go.Proofs.YtkkbddkpggjgpaaGreatDoor

namespace Go.Proofs.YtkkbddkpggjgpaaGreatDoor
open Go.RowKit
set_option maxRecDepth 100000
set_option maxHeartbeats 4000000
theorem AT_00 (K:Nat):AT 0 K=0:=by
 rw[AT_p (show ¬ (0:Rat)<0 by grind),ATp_1 (show (0:Rat)≤1 by decide)]
 unfold AT0
 rw[if_pos (by grind),AL_zero]
theorem l16_00:mkM 0 0=0∧mkX 0 0=0:=⟨by kernel_rfl,by kernel_rfl⟩
theorem l16_awake:Impl Tryz.prog Amb 11 [] (.bool true):=by
 have y:=l16_of 0 0 oO oO
 rw[l16_00.1,l16_00.2] at y
 have z0:L (0:Int).natAbs=0:=L_zero
 obtain⟨l1,h1,l2,h2,hA,⟨e1,_,_⟩,⟨e2,_,_⟩,la,lb⟩:=at_AtanE 0 0 0 0 4 oO oO oO oO oO
 rw[dv_zero] at e1 e2
 have g:=gE_b
 have k1:l1≤0:=by
  obtain⟨N,e⟩:=e1
  have e:=(e N (Nat.le_refl _)).1
  rw[AT_00,Rat.zero_mul,Rat.zero_add] at e
  refine Decidable.byContradiction fun hn=>?_
  have:((1:Int):Rat)≤(l1:Rat):=Rat.intCast_le_intCast.2 oO
  rw[show ((1:Int):Rat)=1 from rfl] at this
  grind
 have k2:0≤h2:=by
  obtain⟨N,e⟩:=e2
  have e:=(e N (Nat.le_refl _)).2
  rw[AT_00,Rat.zero_mul] at e
  refine Decidable.byContradiction fun hn=>?_
  have:(h2:Rat)≤((-1:Int):Rat):=Rat.intCast_le_intCast.2 oO
  rw[show ((-1:Int):Rat)=-1 from rfl] at this
  grind
 have hH:=g_has l1 h2 0 4 oO oO oO oO oO oO
 exact l16_awake0 _ _ _ _ _ _ _ _ _ y hA (at_RecipB 1 5 oO oO oO oO) (r07_Of 0 oO) hH
theorem l16_ivE (b1:Bool)(l1:List Nat)(e1:Int)(b2:Bool)(l2:List Nat)(e2:Int)(c0:Dig l1)(c1:l1.length≤9223372036854775807)(c2:(-9223372036854775808:Int)≤e1∧e1≤9223372036854775807)(c3:Dig l2)(c4:l2.length≤9223372036854775807)(c5:(-9223372036854775808:Int)≤e2∧e2≤9223372036854775807):∃ (m ee n f:Int) (ok:Bool),Impl Tryz.prog Amb 12 [(.agg [(.bool b1),(.sl 1 (U l1)),(.int .i64 e1),(.bool b2),(.sl 1 (U l2)),(.int .i64 e2)]),(.int .i64 2),(.int .i64 50)] (.tup [(wV m ee n f),(.bool ok)])∧(L m.natAbs≤2∧L n.natAbs≤2)∧((-50≤ee∧ee≤114)∧(-50≤f∧f≤114))∧(vdb m ee=true∧vdb n f=true)∧(ok=true→dv m ee≤dv n f):=by
 have fa:=iv_fit (b:=b1) (e:=e1) (c:=b2) (f:=e2) (n:=2) (k:=50) c0 c3 oO oO
 have hi:=mill_Iv b1 l1 e1 b2 l2 e2 2 50 c0 c1 c3 c4 c2 c5 oO oO
 exact⟨_,_,_,_,_,hi,by omega,by omega,⟨fa.2.1,fa.2.2.1⟩,fun _=>fa.2.2.2⟩
theorem ivCmp_le {m e n f p g q h:Int}(h1:dv m e≤dv q h):ivCmp m e n f p g q h≤0:=by
 unfold ivCmp
 split
 ·omega
 ·have:=cmpD_le.2 h1
  rw[if_neg oO];omega
theorem l16_ArctangentRises (b1:Bool)(l1:List Nat)(e1:Int)(b2:Bool)(l2:List Nat)(e2:Int)(b3:Bool)(l3:List Nat)(e3:Int)(b4:Bool)(l4:List Nat)(e4 w:Int)(c0:Dig l1)(c1:l1.length≤9223372036854775807)(c2:(-9223372036854775808:Int)≤e1∧e1≤9223372036854775807)(c3:Dig l2)(c4:l2.length≤9223372036854775807)(c5:(-9223372036854775808:Int)≤e2∧e2≤9223372036854775807)(d0:Dig l3)(d1:l3.length≤9223372036854775807)(d2:(-9223372036854775808:Int)≤e3∧e3≤9223372036854775807)(d3:Dig l4)(d4:l4.length≤9223372036854775807)(d5:(-9223372036854775808:Int)≤e4∧e4≤9223372036854775807)(c6:(-9223372036854775808:Int)≤w∧w≤9223372036854775807):Impl Tryz.prog Amb 5 [(.agg [(.bool b1),(.sl 1 (U l1)),(.int .i64 e1),(.bool b2),(.sl 1 (U l2)),(.int .i64 e2)]),(.agg [(.bool b3),(.sl 1 (U l3)),(.int .i64 e3),(.bool b4),(.sl 1 (U l4)),(.int .i64 e4)]),.int .i64 w] (.bool true):=by
 have w160:=Int.emod_nonneg w (show (60:Int)≠0 by omega)
 have w260:=Int.emod_lt_of_pos w (show (0:Int)<60 by omega)
 obtain⟨m,ee,n,f,ok1,hA,⟨lm,ln⟩,⟨le,lf⟩,⟨v1,v2⟩,hok1⟩:=l16_ivE b1 l1 e1 b2 l2 e2 c0 c1 c2 c3 c4 c5
 obtain⟨p,q,r,t,ok2,hB,⟨lp,lr⟩,⟨lq,lt⟩,⟨v3,v4⟩,hok2⟩:=l16_ivE b3 l3 e3 b4 l4 e4 d0 d1 d2 d3 d4 d5
 cases ok1 with
 | false=>exact l16_RisesF b1 l1 e1 b2 l2 e2 b3 l3 e3 b4 l4 e4 w m ee n f p q r t 0 0 0 0 0 0 0 0 0 0 ok2 c6 l16_awake hA hB
 | true =>
  cases ok2 with
  | false=>exact l16_RisesG b1 l1 e1 b2 l2 e2 b3 l3 e3 b4 l4 e4 w m ee n f p q r t 0 0 0 0 0 0 0 0 0 0 false c6 l16_awake hA hB
  | true =>
   obtain⟨i1,j1,i2,j2,hP,⟨E1,wa,_⟩,⟨E2,wb,_⟩,z1,z2⟩:=at_AtanE m ee n f (w%60) oO oO oO oO oO
   obtain⟨i3,j3,i4,j4,hQ,⟨E3,wc,_⟩,⟨E4,wd,_⟩,z3,z4⟩:=at_AtanE p q r t (w%60) oO oO oO oO oO
   have hC:=r08_Cmp m ee r t oO oO oO oO
   by_cases hk:cmpD m ee r t≤0
   ·have o:=at_le E1 E4 (cmpD_le.1 hk) oO
    have G1:=dv_g (a:=i1) (w:=w%60) (k:=12) oO oO oO
    have G2:=dv_g (a:=j2) (w:=w%60) (k:=12) oO oO oO
    have G3:=dv_g (a:=i3) (w:=w%60) (k:=12) oO oO oO
    have G4:=dv_g (a:=j4) (w:=w%60) (k:=12) oO oO oO
    have hD:=r10_Cmp (mkM i1 (-(w%60))) (mkX i1 (-(w%60))) (mkM j2 (-(w%60))) (mkX j2 (-(w%60))) (mkM i3 (-(w%60))) (mkX i3 (-(w%60))) (mkM j4 (-(w%60))) (mkX j4 (-(w%60))) oO oO oO oO oO oO oO oO
    have le0:=ivCmp_le (m:=mkM i1 (-(w%60))) (e:=mkX i1 (-(w%60))) (n:=mkM j2 (-(w%60))) (f:=mkX j2 (-(w%60))) (p:=mkM i3 (-(w%60))) (g:=mkX i3 (-(w%60))) (q:=mkM j4 (-(w%60))) (h:=mkX j4 (-(w%60))) (by rw[G1.1,G4.1];exact dv_le.2 o)
    exact l16_RisesY b1 l1 e1 b2 l2 e2 b3 l3 e3 b4 l4 e4 w m ee n f p q r t _ _ _ _ _ _ _ _ _ _ true c6 l16_awake hA hB hP hQ hC hD ⟨hk,le0⟩
   ·exact l16_RisesN b1 l1 e1 b2 l2 e2 b3 l3 e3 b4 l4 e4 w m ee n f p q r t _ _ _ _ _ _ _ _ _ 0 true c6 l16_awake hA hB hP hQ hC oO
end Go.Proofs.YtkkbddkpggjgpaaGreatDoor

namespace Go.Proofs.YtkkbddkpggjgpaaGreatDoor
open Go.ChangeShapes Go.WideShapes Go.ChangeAt Go.RowKit
theorem ownNone:ownKnob Tryz.prog.godebug=none:=by kernel_rfl
theorem gTab:Tryz.prog.globalNamed "math/bits.deBruijn32tab"=some 0:=by kernel_rfl
theorem gTabType:(Tryz.prog.globals[0]?).map (·.type)=some 162:=by kernel_rfl
theorem cellsTab:Tryz.prog.cellsOf 162=32:=by kernel_rfl
theorem cellsU8:Tryz.prog.cellsOf 5=1:=by kernel_rfl
theorem amb_of {W:World}(h:laidMetH Tryz.prog [("math/bits.deBruijn32tab",Rows.laid_math_bits_deBruijn32tab)] W):Amb W:=by
 have t:Lib.TabIs Tryz.prog W "math/bits.deBruijn32tab" .u8 tab32:=Lib.tabIs_of_head (rest:=[]) gTab gTabType Tryz.underlying162 Tryz.underlying5 cellsU8 cellsTab h
 intro i v hi
 have hlt:i<tab32.length:=by
  rcases Nat.lt_or_ge i tab32.length with q | q
  ·exact q
  ·rw[List.getElem?_eq_none q] at hi;cases hi
 have h1:=t.cell gTab i hlt
 rw[List.getD_eq_getElem?_getD,hi] at h1
 exact h1
theorem int_wf {n:Int}(h:(Lit.int .i64 n).wf=true):(-9223372036854775808:Int)≤n∧n≤9223372036854775807:=by
 simp only [Lit.wf,Bool.and_eq_true,decide_eq_true_eq] at h
 simp [IntKind.min,IntKind.max,IntKind.signed,IntKind.bits] at h
 omega
noncomputable def laidWorld (os : Os) : World :=
  { World.holding Tryz.prog os ⟨#[], #[], []⟩ with heap := (World.holding Tryz.prog os ⟨#[], #[], []⟩).heap.modify 0 fun
      | .cells _ t frozen => .cells (tab32.map (Value.int .u8)).toArray t frozen
      | o => o }
theorem post_of_below {H:Type}{enc:TypeId × Value→H}{P:Program}{f:Func}{s:ChangeSpec}{apart fresh handsOn again:Bool}{W W':World}{args:Array Value}{v:Value}{ds gs:List (DataW H)}{before pa pv:List MemPlace}
  (hW:DataW.Whole enc P f.params.toList s.vars apart W args.toList ds gs before)
  (hres:∀ (b:Nat) (sp:Nat→Bool) (hd:Bool),DataW.TrodAll enc P W' b sp hd f.resultTypes.toList (v.resultList f.resultTypes.size) (s.fn H (ds ++ gs)).results [])
  (hargs:∀ sp:Nat→Bool,(∀ p∈before,sp p.block=true)→DataW.TrodAll enc P W' 0 sp true f.params.toList args.toList (s.fn H (ds ++ gs)).args pa)
  (hvars:∀ sp:Nat→Bool,(∀ p∈before,sp p.block=true)→DataW.TrodVars enc P W' sp s.vars (s.fn H (ds ++ gs)).vars pv)
  (hps:before=pa ++ pv) (hb:Below W.heap.size W W')
  (hok:∀ (j:Nat) (t:TypeId) (r:Value),f.resultTypes[j]?=some t→(v.resultList f.resultTypes.size)[j]?=some r→Value.okWide P W' .any 0 t r):s.post enc P f apart fresh handsOn again W args v W':=by
 have lt:=hW.lt
 have old:∀ p∈before,(fun b=>decide (b<W.heap.size)) p.block=true:=fun p hp=>decide_eq_true (lt p hp)
 subst hps
 refine⟨ds,gs,pa ++ pv,[],pa,pv,hW,hres _ _ _,hargs _ old,hvars _ old,hb.frame _,fun _=>?_⟩
 obtain⟨_,_,_,_,_,hz,hn⟩:=hW
 have h1:=trodAll_append (hargs (fun _=>true) fun _ _=>rfl) (hres 0 (fun _=>true) true)
 refine⟨hok,_,_,_,⟨_,pv,h1,hvars _ fun _ _=>rfl,rfl,fun b off hp=>?_,fun ha=>?_⟩,fun p hp _=>?_⟩
 ·have hp':MemPlace.cell b off∈pa ++ pv:=by simpa using hp
  rw[hb.frozen (lt _ hp')]
  exact hz b off hp'
 ·simpa using hn ha
 ·simpa using hp
end Go.Proofs.YtkkbddkpggjgpaaGreatDoor

namespace Go.Proofs.YtkkbddkpggjgpaaGreatDoor
open Go.ChangeShapes Go.WideShapes Go.ChangeAt Go.RowKit
set_option maxRecDepth 100000
variable {H:Type} {enc:TypeId × Value→H} {W:World} {sp:Nat→Bool} {held:Bool}
theorem laidOut:laidOutB Tryz.prog=true:=by kernel_rfl
theorem cellsU32:Tryz.prog.cellsOf 97=1:=by kernel_rfl
theorem cellsSl:Tryz.prog.cellsOf 22=1:=by kernel_rfl
theorem cellsBool:Tryz.prog.cellsOf 4=1:=by kernel_rfl
theorem cellsInt:Tryz.prog.cellsOf 3=1:=by kernel_rfl
theorem cellsZ:Tryz.prog.cellsOf 24=2:=by kernel_rfl
theorem cellsY:Tryz.prog.cellsOf 26=3:=by kernel_rfl
theorem cellsW:Tryz.prog.cellsOf 28=6:=by kernel_rfl
theorem rdl_U (S:Nat→Prop):∀ l:List Nat,RdL W S (l.map fun (d:Nat)=>Value.int .u32 (d:Int)) (U l)
 | []=>.nil
 | _::l=>.cons .int (rdl_U S l)
theorem wf_u32 {n:Int}(h:(Lit.int .u32 n).wf=true):0≤n∧n<4294967296:=by
 simp only [Lit.wf,Bool.and_eq_true,decide_eq_true_eq] at h
 simp [IntKind.min,IntKind.max,IntKind.signed,IntKind.bits] at h
 omega
theorem open_slice32 {n:Nat}{c:Value}{x:DataW H × List MemPlace}{b0:Nat}(h:DataW.trod enc Tryz.prog W 0 sp held n 22 [c]=some x)(hok:Cell.okWide Tryz.prog W .any b0 22 c) :
  ∃ l:List Nat,Dig l∧l.length≤maxLen∧Rd W (fun _=>True) c (.sl 1 (U l)):=by
 rcases open_ints Tryz.underlying22 Tryz.underlying97 cellsU32 h with ⟨hc,_⟩ | ⟨a,len,cap,zs,hc,_,hl,hm,hz,_,hcell,hwf⟩
 ·obtain rfl:c=.slice none 0 0:=by simpa using hc
  exact⟨[],(fun d hd=>by cases hd),Nat.zero_le _,.nilsl⟩
 ·obtain rfl:c=.slice (some a) len cap:=by simpa using hc
  have hlen:len≤zs.length:=by rw[hz];split<;>omega
  simp only [Cell.okWide,Cell.ok,Tryz.underlying22,World.has] at hok
  obtain⟨_,_,_,hs,row,cells,hsh,_⟩:=hok
  obtain⟨ab,ao,spot⟩:=a
  simp only at hs hsh
  subst hs
  have hb:ab<W.heap.size:=by
   unfold World.shape? at hsh
   split at hsh
   ·rename_i q;exact (Array.getElem?_eq_some_iff.1 q).1
   ·cases hsh
  refine⟨(zs.take len).map Int.toNat,?_,?_,?_⟩
  ·intro d hd
   obtain⟨z,hz',rfl⟩:=List.mem_map.1 hd
   have:=wf_u32 (hwf z (List.mem_of_mem_take hz'))
   show z.toNat<4294967296
   omega
  ·simp;omega
  ·refine .sl (vals:=((zs.take len).map Int.toNat).map fun (d:Nat)=>Value.int .u32 (d:Int)) trivial hb hl (by simp [U];omega) (rdl_U _ _) ?_
   intro i v hv
   simp only [List.getElem?_map,Option.map_eq_some_iff] at hv
   obtain⟨d,⟨z,hz',rfl⟩,rfl⟩:=hv
   have hi:i<len:=by
    rcases Nat.lt_or_ge i len with q | q
    ·exact q
    ·rw[List.getElem?_eq_none (by simp;omega)] at hz';cases hz'
   rw[List.getElem?_take,if_pos hi] at hz'
   have h1:=hcell i (by omega)
   rw[List.getD_eq_getElem?_getD,hz'] at h1
   have h2:=wf_u32 (hwf z (List.mem_of_getElem? hz'))
   have h3:((z.toNat:Nat):Int)=z:=Int.toNat_of_nonneg h2.1
   simp only [Option.getD_some] at h1
   rw[h3]
   have h4:(Addr.mk ab ao none).add i=⟨ab,ao+i,none⟩:=by
    unfold Addr.add;split
    ·rename_i q;subst q;rfl
    ·rfl
   rw[h4] at h1
   exact h1
theorem open_Z {n:Nat}{c0 c1:Value}{x:DataW H × List MemPlace}{b0:Nat}(h:DataW.trod enc Tryz.prog W 0 sp held n 24 [c0,c1]=some x)(hok:Cell.okWide Tryz.prog W .any b0 22 c1) :
  ∃ (b:Bool) (l:List Nat),Dig l∧l.length≤maxLen∧RdL W (fun _=>True) [c0,c1] [.bool b,.sl 1 (U l)]:=by
 obtain⟨y0,y1,m,_,_,h0,h1⟩:=trod_struct2 Tryz.underlying24 h
 have k0:DataW.trod enc Tryz.prog W 0 sp held m 4 [c0]=some y0:=by simpa [cellsBool] using h0
 have k1:DataW.trod enc Tryz.prog W 0 sp held m 22 [c1]=some y1:=by simpa [cellsSl] using h1
 obtain⟨b,hb,_⟩:=DataW.trod_bool Tryz.underlying4 k0
 obtain rfl:c0=.bool b:=by simpa using hb
 obtain⟨l,d,e,r⟩:=open_slice32 k1 hok
 exact⟨b,l,d,e,.cons .bool (.cons r .nil)⟩
theorem open_Y {n:Nat}{c0 c1 c2:Value}{x:DataW H × List MemPlace}{b0:Nat}(h:DataW.trod enc Tryz.prog W 0 sp held n 26 [c0,c1,c2]=some x)(hok:Cell.okWide Tryz.prog W .any b0 22 c1) :
  ∃ (b:Bool) (l:List Nat) (e:Int),Dig l∧l.length≤maxLen∧((-9223372036854775808:Int)≤e∧e≤9223372036854775807)∧RdL W (fun _=>True) [c0,c1,c2] [.bool b,.sl 1 (U l),.int .i64 e]:=by
 obtain⟨y0,y1,m,_,_,h0,h1⟩:=trod_struct2 Tryz.underlying26 h
 have k0:DataW.trod enc Tryz.prog W 0 sp held m 24 [c0,c1]=some y0:=by simpa [cellsZ] using h0
 have k1:DataW.trod enc Tryz.prog W 0 sp held m 3 [c2]=some y1:=by simpa [cellsInt] using h1
 obtain⟨b,l,d,e,r⟩:=open_Z k0 hok
 obtain⟨z,hz,_,hw⟩:=DataW.trod_int Tryz.underlying3 k1
 obtain rfl:c2=.int .i64 z:=by simpa using hz
 cases r with | cons r0 r=>cases r with | cons r1 r=>cases r with | nil =>
  exact⟨b,l,z,d,e,int_wf hw,.cons r0 (.cons r1 (.cons .int .nil))⟩
theorem array6 {α:Type}{cs:Array α}(h:cs.size=6):∃ c0 c1 c2 c3 c4 c5,cs=#[c0,c1,c2,c3,c4,c5]:=by
 obtain⟨l⟩:=cs
 match l,h with
 | [c0,c1,c2,c3,c4,c5],_=>exact⟨c0,c1,c2,c3,c4,c5,rfl⟩
theorem open_W {v:Value}{d:DataW H}{p:List MemPlace}{b0:Nat}(hv:Value.okWide Tryz.prog W .any b0 28 v)(h:DataW.Trod enc Tryz.prog W 0 sp held 28 v d p) :
  ∃ (b:Bool) (l:List Nat) (e:Int) (c:Bool) (r:List Nat) (f:Int),(Dig l∧l.length≤maxLen∧((-9223372036854775808:Int)≤e∧e≤9223372036854775807))∧(Dig r∧r.length≤maxLen∧((-9223372036854775808:Int)≤f∧f≤9223372036854775807)) ∧
   Rd W (fun _=>True) v (.agg [.bool b,.sl 1 (U l),.int .i64 e,.bool c,.sl 1 (U r),.int .i64 f]):=by
 simp only [Value.okWide,Tryz.underlying28] at hv
 obtain⟨cs,rfl,hsz,ts,hts,_,hrow⟩:=hv
 have e0:Tryz.prog.cellTypes Tryz.prog.depth 28=some [4,22,3,4,22,3]:=by kernel_rfl
 rw[e0] at hts
 obtain rfl:=Option.some.inj hts
 obtain⟨c0,c1,c2,c3,c4,c5,rfl⟩:=array6 (hsz.trans cellsW)
 obtain⟨u1,q1,ok1⟩:=hrow 1 c1 rfl
 obtain rfl:22=u1:=by simpa using q1
 obtain⟨u4,q4,ok4⟩:=hrow 4 c4 rfl
 obtain rfl:22=u4:=by simpa using q4
 obtain⟨n,hn⟩:=h
 obtain⟨y0,y1,m,_,_,h0,h1⟩:=trod_struct2 Tryz.underlying28 hn
 have k0:DataW.trod enc Tryz.prog W 0 sp held m 26 [c0,c1,c2]=some y0:=by simpa [cellsY,Value.cells] using h0
 have k1:DataW.trod enc Tryz.prog W 0 sp held m 26 [c3,c4,c5]=some y1:=by simpa [cellsY,Value.cells] using h1
 obtain⟨b,l,e,d1,d2,d3,r1⟩:=open_Y k0 ok1
 obtain⟨c,r,f,f1,f2,f3,r2⟩:=open_Y k1 ok4
 refine⟨b,l,e,c,r,f,⟨d1,d2,d3⟩,⟨f1,f2,f3⟩,?_⟩
 cases r1 with | cons a0 r1=>cases r1 with | cons a1 r1=>cases r1 with | cons a2 r1=>cases r1 with | nil =>
 cases r2 with | cons b0 r2=>cases r2 with | cons b1 r2=>cases r2 with | cons b2 r2=>cases r2 with | nil =>
  exact .agg (.cons a0 (.cons a1 (.cons a2 (.cons b0 (.cons b1 (.cons b2 .nil))))))
end Go.Proofs.YtkkbddkpggjgpaaGreatDoor

namespace Go.Proofs.YtkkbddkpggjgpaaGreatDoor.arctangentRises
open Go.ChangeShapes Go.WideShapes Go.ChangeAt Go.RowKit
set_option maxRecDepth 100000 in
theorem contract (H:Type)(enc:TypeId × Value→H)(W:World)(base:Nat)(args:Array Value)(ds gs:List (DataW H))(before:List MemPlace)
  (hval:∀ (j:Nat) t v,Tryz.f5.params[j]?=some t→args[j]?=some v→Value.okWide Tryz.prog W .any base t v)
  (hW:DataW.Whole enc Tryz.prog Tryz.f5.params.toList Rows.arctangentRisesSpec.vars false W args.toList ds gs before) (hL:laidMetH Tryz.prog Rows.arctangentRisesRow.laid W) :
  Calls Tryz.prog 5 args W fun e W'=>∃ v,e=.returned v∧Rows.arctangentRisesSpec.post enc Tryz.prog Tryz.f5 false true false false W args v W':=by
 have hW':=hW
 obtain⟨p,q,hA0,hV,rfl,hfz,hnd⟩:=hW
 have hA:DataW.TrodAll enc Tryz.prog W 0 (fun _=>true) true Tryz.f5.params.toList args.toList ds p:=hA0
 rw[Tryz.params5] at hA hval
 obtain⟨v0,vs0,d0,ds0,p0,q0,hargs0,rfl,rfl,h0,r0⟩:=trodAll_cons hA
 obtain⟨v1,vs1,d1,ds1,p1,q1,hargs1,rfl,rfl,h1,r1⟩:=trodAll_cons r0
 obtain⟨v2,vs2,d2,ds2,p2,q2,hargs2,rfl,rfl,h2,r2⟩:=trodAll_cons r1
 obtain⟨rfl,rfl,rfl⟩:=trodAll_nil r2
 obtain rfl:args=#[v0,v1,v2]:=by cases args;simp_all
 obtain⟨rfl,rfl⟩:=trodVars_none hV
 obtain⟨b0,l0,e0,c0,s0,f0,⟨a0,a0',a0''⟩,⟨z0,z0',z0''⟩,t0⟩:=open_W (hval 0 28 v0 rfl rfl) h0
 have m0:l0.length≤9223372036854775807:=a0'
 have n0:s0.length≤9223372036854775807:=z0'
 obtain⟨b1,l1,e1,c1,s1,f1,⟨a1,a1',a1''⟩,⟨z1,z1',z1''⟩,t1⟩:=open_W (hval 1 28 v1 rfl rfl) h1
 have m1:l1.length≤9223372036854775807:=a1'
 have n1:s1.length≤9223372036854775807:=z1'
 have k2:=h2
 obtain⟨x2,rfl,rfl,rfl,w2⟩:=open_int Tryz.underlying3 (hval 2 3 v2 rfl rfl) h2
 have b2:=int_wf w2
 clear hA0
 have hlt:=hW'.lt
 have hI:=l16_ArctangentRises b0 l0 e0 c0 s0 f0 b1 l1 e1 c1 s1 f1 x2 a0 m0 a0'' z0 n0 z0'' a1 m1 a1'' z1 n1 z1'' b2
 have hC:=hI.2 W (fun _=>True) [v0,v1,.int .i64 x2] (amb_of hL) (fun _ _=>trivial) (.cons t0 (.cons t1 (.cons .int (.nil))))
 refine hC.mono fun e W' hh=>?_
 obtain⟨v,rfl,hv,hb⟩:=hh
 have hv:=hv.bool_inv
 subst hv
 exact⟨_,rfl,post_of_below (pa:=(p0 ++ (p1 ++ ([] ++ [])))) (pv:=[]) hW' (fun _ _ _=>trodAll_cons_mk (shut_bool Tryz.underlying4 _) trodAll_mk0) (fun sp hsp=>(trodAll_cons_mk (WideElems.Trod_stays laidOut (by kernel_rfl) (of_decide_eq_true (by kernel_rfl)) h0 (fun x hx=>hb.same (hlt x (by simp [hx]))) (fun x hx=>hsp x (by simp [hx]))) (trodAll_cons_mk (WideElems.Trod_stays laidOut (by kernel_rfl) (of_decide_eq_true (by kernel_rfl)) h1 (fun x hx=>hb.same (hlt x (by simp [hx]))) (fun x hx=>hsp x (by simp [hx]))) (trodAll_cons_mk (shut_int Tryz.underlying3 w2) trodAll_mk0)))) (fun _ _=>rfl) rfl
  hb (ok_one (by kernel_rfl) rfl (okWide_bool_mk Tryz.underlying4 _))⟩
theorem laid_met (os:Os):laidMet Tryz.prog Rows.arctangentRisesRow.laid ((laidWorld os).forCall (fun _ _=>0) ⟨#[],#[.agg #[.bool false,.slice none 0 0,.int .i64 0,.bool false,.slice none 0 0,.int .i64 0],.agg #[.bool false,.slice none 0 0,.int .i64 0,.bool false,.slice none 0 0,.int .i64 0],.int .i64 0],[]⟩).memory :=
 laidMet_of_run' 64 (by kernel_rfl) (by kernel_rfl)
theorem reads (os:Os){H:Type}(enc:TypeId × Value→H):∃ places,DataW.whole enc Tryz.prog ((laidWorld os).forCall (fun _ _=>0) ⟨#[],#[.agg #[.bool false,.slice none 0 0,.int .i64 0,.bool false,.slice none 0 0,.int .i64 0],.agg #[.bool false,.slice none 0 0,.int .i64 0,.bool false,.slice none 0 0,.int .i64 0],.int .i64 0],[]⟩).memory Tryz.f5.params.toList Rows.arctangentRisesSpec.vars false #[Value.agg #[.bool false,.slice none 0 0,.int .i64 0,.bool false,.slice none 0 0,.int .i64 0],Value.agg #[.bool false,.slice none 0 0,.int .i64 0,.bool false,.slice none 0 0,.int .i64 0],Value.int .i64 0].toList 64=some ([.agg [.agg [.agg [.lit (.bool false),.nil],.lit (.int .i64 0)],.agg [.agg [.lit (.bool false),.nil],.lit (.int .i64 0)]],.agg [.agg [.agg [.lit (.bool false),.nil],.lit (.int .i64 0)],.agg [.agg [.lit (.bool false),.nil],.lit (.int .i64 0)]],.lit (.int .i64 0)],[],places) :=
 ⟨[],by kernel_rfl⟩
set_option maxRecDepth 100000 in
theorem lifted (os:Os)(started:os.Started)(H:Type)(enc:TypeId × Value→H)(F:Stop.Interp) :
  ReturnsInHanded {} Tryz.checked os 5 .any ((OpenSpec.ofChange Rows.arctangentRisesSpec).preRow enc Tryz.prog Tryz.f5 Rows.arctangentRisesRow.domain false Rows.arctangentRisesRow.laid) (((OpenSpec.ofChange Rows.arctangentRisesSpec).at F).post enc Tryz.prog Tryz.f5 false true false false):=by
 obtain⟨places,hx⟩:=reads os enc
 refine returnsInHanded_of_row (C:=Tryz.checked) (s:=OpenSpec.ofChange Rows.arctangentRisesSpec) ownNone started (by kernel_rfl) Tryz.func5
  (witness_row_at (enc:=enc) (C:=Tryz.checked) false (laidWorld os) #[.agg #[.bool false,.slice none 0 0,.int .i64 0,.bool false,.slice none 0 0,.int .i64 0],.agg #[.bool false,.slice none 0 0,.int .i64 0,.bool false,.slice none 0 0,.int .i64 0],.int .i64 0] rfl (by kernel_rfl) (by kernel_rfl) (by kernel_rfl)
   (OpenSpec.preRow_of_cond 64 hx (by kernel_rfl) (fun k hk=>by cases hk) (by kernel_rfl) (laid_met os))) ?_
 intro W base args ds gs before hval hW _ _ _ hL _ _
 exact contract H enc W base args ds gs before hval hW hL
end Go.Proofs.YtkkbddkpggjgpaaGreatDoor.arctangentRises
