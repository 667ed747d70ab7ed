/-
  Lower layers: what functions of the program compute, and plain facts. Conditions: as the theorems say.
-/
import Derived.Test.YtcbihoojfakhdaaGreatDoorChecked
import Derived.Test.YtcbihoojfakhdaaGreatDoorRows
import Derived.WalkKit
import Derived.ProofKit
import Derived.OpenShut
import Derived.Deep.DeepHandedRow
import Derived.Lib.LaidTab
import Derived.Lib.SmallJoins
import Derived.ChangeSlices
import Derived.Carry
import Derived.Test.YtcbihoojfakhdaaGreatDoorCards
import Derived.Test.YtcbihoojfakhdaaGreatDoorTie
import Derived.Test.YtcbihoojfakhdaaGreatDoorPgS
set_option linter.unusedVariables false
set_option linter.unusedSimpArgs false
namespace Go.Proofs.YtcbihoojfakhdaaGreatDoor
open Go.RowKit
set_option maxRecDepth 100000
set_option maxHeartbeats 4000000
theorem l14_ProductsF (b1:Bool)(l1:List Nat)(e1:Int)(b2:Bool)(l2:List Nat)(e2:Int)(b3:Bool)(l3:List Nat)(e3:Int)(b4:Bool)(l4:List Nat)(e4 w m ee n f p q r t ya yb yc yd za zb zc zd vsa vsb vsc vsd vna vnb vnc vnd vra vrb vrc vrd voa vob voc vod vua vub vuc vud vva vvb vvc vvd:Int)(ok:Bool)(qa:Rat)(c0:(-9223372036854775808:Int)≤w∧w≤9223372036854775807)(c1:Impl Tryz.prog Amb 59 [(.agg [(.bool b1),(.sl 1 (U l1)),(.int .i64 e1),(.bool b2),(.sl 1 (U l2)),(.int .i64 e2)]),(.int .i64 4)] (.tup [(wV m ee n f),(.bool false)]))(c2:Impl Tryz.prog Amb 59 [(.agg [(.bool b3),(.sl 1 (U l3)),(.int .i64 e3),(.bool b4),(.sl 1 (U l4)),(.int .i64 e4)]),(.int .i64 4)] (.tup [(wV p q r t),(.bool ok)])):Impl Tryz.prog Amb 11 [(.agg [(.bool b1),(.sl 1 (U l1)),(.int .i64 e1),(.bool b2),(.sl 1 (U l2)),(.int .i64 e2)]),(.agg [(.bool b3),(.sl 1 (U l3)),(.int .i64 e3),(.bool b4),(.sl 1 (U l4)),(.int .i64 e4)]),(.int .i64 w)] (.bool true):=by
 exact impl_ob hP hAmb Tryz.func11 (by kernel_rfl) (.lit<|.call (.bool true)<|.lits 4<|.call (.tup [(wV m ee n f),(.bool false)])<|.lits 3<|.call (.tup [(wV p q r t),(.bool ok)])<|.lits 7<|.ret)
  (cast_ob (aI True.intro (aI (l14_awake ) (aI (c1 ) (aI (c2 ) ((vsub_refl (.bool true))))))) (by kernel_rfl))
theorem l14_ProductsG (b1:Bool)(l1:List Nat)(e1:Int)(b2:Bool)(l2:List Nat)(e2:Int)(b3:Bool)(l3:List Nat)(e3:Int)(b4:Bool)(l4:List Nat)(e4 w m ee n f p q r t ya yb yc yd za zb zc zd vsa vsb vsc vsd vna vnb vnc vnd vra vrb vrc vrd voa vob voc vod vua vub vuc vud vva vvb vvc vvd:Int)(ok:Bool)(qa:Rat)(c0:(-9223372036854775808:Int)≤w∧w≤9223372036854775807)(c1:Impl Tryz.prog Amb 59 [(.agg [(.bool b1),(.sl 1 (U l1)),(.int .i64 e1),(.bool b2),(.sl 1 (U l2)),(.int .i64 e2)]),(.int .i64 4)] (.tup [(wV m ee n f),(.bool true)]))(c2:Impl Tryz.prog Amb 59 [(.agg [(.bool b3),(.sl 1 (U l3)),(.int .i64 e3),(.bool b4),(.sl 1 (U l4)),(.int .i64 e4)]),(.int .i64 4)] (.tup [(wV p q r t),(.bool false)])):Impl Tryz.prog Amb 11 [(.agg [(.bool b1),(.sl 1 (U l1)),(.int .i64 e1),(.bool b2),(.sl 1 (U l2)),(.int .i64 e2)]),(.agg [(.bool b3),(.sl 1 (U l3)),(.int .i64 e3),(.bool b4),(.sl 1 (U l4)),(.int .i64 e4)]),(.int .i64 w)] (.bool true):=by
 exact impl_ob hP hAmb Tryz.func11 (by kernel_rfl) (.lit<|.call (.bool true)<|.lits 4<|.call (.tup [(wV m ee n f),(.bool true)])<|.lits 3<|.call (.tup [(wV p q r t),(.bool false)])<|.lits 8<|.ret)
  (cast_ob (aI True.intro (aI (l14_awake ) (aI (c1 ) (aI (c2 ) ((vsub_refl (.bool true))))))) (by kernel_rfl))
theorem l14_ProductsT (b1:Bool)(l1:List Nat)(e1:Int)(b2:Bool)(l2:List Nat)(e2:Int)(b3:Bool)(l3:List Nat)(e3:Int)(b4:Bool)(l4:List Nat)(e4 w m ee n f p q r t ya yb yc yd za zb zc zd vsa vsb vsc vsd vna vnb vnc vnd vra vrb vrc vrd voa vob voc vod vua vub vuc vud vva vvb vvc vvd:Int)(ok:Bool)(qa:Rat)(c0:(-9223372036854775808:Int)≤w∧w≤9223372036854775807)(c1:Impl Tryz.prog Amb 59 [(.agg [(.bool b1),(.sl 1 (U l1)),(.int .i64 e1),(.bool b2),(.sl 1 (U l2)),(.int .i64 e2)]),(.int .i64 4)] (.tup [(wV m ee n f),(.bool true)]))(c2:Impl Tryz.prog Amb 59 [(.agg [(.bool b3),(.sl 1 (U l3)),(.int .i64 e3),(.bool b4),(.sl 1 (U l4)),(.int .i64 e4)]),(.int .i64 4)] (.tup [(wV p q r t),(.bool true)]))(c3:Impl Tryz.prog Amb 54 [(wV m ee n f),(wV p q r t),(.int .i64 ((w%80)+40))] (.tup [(wV vsa vsb vsc vsd),(.int .i64 0)]))(c4:Impl Tryz.prog Amb 60 [(wV m ee n f),(.int .i64 ((w%80)+40))] (.tup [(wV vna vnb vnc vnd),(.int .i64 0)]))(c5:Impl Tryz.prog Amb 20 [(wV m ee n f),(.int .i64 (w%80))] (.tup [(wV ya yb yc yd),(.int .i64 0)]))(c6:Impl Tryz.prog Amb 20 [(wV p q r t),(.int .i64 (w%80))] (.tup [(wV za zb zc zd),(.int .i64 0)]))(c7:Impl Tryz.prog Amb 20 [(wV vsa vsb vsc vsd),(.int .i64 (w%80))] (.tup [(wV vra vrb vrc vrd),(.int .i64 0)]))(c8:Impl Tryz.prog Amb 20 [(wV vna vnb vnc vnd),(.int .i64 (w%80))] (.tup [(wV voa vob voc vod),(.int .i64 0)]))(c9:Impl Tryz.prog Amb 53 [(wV ya yb yc yd),(wV za zb zc zd),(.int .i64 (w%80))] (.tup [(wV vua vub vuc vud),(.int .i64 0)]))(c10:Impl Tryz.prog Amb 53 [(wV ya yb yc yd),(wV voa vob voc vod),(.int .i64 (w%80))] (.tup [(wV vva vvb vvc vvd),(.int .i64 0)]))(c11:Impl Tryz.prog Amb 52 [(wV vua vub vuc vud),(wV vra vrb vrc vrd)] (.int .i64 0))(c12:Impl Tryz.prog Amb 58 [(.int .i64 1)] (.agg [(.bool (decide (qa.num<0))),(N qa.num.natAbs),(N qa.den)]))(c13:Impl Tryz.prog Amb 57 [(wV vva vvb vvc vvd),(.agg [(.bool (decide (qa.num<0))),(N qa.num.natAbs),(N qa.den)])] (.bool true)):Impl Tryz.prog Amb 11 [(.agg [(.bool b1),(.sl 1 (U l1)),(.int .i64 e1),(.bool b2),(.sl 1 (U l2)),(.int .i64 e2)]),(.agg [(.bool b3),(.sl 1 (U l3)),(.int .i64 e3),(.bool b4),(.sl 1 (U l4)),(.int .i64 e4)]),(.int .i64 w)] (.bool true):=by
 exact impl_ob hP hAmb Tryz.func11 (by kernel_rfl) (.lit<|.call (.bool true)<|.lits 4<|.call (.tup [(wV m ee n f),(.bool true)])<|.lits 3<|.call (.tup [(wV p q r t),(.bool true)])<|.lits 8<|.call (.int .i64 (w%80))<|.lits 3<|.yes<|.lit<|.call (.tup [(wV vsa vsb vsc vsd),(.int .i64 0)])<|.lits 3<|.yes<|.lit<|.call (.tup [(wV vna vnb vnc vnd),(.int .i64 0)])<|.lits 3<|.call (.tup [(wV ya yb yc yd),(.int .i64 0)])<|.lits 3<|.call (.tup [(wV za zb zc zd),(.int .i64 0)])<|.lits 3<|.call (.tup [(wV vra vrb vrc vrd),(.int .i64 0)])<|.lits 3<|.call (.tup [(wV voa vob voc vod),(.int .i64 0)])<|.lits 26<|.call (.tup [(wV vua vub vuc vud),(.int .i64 0)])<|.lits 4<|.call (.tup [(wV vva vvb vvc vvd),(.int .i64 0)])<|.lits 12<|.call (.int .i64 0)<|.lits 7<|.call (.agg [(.bool (decide (qa.num<0))),(N qa.num.natAbs),(N qa.den)])<|.lits 2<|.call (.bool true)<|.lits 2<|.ret)
  (cast_ob (aI True.intro (aI (l14_awake ) (aI (c1 ) (aI (c2 ) (aI (mill_Mod w 80 oS oS) (have f2:=Int.emod_lt_of_pos w (show (0:Int)<80 by first | omega | assumption); have f1:=Int.emod_nonneg w (show (80:Int)≠0 by first | omega | assumption); aI (fits_i64 oS:(fits .i64 ((w%80)+40))=true) (aI (c3 ) (aI (fits_i64 oS:(fits .i64 ((w%80)+40))=true) (aI (c4 ) (aI (c5 ) (aI (c6 ) (aI (c7 ) (aI (c8 ) (aI (c9 ) (aI (c10 ) (aI (c11 ) (aI (c12 ) (aI (c13 ) ((vsub_refl (.bool true))))))))))))))))))))) (by kernel_rfl))
theorem prodA {T g F G B H e p q u r:Rat}(T1:1≤T)(g0:0≤g)(B1:1≤B)(gB:32*(g*B)≤1)(e0:0≤e)(eT:4*(e*T)≤1)(F0:0≤F)(FB:F≤B)(G0:0≤G)(GB:G≤B)
  (p0:0≤p) (q0:0≤q) (h1:p≤F*T+g) (h2:q≤G*T+g) (hu:u*T≤p*q) (hH:F*G≤H+e) (hr:H*T≤r+g):u<r+1:=by
 have T0:0<T:=by grind
 have m1:=Rat.mul_le_mul_of_nonneg_right h1 q0
 have m2:=Rat.mul_le_mul_of_nonneg_left h2 (show 0≤F*T+g by have:=Rat.mul_nonneg F0 (Rat.le_of_lt T0); grind)
 have m3:=Rat.mul_le_mul_of_nonneg_right hH (Rat.mul_nonneg (Rat.le_of_lt T0) (Rat.le_of_lt T0))
 have m4:=Rat.mul_le_mul_of_nonneg_right hr (Rat.le_of_lt T0)
 have m5:=Rat.mul_le_mul_of_nonneg_right eT (Rat.le_of_lt T0)
 have m6:=Rat.mul_le_mul_of_nonneg_left (show F+G≤2*B by grind) (Rat.mul_nonneg g0 (Rat.le_of_lt T0))
 have m7:=Rat.mul_le_mul_of_nonneg_right gB (Rat.le_of_lt T0)
 have gg:g≤g*B:=by have:=Rat.mul_le_mul_of_nonneg_left B1 g0; grind
 have g1:g≤1:=by grind
 have m8:=Rat.mul_le_mul_of_nonneg_left g1 g0
 have m9:=Rat.mul_le_mul_of_nonneg_right gg (Rat.le_of_lt T0)
 have m10:=Rat.mul_le_mul_of_nonneg_left T1 g0
 have x1:(F*T+g)*(G*T+g)=F*G*(T*T)+g*T*(F+G)+g*g:=by grind
 have x2:(H+e)*(T*T)=H*T*T+e*T*T:=by grind
 have x3:4*(e*T)*T=4*(e*T*T):=by grind
 have x4:g*T*(2*B)=2*(g*B*T):=by grind
 have x5:32*(g*B)*T=32*(g*B*T):=by grind
 have x6:(r+g)*T=r*T+g*T:=by grind
 rw [x1] at m2
 rw [x2] at m3
 rw [x3] at m5
 rw [x4] at m6
 rw [x5] at m7
 rw [x6] at m4
 refine Rat.lt_of_mul_lt_mul_right (c:=T) ?_ (Rat.le_of_lt T0)
 rw [show (r+1)*T=r*T+T by grind]
 clear x1 x2 x3 x4 x5 x6 h1 h2 hH hr eT gB
 generalize F*G*(T*T)=a1 at *
 generalize g*T*(F+G)=a2 at *
 generalize H*T*T=a3 at *
 generalize e*T*T=a4 at *
 generalize g*B*T=a5 at *
 generalize r*T=a6 at *
 generalize u*T=a7 at *
 generalize (F*T+g)*q=a8 at *
 generalize p*q=a9 at *
 generalize g*g=a10 at *
 generalize g*T=a11 at *
 generalize g*B=a12 at *
 grind
theorem prodB {T g F G B H e p q u r:Rat}(T1:1≤T)(g0:0≤g)(B1:1≤B)(gB:32*(g*B)≤1)(e0:0≤e)(eT:4*(e*T)≤1)(F0:0≤F)(G0:0≤G)
  (p0:0≤p) (q0:0≤q) (h1:F*T≤p+g) (h2:G*T≤q+g) (pB:p≤B*T+3) (qB:q≤B*T+3) (hu:p*q≤u*T) (hH:H≤F*G+e) (hr:r≤H*T+g):r<u+1:=by
 have T0:0<T:=by grind
 have m1:=Rat.mul_le_mul_of_nonneg_right h1 (Rat.mul_nonneg G0 (Rat.le_of_lt T0))
 have m2:=Rat.mul_le_mul_of_nonneg_left h2 (show 0≤p+g by grind)
 have m3:=Rat.mul_le_mul_of_nonneg_right hH (Rat.mul_nonneg (Rat.le_of_lt T0) (Rat.le_of_lt T0))
 have m4:=Rat.mul_le_mul_of_nonneg_right hr (Rat.le_of_lt T0)
 have m5:=Rat.mul_le_mul_of_nonneg_right eT (Rat.le_of_lt T0)
 have m6:=Rat.mul_le_mul_of_nonneg_left (show p+q≤2*(B*T)+6 by grind) g0
 have m7:=Rat.mul_le_mul_of_nonneg_right gB (Rat.le_of_lt T0)
 have gg:g≤g*B:=by have:=Rat.mul_le_mul_of_nonneg_left B1 g0; grind
 have g1:g≤1:=by grind
 have m8:=Rat.mul_le_mul_of_nonneg_left g1 g0
 have m9:=Rat.mul_le_mul_of_nonneg_right gg (Rat.le_of_lt T0)
 have m10:=Rat.mul_le_mul_of_nonneg_left T1 g0
 have x1:(p+g)*(q+g)=p*q+g*(p+q)+g*g:=by grind
 have x2:(F*G+e)*(T*T)=F*T*(G*T)+e*T*T:=by grind
 have x3:4*(e*T)*T=4*(e*T*T):=by grind
 have x4:g*(2*(B*T)+6)=2*(g*B*T)+6*g:=by grind
 have x5:32*(g*B)*T=32*(g*B*T):=by grind
 have x6:(H*T+g)*T=H*(T*T)+g*T:=by grind
 rw [x1] at m2
 rw [x2] at m3
 rw [x3] at m5
 rw [x4] at m6
 rw [x5] at m7
 rw [x6] at m4
 refine Rat.lt_of_mul_lt_mul_right (c:=T) ?_ (Rat.le_of_lt T0)
 rw [show (u+1)*T=u*T+T by grind]
 clear x1 x2 x3 x4 x5 x6 h1 h2 hH hr eT gB pB qB
 generalize F*T*(G*T)=a1 at *
 generalize (p+g)*(G*T)=a2 at *
 generalize H*(T*T)=a3 at *
 generalize e*T*T=a4 at *
 generalize g*B*T=a5 at *
 generalize r*T=a6 at *
 generalize u*T=a7 at *
 generalize g*(p+q)=a8 at *
 generalize p*q=a9 at *
 generalize g*g=a10 at *
 generalize g*T=a11 at *
 generalize g*B=a12 at *
 grind
def Bd (f:Nat→Rat)(B:Rat):Prop:=∃ N,∀ K,N≤K→0≤f K∧f K≤B
theorem eps_T {t:Nat}{T:Rat}(hT:T=((2^t:Int):Rat)):1≤T∧∃ e:Rat,0<e∧4*(e*T)≤1:=by
 have P:(0:Rat)<T:=by rw [hT]; exact Rat.intCast_pos.2 (two_pos t)
 have P1:(1:Rat)≤T:=by rw [hT]; exact Rat.intCast_le_intCast.2 (show (1:Int)≤2^t from two_pos t)
 have i0:=Rat.inv_pos.2 P
 have ie:=inv_one P
 refine ⟨P1,T⁻¹*(1 / 4),Rat.mul_pos i0 (of_decide_eq_true (by kernel_rfl)),?_⟩
 have:T⁻¹*(1 / 4)*T=T⁻¹*T*(1 / 4):=by grind
 rw [this,ie]
 exact of_decide_eq_true (by kernel_rfl)
theorem prod_lo {f k h:Nat→Rat}{t:Nat}{p p' q q' r' r u:Int}{g B:Rat}(ef:EnE f t p p' g)(ek:EnE k t q q' g)(eh:EnE h t r' r g)(hl:Lq (fun K=>f K*k K) h)(bf:Bd f B)(bk:Bd k B)(g0:0≤g)(B1:1≤B)(gB:32*(g*B)≤1)
  (p0:0≤p) (q0:0≤q) (hu:(u:Rat)*((2^t:Int):Rat)≤(p:Rat)*(q:Rat)):u≤r:=by
 obtain ⟨T1,e,e0,eT⟩:=eps_T (t:=t) rfl
 obtain ⟨N1,ef⟩:=ef
 obtain ⟨N2,ek⟩:=ek
 obtain ⟨N3,eh⟩:=eh
 obtain ⟨N4,hl⟩:=hl e e0
 obtain ⟨N5,bf⟩:=bf
 obtain ⟨N6,bk⟩:=bk
 have ef:=ef (N1+N2+N3+N4+N5+N6) oO
 have ek:=ek (N1+N2+N3+N4+N5+N6) oO
 have eh:=eh (N1+N2+N3+N4+N5+N6) oO
 have hl:=hl (N1+N2+N3+N4+N5+N6) oO
 have bf:=bf (N1+N2+N3+N4+N5+N6) oO
 have bk:=bk (N1+N2+N3+N4+N5+N6) oO
 have key:=prodA T1 g0 B1 gB (Rat.le_of_lt e0) eT bf.1 bf.2 bk.1 bk.2 (Rat.intCast_nonneg.2 p0) (Rat.intCast_nonneg.2 q0) ef.1 ek.1 hu hl eh.2
 have key:u<r+1:=Rat.intCast_lt_intCast.1 (by rw [Rat.intCast_add r 1]; exact key)
 omega
theorem hi_le {f:Nat→Rat}{t:Nat}{l h:Int}{g:Rat}{B:Int}(e:EnE f t l h g)(bf:Bd f (B:Rat))(hw:h-l≤2)(g1:g≤1):h≤B*2^t+3:=by
 obtain ⟨N,e⟩:=e
 obtain ⟨M,bf⟩:=bf
 have e:=(e (N+M) oO).1
 have b:=(bf (N+M) oO).2
 have P:(0:Rat)<((2^t:Int):Rat):=Rat.intCast_pos.2 (two_pos t)
 have m:=Rat.mul_le_mul_of_nonneg_right b (Rat.le_of_lt P)
 have:(l:Rat)≤((B*2^t+1:Int):Rat):=by
  rw [Rat.intCast_add,Rat.intCast_mul]
  show _≤_+(1:Rat)
  grind
 have:=Rat.intCast_le_intCast.1 this
 omega
theorem prod_hi {f k h:Nat→Rat}{t:Nat}{p p' q q' r' r u:Int}{g:Rat}{B:Int}(ef:EnE f t p' p g)(ek:EnE k t q' q g)(eh:EnE h t r r' g)(hl:Lq h (fun K=>f K*k K))(bf:Bd f (B:Rat))(bk:Bd k (B:Rat))(g0:0≤g)(B1:(1:Rat)≤(B:Rat))(gB:32*(g*(B:Rat))≤1)
  (p0:0≤p) (q0:0≤q) (pB:p≤B*2^t+3) (qB:q≤B*2^t+3) (hu:(p:Rat)*(q:Rat)≤(u:Rat)*((2^t:Int):Rat)):r≤u:=by
 obtain ⟨T1,e,e0,eT⟩:=eps_T (t:=t) rfl
 obtain ⟨N1,ef⟩:=ef
 obtain ⟨N2,ek⟩:=ek
 obtain ⟨N3,eh⟩:=eh
 obtain ⟨N4,hl⟩:=hl e e0
 obtain ⟨N5,bf⟩:=bf
 obtain ⟨N6,bk⟩:=bk
 have ef:=ef (N1+N2+N3+N4+N5+N6) oO
 have ek:=ek (N1+N2+N3+N4+N5+N6) oO
 have eh:=eh (N1+N2+N3+N4+N5+N6) oO
 have hl:=hl (N1+N2+N3+N4+N5+N6) oO
 have bf:=bf (N1+N2+N3+N4+N5+N6) oO
 have bk:=bk (N1+N2+N3+N4+N5+N6) oO
 have pB:=Rat.intCast_le_intCast.2 pB
 have qB:=Rat.intCast_le_intCast.2 qB
 rw [Rat.intCast_add,Rat.intCast_mul] at pB qB
 have key:=prodB T1 g0 B1 gB (Rat.le_of_lt e0) eT bf.1 bk.1 (Rat.intCast_nonneg.2 p0) (Rat.intCast_nonneg.2 q0) ef.2 ek.2 pB qB hu hl eh.1
 have key:r<u+1:=Rat.intCast_lt_intCast.1 (by rw [Rat.intCast_add u 1]; exact key)
 omega
theorem EP16 {x:Rat}(h1:-16≤x)(h2:x≤16):Bd (EP x) ((16777216:Int):Rat):=by
 obtain ⟨p,p0,N,hp⟩:=EP_pos x
 refine ⟨N,fun K hK=>⟨by have:=hp K hK; grind,?_⟩⟩
 refine Rat.le_trans (EP_bd h1 h2 K).2 (Rat.le_trans (EP_tail (x:=16) (by decide) (n:=32) (of_decide_eq_true (by kernel_rfl)) K) ?_)
 exact of_decide_eq_true (by kernel_rfl)
theorem fl_fit {x v R:Int}{r:Rat}(hv:0≤v∧v≤119)(hR:0≤R∧R≤33)(r1:((-R:Int):Rat)≤r)(r2:r≤(R:Rat))(hx:x=flr r v∨x=cei r v):(((-R:Int):Rat)≤dv x (-v)∧dv x (-v)≤(R:Rat))∧L x.natAbs≤4:=by
 have k:∀ k:Int,dv (k*2^v.toNat) (-v)=(k:Rat):=fun k=>by
  rw [dv_shl,show (-v+(v.toNat:Int))=0 by omega]; unfold dv; rw [zp_zero,Rat.mul_one]
 have k1:=k (-R)
 have k2:=k R
 have b:(-R)*2^v.toNat≤x∧x≤R*2^v.toNat:=by
  rcases hx with h | h
  ·rw [h]
   exact ⟨le_flr.2 (by rw [k1]; exact r1),dv_le.1 (Rat.le_trans (flr_le r v) (by rw [k2]; exact r2))⟩
  ·rw [h]
   exact ⟨dv_le.1 (Rat.le_trans (by rw [k1]; exact r1) (cei_ge r v)),cei_le.2 (by rw [k2]; exact r2)⟩
 refine ⟨⟨?_,?_⟩,?_⟩
 ·have:=(dv_le (c:=-v)).2 b.1
  rw [k1] at this; exact this
 ·have:=(dv_le (c:=-v)).2 b.2
  rw [k2] at this; exact this
 ·have e:((2^(v.toNat+6):Nat):Int)=2^v.toNat*64:=by rw [← pow_cast,Int.pow_add]; rfl
  have P:=two_pos v.toNat
  have m1:=Int.mul_le_mul_of_nonneg_right hR.2 (Int.le_of_lt P)
  have m2:(-R)*2^v.toNat=-(R*2^v.toNat):=Int.neg_mul _ _
  exact L_pow2 (n:=v.toNat+6) oO oO
theorem one_EnE (t:Nat){g:Rat}(g0:0≤g):EnE (fun _=>1) t (2^t) (2^t) g:=⟨0,fun K _=>by rw [Rat.one_mul]; constructor<;>grind⟩
theorem L_le3 {x w:Int}(hw:0≤w∧w≤200)(h1:0≤x)(h2:x≤16777216*2^w.toNat+3):L x.natAbs≤8:=by
 have e:((2^(w.toNat+25):Nat):Int)=2^w.toNat*33554432:=by rw [← pow_cast,Int.pow_add]; rfl
 have:=two_pos w.toNat
 exact L_pow2 (n:=w.toNat+25) oO oO
theorem l14_ExponentialProducts (b1:Bool)(l1:List Nat)(e1:Int)(b2:Bool)(l2:List Nat)(e2:Int)(b3:Bool)(l3:List Nat)(e3:Int)(b4:Bool)(l4:List Nat)(e4 w:Int)(c0:Dig l1)(c1:l1.length≤9223372036854775807)(c2:(-9223372036854775808:Int)≤e1∧e1≤9223372036854775807)(c3:Dig l2)(c4:l2.length≤9223372036854775807)(c5:(-9223372036854775808:Int)≤e2∧e2≤9223372036854775807)(d0:Dig l3)(d1:l3.length≤9223372036854775807)(d2:(-9223372036854775808:Int)≤e3∧e3≤9223372036854775807)(d3:Dig l4)(d4:l4.length≤9223372036854775807)(d5:(-9223372036854775808:Int)≤e4∧e4≤9223372036854775807)(c6:(-9223372036854775808:Int)≤w∧w≤9223372036854775807):Impl Tryz.prog Amb 11 [(.agg [(.bool b1),(.sl 1 (U l1)),(.int .i64 e1),(.bool b2),(.sl 1 (U l2)),(.int .i64 e2)]),(.agg [(.bool b3),(.sl 1 (U l3)),(.int .i64 e3),(.bool b4),(.sl 1 (U l4)),(.int .i64 e4)]),.int .i64 w] (.bool true):=by
 have w1:=Int.emod_nonneg w (show (80:Int)≠0 by omega)
 have w2:=Int.emod_lt_of_pos w (show (0:Int)<80 by omega)
 obtain ⟨m,ee,n,f,ok1,hA,⟨lm,ln⟩,⟨le,lf⟩,hok1⟩:=l14_argN b1 l1 e1 b2 l2 e2 4 c0 c1 c2 c3 c4 c5 oO
 obtain ⟨p,q,r,t,ok2,hB,⟨lp,lr⟩,⟨lq,lt⟩,hok2⟩:=l14_argN b3 l3 e3 b4 l4 e4 4 d0 d1 d2 d3 d4 d5 oO
 cases ok1 with
 | false=>exact l14_ProductsF b1 l1 e1 b2 l2 e2 b3 l3 e3 b4 l4 e4 w m ee n f p q r t 0 0 0 0 0 0 0 0 0 0 0 0 0 0 0 0 0 0 0 0 0 0 0 0 0 0 0 0 0 0 0 0 ok2 0 c6 hA hB
 | true =>
  cases ok2 with
  | false=>exact l14_ProductsG b1 l1 e1 b2 l2 e2 b3 l3 e3 b4 l4 e4 w m ee n f p q r t 0 0 0 0 0 0 0 0 0 0 0 0 0 0 0 0 0 0 0 0 0 0 0 0 0 0 0 0 0 0 0 0 false 0 c6 hA hB
  | true =>
   obtain ⟨⟨t1,t2⟩,⟨v1,v2⟩,o1⟩:=hok1 rfl
   obtain ⟨⟨t3,t4⟩,⟨v3,v4⟩,o2⟩:=hok2 rfl
   have s1:=dv_tople t1
   have s2:=dv_tople t2
   have s3:=dv_tople t3
   have s4:=dv_tople t4
   have h5:dv 1 4=16:=of_decide_eq_true (by kernel_rfl)
   rw [h5] at s1 s2 s3 s4
   have c69:((69:Int):Rat)=69:=rfl
   generalize hv:w%80=v at *
   obtain ⟨i1,j1,i2,j2,hP,⟨E1,wa,p1,z1⟩,⟨E2,wb,p2,z2⟩,z3⟩:=ex_ExpN m ee n f v 69 oO oO oO (by grind) (by rw [c69]; grind) oO oO (by grind) (by rw [c69]; grind) oO oO
   obtain ⟨i3,j3,i4,j4,hQ,⟨E3,wc,p3,z4⟩,⟨E4,wd,p4,z5⟩,z6⟩:=ex_ExpN p q r t v 69 oO oO oO (by grind) (by rw [c69]; grind) oO oO (by grind) (by rw [c69]; grind) oO oO
   -- the sum
   have F1:FitI m ee n f:=⟨⟨by omega,by omega,by omega⟩,⟨by omega,by omega,by omega⟩,o1⟩
   have F2:FitI p q r t:=⟨⟨by omega,by omega,by omega⟩,⟨by omega,by omega,by omega⟩,o2⟩
   have hS:=impl_eq (enV_ok (ad_ok (w:=v+40) F1 F2 oO)) (ar_Add m ee n f p q r t (v+40) oO oO oO oO oO oO oO oO (ad_fine oO oO oO oO) (ad_fine oO oO oO oO) oO)
   have a1:=fl_fit (v:=v+40) (R:=32) (r:=dv m ee+dv p q) oO oO (by show (-32:Rat)≤_; grind) (by show _≤(32:Rat); grind) (.inl rfl)
   have a2:=fl_fit (v:=v+40) (R:=32) (r:=dv n f+dv r t) oO oO (by show (-32:Rat)≤_; grind) (by show _≤(32:Rat); grind) (.inr rfl)
   have y1:=flr_le (dv m ee+dv p q) (v+40)
   have y2:=cei_ge (dv n f+dv r t) (v+40)
   have a3:=fl_fit (v:=v+40) (R:=16) (r:=-(dv n f)) oO oO (by show (-16:Rat)≤_; grind) (by show _≤(16:Rat); grind) (.inl rfl)
   have a4:=fl_fit (v:=v+40) (R:=16) (r:=-(dv m ee)) oO oO (by show (-16:Rat)≤_; grind) (by show _≤(16:Rat); grind) (.inr rfl)
   have y3:=flr_le (-(dv n f)) (v+40)
   have y4:=cei_ge (-(dv m ee)) (v+40)
   have hN:=impl_eq (enV_ok (en_ok (lo:=-(dv n f)) (hi:=-(dv m ee)) (w:=v+40) oO (Rat.neg_le_neg o1) oO oO)) (ar_Neg m ee n f (v+40) oO oO oO oO oO)
   have u1:(-32≤dv (flr (dv m ee+dv p q) (v+40)) (-(v+40))∧dv (flr (dv m ee+dv p q) (v+40)) (-(v+40))≤32):=a1.1
   have u2:(-32≤dv (cei (dv n f+dv r t) (v+40)) (-(v+40))∧dv (cei (dv n f+dv r t) (v+40)) (-(v+40))≤32):=a2.1
   have u3:(-16≤dv (flr (-(dv n f)) (v+40)) (-(v+40))∧dv (flr (-(dv n f)) (v+40)) (-(v+40))≤16):=a3.1
   have u4:(-16≤dv (cei (-(dv m ee)) (v+40)) (-(v+40))∧dv (cei (-(dv m ee)) (v+40)) (-(v+40))≤16):=a4.1
   generalize flr (dv m ee+dv p q) (v+40)=sa at *
   generalize cei (dv n f+dv r t) (v+40)=sb at *
   generalize flr (-(dv n f)) (v+40)=na at *
   generalize cei (-(dv m ee)) (v+40)=nb at *
   have g1:=dv_g (a:=sa) (w:=v+40) a1.2 oO oO
   have g2:=dv_g (a:=sb) (w:=v+40) a2.2 oO oO
   have g3:=dv_g (a:=na) (w:=v+40) a3.2 oO oO
   have g4:=dv_g (a:=nb) (w:=v+40) a4.2 oO oO
   have ge:=gE_b
   obtain ⟨i5,j5,i6,j6,hR,⟨E5,we,p5,z7⟩,⟨E6,wf,p6,z8⟩,z9⟩:=ex_ExpN (mkM sa (-(v+40))) (mkX sa (-(v+40))) (mkM sb (-(v+40))) (mkX sb (-(v+40))) v 69 oO oO oO (by rw [g1.1]; grind) (by rw [g1.1,c69]; grind) oO oO (by rw [g2.1]; grind) (by rw [g2.1,c69]; grind) oO oO
   obtain ⟨i7,j7,i8,j8,hO,⟨E7,wg,p7,zA⟩,⟨E8,wh,p8,zB⟩,zC⟩:=ex_ExpN (mkM na (-(v+40))) (mkX na (-(v+40))) (mkM nb (-(v+40))) (mkX nb (-(v+40))) v 69 oO oO oO (by rw [g3.1]; grind) (by rw [g3.1,c69]; grind) oO oO (by rw [g4.1]; grind) (by rw [g4.1,c69]; grind) oO oO
   rw [g1.1] at E5
   rw [g2.1] at E6
   rw [g3.1] at E7
   rw [g4.1] at E8
   have gb:gE≤1:=by grind
   have ge2:gE+gE<1:=by grind
   have g0:0≤gE:=by grind
   have gB:32*(gE*((16777216:Int):Rat))≤1:=of_decide_eq_true (by kernel_rfl)
   have B1:(1:Rat)≤((16777216:Int):Rat):=of_decide_eq_true (by kernel_rfl)
   have Z1:=EP16 (x:=dv m ee) (by grind) (by grind)
   have Z2:=EP16 (x:=dv n f) (by grind) (by grind)
   have Z3:=EP16 (x:=dv p q) (by grind) (by grind)
   have Z4:=EP16 (x:=dv r t) (by grind) (by grind)
   have Z7:=EP16 (x:=dv na (-(v+40))) (by grind) (by grind)
   have Z8:=EP16 (x:=dv nb (-(v+40))) (by grind) (by grind)
   have O1:=E1.le E2 (EP_mono_lim o1) ge2
   have O2:=E3.le E4 (EP_mono_lim o2) ge2
   have O3:=E7.le E8 (EP_mono_lim (by grind)) ge2
   have H2:=hi_le E2 Z2 wb gb
   have H4:=hi_le E4 Z4 wd gb
   have H8:=hi_le E8 Z8 wh gb
   have T0:=two_pos v.toNat
   have L1:=L_le3 (x:=i1) (w:=v) oO oO oO
   have L2:=L_le3 (x:=j2) (w:=v) oO oO oO
   have L3:=L_le3 (x:=i3) (w:=v) oO oO oO
   have L4:=L_le3 (x:=j4) (w:=v) oO oO oO
   have L7:=L_le3 (x:=i7) (w:=v) oO oO oO
   have L8:=L_le3 (x:=j8) (w:=v) oO oO oO
   obtain ⟨ua,ub,hU,ou,lu,mu,_⟩:=g_mul i1 j2 i3 j4 v oO O1 O2 L1 L2 L3 L4
   obtain ⟨va,vb,hV,ov,lv,mv,_⟩:=g_mul i1 j2 i7 j8 v oO O1 O3 L1 L2 L7 L8
   have I1:=Rat.intCast_le_intCast.2 O1
   have I2:=Rat.intCast_le_intCast.2 O2
   have I3:=Rat.intCast_le_intCast.2 O3
   have k1:=prod_lo E1 E3 E6 ((EP_add _ _).2.trans (EP_mono_lim (by grind))) Z1 Z3 g0 B1 gB p1 p3 (mu (i1:Rat) (i3:Rat) Rat.le_refl I1 Rat.le_refl I2).1
   have k2:=prod_hi E2 E4 E5 ((EP_mono_lim (by grind)).trans (EP_add (dv n f) (dv r t)).1) Z2 Z4 g0 B1 gB oO oO H2 H4 (mu (j2:Rat) (j4:Rat) I1 Rat.le_refl I2 Rat.le_refl).2
   have one:=one_EnE v.toNat g0
   have z0:Lm (EP 0) (fun _=>1):=Lm.of_eq (N:=1) fun K hK=>EP_zero' K hK
   have k3:=prod_lo E1 E7 one ((EP_add _ _).2.trans ((EP_mono_lim (show dv m ee+dv na (-(v+40))≤0 by grind)).trans z0.1)) Z1 Z7 g0 B1 gB p1 p7 (mv (i1:Rat) (i7:Rat) Rat.le_refl I1 Rat.le_refl I3).1
   have k4:=prod_hi E2 E8 one (z0.2.trans ((EP_mono_lim (show 0≤dv n f+dv nb (-(v+40)) by grind)).trans (EP_add _ _).1)) Z2 Z8 g0 B1 gB oO oO H2 H8 (mv (j2:Rat) (j8:Rat) I1 Rat.le_refl I3 Rat.le_refl).2
   have hC:=g_cmp ua ub i5 j6 v oO lu.1 lu.2 oO oO k2 k1
   have hH:=g_has va vb 1 v oO lv.1 lv.2 oO oO oO
   subst hv
   exact l14_ProductsT b1 l1 e1 b2 l2 e2 b3 l3 e3 b4 l4 e4 w m ee n f p q r t _ _ _ _ _ _ _ _ _ _ _ _ _ _ _ _ _ _ _ _ _ _ _ _ _ _ _ _ _ _ _ _ true _ c6 hA hB hS hN hP hQ hR hO hU hV hC (r07_Of 1 oO) hH
end Go.Proofs.YtcbihoojfakhdaaGreatDoor

namespace Go.Proofs.YtcbihoojfakhdaaGreatDoor
open Go.ChangeShapes Go.WideShapes Go.ChangeAt Go.RowKit
theorem ownNone:ownKnob Tryz.prog.godebug=none:=by kernel_rfl
theorem gTab:Tryz.prog.globalNamed "math/bits.deBruijn32tab"=some 0:=by kernel_rfl
theorem gTabType:(Tryz.prog.globals[0]?).map (·.type)=some 184:=by kernel_rfl
theorem cellsTab:Tryz.prog.cellsOf 184=32:=by kernel_rfl
theorem cellsU8:Tryz.prog.cellsOf 5=1:=by kernel_rfl
theorem amb_of {W:World}(h:laidMetH Tryz.prog [("math/bits.deBruijn32tab",Rows.laid_math_bits_deBruijn32tab)] W):Amb W:=by
 have t:Lib.TabIs Tryz.prog W "math/bits.deBruijn32tab" .u8 tab32:=Lib.tabIs_of_head (rest:=[]) gTab gTabType Tryz.underlying184 Tryz.underlying5 cellsU8 cellsTab h
 intro i v hi
 have hlt:i<tab32.length:=by
  rcases Nat.lt_or_ge i tab32.length with q | q
  ·exact q
  ·rw [List.getElem?_eq_none q] at hi; cases hi
 have h1:=t.cell gTab i hlt
 rw [List.getD_eq_getElem?_getD,hi] at h1
 exact h1
theorem int_wf {n:Int}(h:(Lit.int .i64 n).wf=true):(-9223372036854775808:Int)≤n∧n≤9223372036854775807:=by
 simp only [Lit.wf,Bool.and_eq_true,decide_eq_true_eq] at h
 simp [IntKind.min,IntKind.max,IntKind.signed,IntKind.bits] at h
 omega
noncomputable def laidWorld (os : Os) : World :=
  { World.holding Tryz.prog os ⟨#[], #[], []⟩ with heap := (World.holding Tryz.prog os ⟨#[], #[], []⟩).heap.modify 0 fun
      | .cells _ t frozen => .cells (tab32.map (Value.int .u8)).toArray t frozen
      | o => o }
theorem post_of_below {H:Type}{enc:TypeId × Value→H}{P:Program}{f:Func}{s:ChangeSpec}{apart fresh handsOn again:Bool}{W W':World}{args:Array Value}{v:Value}{ds gs:List (DataW H)}{before pa pv:List MemPlace}
  (hW:DataW.Whole enc P f.params.toList s.vars apart W args.toList ds gs before)
  (hres:∀ (b:Nat) (sp:Nat→Bool) (hd:Bool),DataW.TrodAll enc P W' b sp hd f.resultTypes.toList (v.resultList f.resultTypes.size) (s.fn H (ds ++ gs)).results [])
  (hargs:∀ sp:Nat→Bool,(∀ p∈before,sp p.block=true)→DataW.TrodAll enc P W' 0 sp true f.params.toList args.toList (s.fn H (ds ++ gs)).args pa)
  (hvars:∀ sp:Nat→Bool,(∀ p∈before,sp p.block=true)→DataW.TrodVars enc P W' sp s.vars (s.fn H (ds ++ gs)).vars pv)
  (hps:before=pa ++ pv) (hb:Below W.heap.size W W')
  (hok:∀ (j:Nat) (t:TypeId) (r:Value),f.resultTypes[j]?=some t→(v.resultList f.resultTypes.size)[j]?=some r→Value.okWide P W' .any 0 t r):s.post enc P f apart fresh handsOn again W args v W':=by
 have lt:=hW.lt
 have old:∀ p∈before,(fun b=>decide (b<W.heap.size)) p.block=true:=fun p hp=>decide_eq_true (lt p hp)
 subst hps
 refine ⟨ds,gs,pa ++ pv,[],pa,pv,hW,hres _ _ _,hargs _ old,hvars _ old,hb.frame _,fun _=>?_⟩
 obtain ⟨_,_,_,_,_,hz,hn⟩:=hW
 have h1:=trodAll_append (hargs (fun _=>true) fun _ _=>rfl) (hres 0 (fun _=>true) true)
 refine ⟨hok,_,_,_,⟨_,pv,h1,hvars _ fun _ _=>rfl,rfl,fun b off hp=>?_,fun ha=>?_⟩,fun p hp _=>?_⟩
 ·have hp':MemPlace.cell b off∈pa ++ pv:=by simpa using hp
  rw [hb.frozen (lt _ hp')]
  exact hz b off hp'
 ·simpa using hn ha
 ·simpa using hp
end Go.Proofs.YtcbihoojfakhdaaGreatDoor

namespace Go.Proofs.YtcbihoojfakhdaaGreatDoor
open Go.ChangeShapes Go.WideShapes Go.ChangeAt Go.RowKit
set_option maxRecDepth 100000
variable {H:Type} {enc:TypeId × Value→H} {W:World} {sp:Nat→Bool} {held:Bool}
theorem laidOut:laidOutB Tryz.prog=true:=by kernel_rfl
theorem cellsU32:Tryz.prog.cellsOf 141=1:=by kernel_rfl
theorem cellsSl:Tryz.prog.cellsOf 22=1:=by kernel_rfl
theorem cellsBool:Tryz.prog.cellsOf 4=1:=by kernel_rfl
theorem cellsInt:Tryz.prog.cellsOf 3=1:=by kernel_rfl
theorem cellsZ:Tryz.prog.cellsOf 24=2:=by kernel_rfl
theorem cellsY:Tryz.prog.cellsOf 26=3:=by kernel_rfl
theorem cellsW:Tryz.prog.cellsOf 38=6:=by kernel_rfl
theorem rdl_U (S:Nat→Prop):∀ l:List Nat,RdL W S (l.map fun (d:Nat)=>Value.int .u32 (d:Int)) (U l)
 | []=>.nil
 | _::l=>.cons .int (rdl_U S l)
theorem wf_u32 {n:Int}(h:(Lit.int .u32 n).wf=true):0≤n∧n<4294967296:=by
 simp only [Lit.wf,Bool.and_eq_true,decide_eq_true_eq] at h
 simp [IntKind.min,IntKind.max,IntKind.signed,IntKind.bits] at h
 omega
theorem open_slice32 {n:Nat}{c:Value}{x:DataW H × List MemPlace}{b0:Nat}(h:DataW.trod enc Tryz.prog W 0 sp held n 22 [c]=some x)(hok:Cell.okWide Tryz.prog W .any b0 22 c) :
  ∃ l:List Nat,Dig l∧l.length≤maxLen∧Rd W (fun _=>True) c (.sl 1 (U l)):=by
 rcases open_ints Tryz.underlying22 Tryz.underlying141 cellsU32 h with ⟨hc,_⟩ | ⟨a,len,cap,zs,hc,_,hl,hm,hz,_,hcell,hwf⟩
 ·obtain rfl:c=.slice none 0 0:=by simpa using hc
  exact ⟨[],(fun d hd=>by cases hd),Nat.zero_le _,.nilsl⟩
 ·obtain rfl:c=.slice (some a) len cap:=by simpa using hc
  have hlen:len≤zs.length:=by rw [hz]; split<;>omega
  simp only [Cell.okWide,Cell.ok,Tryz.underlying22,World.has] at hok
  obtain ⟨_,_,_,hs,row,cells,hsh,_⟩:=hok
  obtain ⟨ab,ao,spot⟩:=a
  simp only at hs hsh
  subst hs
  have hb:ab<W.heap.size:=by
   unfold World.shape? at hsh
   split at hsh
   ·rename_i q; exact (Array.getElem?_eq_some_iff.1 q).1
   ·cases hsh
  refine ⟨(zs.take len).map Int.toNat,?_,?_,?_⟩
  ·intro d hd
   obtain ⟨z,hz',rfl⟩:=List.mem_map.1 hd
   have:=wf_u32 (hwf z (List.mem_of_mem_take hz'))
   show z.toNat<4294967296
   omega
  ·simp; omega
  ·refine .sl (vals:=((zs.take len).map Int.toNat).map fun (d:Nat)=>Value.int .u32 (d:Int)) trivial hb hl (by simp [U]; omega) (rdl_U _ _) ?_
   intro i v hv
   simp only [List.getElem?_map,Option.map_eq_some_iff] at hv
   obtain ⟨d,⟨z,hz',rfl⟩,rfl⟩:=hv
   have hi:i<len:=by
    rcases Nat.lt_or_ge i len with q | q
    ·exact q
    ·rw [List.getElem?_eq_none (by simp; omega)] at hz'; cases hz'
   rw [List.getElem?_take,if_pos hi] at hz'
   have h1:=hcell i (by omega)
   rw [List.getD_eq_getElem?_getD,hz'] at h1
   have h2:=wf_u32 (hwf z (List.mem_of_getElem? hz'))
   have h3:((z.toNat:Nat):Int)=z:=Int.toNat_of_nonneg h2.1
   simp only [Option.getD_some] at h1
   rw [h3]
   have h4:(Addr.mk ab ao none).add i=⟨ab,ao+i,none⟩:=by
    unfold Addr.add; split
    ·rename_i q; subst q; rfl
    ·rfl
   rw [h4] at h1
   exact h1
theorem open_Z {n:Nat}{c0 c1:Value}{x:DataW H × List MemPlace}{b0:Nat}(h:DataW.trod enc Tryz.prog W 0 sp held n 24 [c0,c1]=some x)(hok:Cell.okWide Tryz.prog W .any b0 22 c1) :
  ∃ (b:Bool) (l:List Nat),Dig l∧l.length≤maxLen∧RdL W (fun _=>True) [c0,c1] [.bool b,.sl 1 (U l)]:=by
 obtain ⟨y0,y1,m,_,_,h0,h1⟩:=trod_struct2 Tryz.underlying24 h
 have k0:DataW.trod enc Tryz.prog W 0 sp held m 4 [c0]=some y0:=by simpa [cellsBool] using h0
 have k1:DataW.trod enc Tryz.prog W 0 sp held m 22 [c1]=some y1:=by simpa [cellsSl] using h1
 obtain ⟨b,hb,_⟩:=DataW.trod_bool Tryz.underlying4 k0
 obtain rfl:c0=.bool b:=by simpa using hb
 obtain ⟨l,d,e,r⟩:=open_slice32 k1 hok
 exact ⟨b,l,d,e,.cons .bool (.cons r .nil)⟩
theorem open_Y {n:Nat}{c0 c1 c2:Value}{x:DataW H × List MemPlace}{b0:Nat}(h:DataW.trod enc Tryz.prog W 0 sp held n 26 [c0,c1,c2]=some x)(hok:Cell.okWide Tryz.prog W .any b0 22 c1) :
  ∃ (b:Bool) (l:List Nat) (e:Int),Dig l∧l.length≤maxLen∧((-9223372036854775808:Int)≤e∧e≤9223372036854775807)∧RdL W (fun _=>True) [c0,c1,c2] [.bool b,.sl 1 (U l),.int .i64 e]:=by
 obtain ⟨y0,y1,m,_,_,h0,h1⟩:=trod_struct2 Tryz.underlying26 h
 have k0:DataW.trod enc Tryz.prog W 0 sp held m 24 [c0,c1]=some y0:=by simpa [cellsZ] using h0
 have k1:DataW.trod enc Tryz.prog W 0 sp held m 3 [c2]=some y1:=by simpa [cellsInt] using h1
 obtain ⟨b,l,d,e,r⟩:=open_Z k0 hok
 obtain ⟨z,hz,_,hw⟩:=DataW.trod_int Tryz.underlying3 k1
 obtain rfl:c2=.int .i64 z:=by simpa using hz
 cases r with | cons r0 r=>cases r with | cons r1 r=>cases r with | nil =>
  exact ⟨b,l,z,d,e,int_wf hw,.cons r0 (.cons r1 (.cons .int .nil))⟩
theorem array6 {α:Type}{cs:Array α}(h:cs.size=6):∃ c0 c1 c2 c3 c4 c5,cs=#[c0,c1,c2,c3,c4,c5]:=by
 obtain ⟨l⟩:=cs
 match l,h with
 | [c0,c1,c2,c3,c4,c5],_=>exact ⟨c0,c1,c2,c3,c4,c5,rfl⟩
theorem open_W {v:Value}{d:DataW H}{p:List MemPlace}{b0:Nat}(hv:Value.okWide Tryz.prog W .any b0 38 v)(h:DataW.Trod enc Tryz.prog W 0 sp held 38 v d p) :
  ∃ (b:Bool) (l:List Nat) (e:Int) (c:Bool) (r:List Nat) (f:Int),(Dig l∧l.length≤maxLen∧((-9223372036854775808:Int)≤e∧e≤9223372036854775807))∧(Dig r∧r.length≤maxLen∧((-9223372036854775808:Int)≤f∧f≤9223372036854775807)) ∧
   Rd W (fun _=>True) v (.agg [.bool b,.sl 1 (U l),.int .i64 e,.bool c,.sl 1 (U r),.int .i64 f]):=by
 simp only [Value.okWide,Tryz.underlying38] at hv
 obtain ⟨cs,rfl,hsz,ts,hts,_,hrow⟩:=hv
 have e0:Tryz.prog.cellTypes Tryz.prog.depth 38=some [4,22,3,4,22,3]:=by kernel_rfl
 rw [e0] at hts
 obtain rfl:=Option.some.inj hts
 obtain ⟨c0,c1,c2,c3,c4,c5,rfl⟩:=array6 (hsz.trans cellsW)
 obtain ⟨u1,q1,ok1⟩:=hrow 1 c1 rfl
 obtain rfl:22=u1:=by simpa using q1
 obtain ⟨u4,q4,ok4⟩:=hrow 4 c4 rfl
 obtain rfl:22=u4:=by simpa using q4
 obtain ⟨n,hn⟩:=h
 obtain ⟨y0,y1,m,_,_,h0,h1⟩:=trod_struct2 Tryz.underlying38 hn
 have k0:DataW.trod enc Tryz.prog W 0 sp held m 26 [c0,c1,c2]=some y0:=by simpa [cellsY,Value.cells] using h0
 have k1:DataW.trod enc Tryz.prog W 0 sp held m 26 [c3,c4,c5]=some y1:=by simpa [cellsY,Value.cells] using h1
 obtain ⟨b,l,e,d1,d2,d3,r1⟩:=open_Y k0 ok1
 obtain ⟨c,r,f,f1,f2,f3,r2⟩:=open_Y k1 ok4
 refine ⟨b,l,e,c,r,f,⟨d1,d2,d3⟩,⟨f1,f2,f3⟩,?_⟩
 cases r1 with | cons a0 r1=>cases r1 with | cons a1 r1=>cases r1 with | cons a2 r1=>cases r1 with | nil =>
 cases r2 with | cons b0 r2=>cases r2 with | cons b1 r2=>cases r2 with | cons b2 r2=>cases r2 with | nil =>
  exact .agg (.cons a0 (.cons a1 (.cons a2 (.cons b0 (.cons b1 (.cons b2 .nil))))))
end Go.Proofs.YtcbihoojfakhdaaGreatDoor

namespace Go.Proofs.YtcbihoojfakhdaaGreatDoor.exponentialProducts
open Go.ChangeShapes Go.WideShapes Go.ChangeAt Go.RowKit
set_option maxRecDepth 100000 in
theorem contract (H:Type)(enc:TypeId × Value→H)(W:World)(base:Nat)(args:Array Value)(ds gs:List (DataW H))(before:List MemPlace)
  (hval:∀ (j:Nat) t v,Tryz.f11.params[j]?=some t→args[j]?=some v→Value.okWide Tryz.prog W .any base t v)
  (hW:DataW.Whole enc Tryz.prog Tryz.f11.params.toList Rows.exponentialProductsSpec.vars false W args.toList ds gs before) (hL:laidMetH Tryz.prog Rows.exponentialProductsRow.laid W) :
  Calls Tryz.prog 11 args W fun e W'=>∃ v,e=.returned v∧Rows.exponentialProductsSpec.post enc Tryz.prog Tryz.f11 false true false false W args v W':=by
 have hW':=hW
 obtain ⟨p,q,hA0,hV,rfl,hfz,hnd⟩:=hW
 have hA:DataW.TrodAll enc Tryz.prog W 0 (fun _=>true) true Tryz.f11.params.toList args.toList ds p:=hA0
 rw [Tryz.params11] at hA hval
 obtain ⟨v0,vs0,d0,ds0,p0,q0,hargs0,rfl,rfl,h0,r0⟩:=trodAll_cons hA
 obtain ⟨v1,vs1,d1,ds1,p1,q1,hargs1,rfl,rfl,h1,r1⟩:=trodAll_cons r0
 obtain ⟨v2,vs2,d2,ds2,p2,q2,hargs2,rfl,rfl,h2,r2⟩:=trodAll_cons r1
 obtain ⟨rfl,rfl,rfl⟩:=trodAll_nil r2
 obtain rfl:args=#[v0,v1,v2]:=by cases args; simp_all
 obtain ⟨rfl,rfl⟩:=trodVars_none hV
 obtain ⟨b0,l0,e0,c0,s0,f0,⟨a0,a0',a0''⟩,⟨z0,z0',z0''⟩,t0⟩:=open_W (hval 0 38 v0 rfl rfl) h0
 have m0:l0.length≤9223372036854775807:=a0'
 have n0:s0.length≤9223372036854775807:=z0'
 obtain ⟨b1,l1,e1,c1,s1,f1,⟨a1,a1',a1''⟩,⟨z1,z1',z1''⟩,t1⟩:=open_W (hval 1 38 v1 rfl rfl) h1
 have m1:l1.length≤9223372036854775807:=a1'
 have n1:s1.length≤9223372036854775807:=z1'
 have k2:=h2
 obtain ⟨x2,rfl,rfl,rfl,w2⟩:=open_int Tryz.underlying3 (hval 2 3 v2 rfl rfl) h2
 have b2:=int_wf w2
 clear hA0
 have hlt:=hW'.lt
 have hI:=l14_ExponentialProducts b0 l0 e0 c0 s0 f0 b1 l1 e1 c1 s1 f1 x2 a0 m0 a0'' z0 n0 z0'' a1 m1 a1'' z1 n1 z1'' b2
 have hC:=hI.2 W (fun _=>True) [v0,v1,.int .i64 x2] (amb_of hL) (fun _ _=>trivial) (.cons t0 (.cons t1 (.cons .int (.nil))))
 refine hC.mono fun e W' hh=>?_
 obtain ⟨v,rfl,hv,hb⟩:=hh
 have hv:=hv.bool_inv
 subst hv
 exact ⟨_,rfl,post_of_below (pa:=(p0 ++ (p1 ++ ([] ++ [])))) (pv:=[]) hW' (fun _ _ _=>trodAll_cons_mk (shut_bool Tryz.underlying4 _) trodAll_mk0) (fun sp hsp=>(trodAll_cons_mk (WideElems.Trod_stays laidOut (by kernel_rfl) (of_decide_eq_true (by kernel_rfl)) h0 (fun x hx=>hb.same (hlt x (by simp [hx]))) (fun x hx=>hsp x (by simp [hx]))) (trodAll_cons_mk (WideElems.Trod_stays laidOut (by kernel_rfl) (of_decide_eq_true (by kernel_rfl)) h1 (fun x hx=>hb.same (hlt x (by simp [hx]))) (fun x hx=>hsp x (by simp [hx]))) (trodAll_cons_mk (shut_int Tryz.underlying3 w2) trodAll_mk0)))) (fun _ _=>rfl) rfl
  hb (ok_one (by kernel_rfl) rfl (okWide_bool_mk Tryz.underlying4 _))⟩
theorem laid_met (os:Os):laidMet Tryz.prog Rows.exponentialProductsRow.laid ((laidWorld os).forCall (fun _ _=>0) ⟨#[],#[.agg #[.bool false,.slice none 0 0,.int .i64 0,.bool false,.slice none 0 0,.int .i64 0],.agg #[.bool false,.slice none 0 0,.int .i64 0,.bool false,.slice none 0 0,.int .i64 0],.int .i64 0],[]⟩).memory :=
 laidMet_of_run' 64 (by kernel_rfl) (by kernel_rfl)
theorem reads (os:Os){H:Type}(enc:TypeId × Value→H):∃ places,DataW.whole enc Tryz.prog ((laidWorld os).forCall (fun _ _=>0) ⟨#[],#[.agg #[.bool false,.slice none 0 0,.int .i64 0,.bool false,.slice none 0 0,.int .i64 0],.agg #[.bool false,.slice none 0 0,.int .i64 0,.bool false,.slice none 0 0,.int .i64 0],.int .i64 0],[]⟩).memory Tryz.f11.params.toList Rows.exponentialProductsSpec.vars false #[Value.agg #[.bool false,.slice none 0 0,.int .i64 0,.bool false,.slice none 0 0,.int .i64 0],Value.agg #[.bool false,.slice none 0 0,.int .i64 0,.bool false,.slice none 0 0,.int .i64 0],Value.int .i64 0].toList 64=some ([.agg [.agg [.agg [.lit (.bool false),.nil],.lit (.int .i64 0)],.agg [.agg [.lit (.bool false),.nil],.lit (.int .i64 0)]],.agg [.agg [.agg [.lit (.bool false),.nil],.lit (.int .i64 0)],.agg [.agg [.lit (.bool false),.nil],.lit (.int .i64 0)]],.lit (.int .i64 0)],[],places) :=
 ⟨[],by kernel_rfl⟩
set_option maxRecDepth 100000 in
theorem lifted (os:Os)(started:os.Started)(H:Type)(enc:TypeId × Value→H)(F:Stop.Interp) :
  ReturnsInHanded {} Tryz.checked os 11 .any ((OpenSpec.ofChange Rows.exponentialProductsSpec).preRow enc Tryz.prog Tryz.f11 Rows.exponentialProductsRow.domain false Rows.exponentialProductsRow.laid) (((OpenSpec.ofChange Rows.exponentialProductsSpec).at F).post enc Tryz.prog Tryz.f11 false true false false):=by
 obtain ⟨places,hx⟩:=reads os enc
 refine returnsInHanded_of_row (C:=Tryz.checked) (s:=OpenSpec.ofChange Rows.exponentialProductsSpec) ownNone started (by kernel_rfl) Tryz.func11
  (witness_row_at (enc:=enc) (C:=Tryz.checked) false (laidWorld os) #[.agg #[.bool false,.slice none 0 0,.int .i64 0,.bool false,.slice none 0 0,.int .i64 0],.agg #[.bool false,.slice none 0 0,.int .i64 0,.bool false,.slice none 0 0,.int .i64 0],.int .i64 0] rfl (by kernel_rfl) (by kernel_rfl) (by kernel_rfl)
   (OpenSpec.preRow_of_cond 64 hx (by kernel_rfl) (fun k hk=>by cases hk) (by kernel_rfl) (laid_met os))) ?_
 intro W base args ds gs before hval hW _ _ _ hL _ _
 exact contract H enc W base args ds gs before hval hW hL
end Go.Proofs.YtcbihoojfakhdaaGreatDoor.exponentialProducts
