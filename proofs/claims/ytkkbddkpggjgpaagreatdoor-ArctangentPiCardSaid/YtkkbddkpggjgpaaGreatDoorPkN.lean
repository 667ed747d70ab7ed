/-
  Lower layers: what functions of the program compute, and plain facts. Conditions: as the theorems say.
-/
import Derived.Test.YtkkbddkpggjgpaaGreatDoorPkM
set_option linter.unusedVariables false
set_option linter.unusedSimpArgs false
namespace Go.Proofs.YtkkbddkpggjgpaaGreatDoor
theorem weak_box1 {s:List D}{h:List Box}(b:Nat)(x y:Box)(hb:h[b]?=some x)(ha:y.alive=x.alive)(hf:y.frozen=x.frozen)(hl:y.cells.length=x.cells.length)
  (hr:∀ (w:World) (S:Nat→Prop) (l:List Value),RdL w S l x.cells→RdL w S l y.cells):Weak ⟨s,h⟩ ⟨s,h.set b y⟩:=by
 intro w0 S0 a w ρ ok
 have hbl:b<h.length:=lt_of_get hb
 have hget:∀ (i:Nat) (z:Box),(h.set b y)[i]?=some z→∃ u:Box,h[i]?=some u∧z.alive=u.alive∧z.frozen=u.frozen∧z.cells.length=u.cells.length∧∀ (w:World) (S:Nat→Prop) (l:List Value),RdL w S l u.cells→RdL w S l z.cells:=by
  intro i z hz
  rw[List.getElem?_set] at hz
  split at hz
  ·rename_i e
   subst e
   (try rw[if_pos hbl] at hz)
   cases hz
   exact⟨x,hb,ha,hf,hl,hr⟩
  ·exact⟨z,hz,rfl,rfl,rfl,fun _ _ _ q=>q⟩
 have hstab:∀ c,stab S0 ρ h c→stab S0 ρ (h.set b y) c:=fun c hc=>⟨hc.1,fun i z hz za zf hi=>by
  obtain⟨u,hu,ua,uf,_⟩:=hget i z hz
  exact hc.2 i u hu (ua ▸ za) (uf ▸ zf) hi⟩
 have hls:Lasts w w (stab S0 ρ h) (stab S0 ρ (h.set b y)):=⟨Nat.le_refl _,fun c _ hc=>⟨hstab c hc,rfl⟩⟩
 refine⟨ρ,⟨ok.ok.below,by simpa using ok.ok.heap.len,ok.ok.heap.low,?_,?_⟩,ok.size,fun t=>(ok.slots t).lasts hls (fun _ _ _ q=>q) (fun _ _ q=>q),ok.defers⟩
 ·intro i j p q β hp hq pa qa hi hj
  obtain⟨p',hp',pa',_⟩:=hget i p hp
  obtain⟨q',hq',qa',_⟩:=hget j q hq
  exact ok.ok.heap.inj i j p' q' β hp' hq' (pa' ▸ pa) (qa' ▸ qa) hi hj
 ·intro i z β hz za hi
  obtain⟨u,hu,ua,_,ul,ur⟩:=hget i z hz
  obtain⟨vs,t,h1,h2,h3⟩:=ok.ok.heap.box i u β hu (ua ▸ za) hi
  exact⟨vs,t,h1,by rw[ul];exact h2,by rw[ul];exact ur _ _ _ (h3.lasts hls)⟩
theorem rd_z0 {w:World}{S:Nat→Prop}{l:List Value}(h:RdL w S l [.bool false,.nil]):RdL w S l [.bool (decide ((0:Int)<0)),N (0:Int).natAbs]:=by
 cases h with | cons h1 h=>cases h with | cons h2 h=>cases h with | nil =>
  refine .cons (by simpa using h1) (.cons ?_ .nil)
  have:N (0:Int).natAbs=.sl 1 []:=by simp [N,lim,limbs_zero,U]
  rw[this]
  cases h2
  exact .nilsl
def arcG (n:Nat)(g:Bool):Nat→Int→Nat→Int→Int × Int
 | 0,k,_,s=>(k,s)
 | f+1,k,p,s=>if p=0 then (k,s) else arcG n g f (k+1) (p / n / n) (s+sgn (g && decide (k%2=1)) (p / (2*k+1).toNat))
def arcT (n:Int)(g:Bool)(s:Int):Int × Int:=arcG n.toNat g (s.toNat+2) 0 (1*2^s.toNat / n.toNat) 0
def ArcInv (n:Int)(g:Bool)(s:Int)(T:Int × Int)(f k:Int)(p:Nat)(a:Int):Prop :=
 0≤f∧0≤k∧k+f=s+1∧arcG n.toNat g (f.toNat+1) k p a=T∧p<2^f.toNat∧L p≤s / 32+2∧L a.natAbs≤s / 32+2+k
theorem arc_end {n:Int}{g:Bool}{s:Int}{T:Int × Int}{f k a:Int}{p:Nat}(h:ArcInv n g s T f k p a)(hp:p=0):k=T.1∧a=T.2:=by
 obtain⟨h1,h2,h3,h4,_⟩:=h
 rw[arcG,if_pos hp] at h4
 rw[← h4];exact⟨rfl,rfl⟩
theorem arc_f {n:Int}{g:Bool}{s:Int}{T:Int × Int}{f k a:Int}{p:Nat}(h:ArcInv n g s T f k p a)(hp:p≠0):1≤f:=by
 obtain⟨h1,h2,h3,h4,h5,_⟩:=h
 refine Decidable.byContradiction fun q=>?_
 rw[show f.toNat=0 by omega] at h5
 omega
theorem arc_next {n:Int}{g:Bool}{s:Int}{T:Int × Int}{f k a:Int}{p:Nat}(hn:2≤n)(h:ArcInv n g s T f k p a)(hp:p≠0){b:Bool}(hb:b=(g && decide (k%2=1))) :
  ArcInv n g s T (f-1) (k+1) (p / n.toNat / n.toNat) (a+sgn b (p / (2*k+1).toNat)):=by
 have hf:=arc_f h hp
 obtain⟨h1,h2,h3,h4,h5,h6,h7⟩:=h
 have hfn:f.toNat=(f-1).toNat+1:=by omega
 rw[arcG,if_neg hp,hfn] at h4
 rw[hfn,Nat.pow_succ] at h5
 have d1:p / n.toNat≤p / 2:=Nat.div_le_div_left (by omega) (by omega)
 have d2:p / n.toNat / n.toNat≤p / n.toNat:=Nat.div_le_self _ _
 have l1:=L_mono (Nat.le_trans d2 (Nat.le_trans d1 (Nat.div_le_self p 2)))
 have l2:=L_div p (2*k+1).toNat
 have l3:=L_sgn b (p / (2*k+1).toNat)
 have l4:=L_abs_add a (sgn b (p / (2*k+1).toNat))
 refine⟨by omega,by omega,by omega,by rw[hb];exact h4,by omega,by omega,by omega⟩
theorem arc_init {n:Int}{g:Bool}{s:Int}(hs:0≤s):ArcInv n g s (arcT n g s) (s+1) 0 (1*2^s.toNat / n.toNat) 0:=by
 have l0:=L_two_pow s.toNat
 have l1:=L_div (1*2^s.toNat) n.toNat
 rw[Nat.one_mul] at l1 ⊢
 have d:2^s.toNat / n.toNat≤2^s.toNat:=Nat.div_le_self _ _
 have e:2^s.toNat<2^(s+1).toNat:=Nat.pow_lt_pow_right (by omega) (by omega)
 refine⟨by omega,by omega,by omega,?_,by omega,by omega,by simp [L_zero];omega⟩
 unfold arcT
 rw[show (s+1).toNat+1=s.toNat+2 by omega,Nat.one_mul]
theorem arc_bound {n:Int}{g:Bool}{s:Int}{T:Int × Int}{f k a:Int}{p:Nat}(h:ArcInv n g s T f k p a):0≤k∧k≤s+1∧L p≤s / 32+2∧L a.natAbs≤s / 32+3+s:=by
 obtain⟨h1,h2,h3,h4,h5,h6,h7⟩:=h;omega
theorem arc_T {n:Int}{g:Bool}{s:Int}{T:Int × Int}(hn:2≤n):∀ (m:Nat) (f k:Int) (p:Nat) (a:Int),f.toNat=m→ArcInv n g s T f k p a→0≤T.1∧T.1≤s+1∧L T.2.natAbs≤s / 32+3+s
 | m,f,k,p,a,hm,h=>by
  have hb:=arc_bound h
  by_cases ht:p=0
  ·obtain⟨e1,e2⟩:=arc_end h ht
   rw[← e1,← e2];exact⟨hb.1,hb.2.1,hb.2.2.2⟩
  ·have hf:=arc_f h ht
   cases m with
   | zero=>omega
   | succ m=>exact arc_T hn m _ _ _ _ (by omega) (arc_next hn h ht rfl)
theorem arcT_L {n:Int}(g:Bool){s:Int}(hn:2≤n)(hs:0≤s∧s≤6000):0≤(arcT n g s).1∧(arcT n g s).1≤s+1∧L ((arcT n g s).2-3*((arcT n g s).1+2)).natAbs≤s / 32+7+s∧L ((arcT n g s).2+3*((arcT n g s).1+2)).natAbs≤s / 32+7+s:=by
 have h:=arc_T hn _ _ _ _ _ rfl (arc_init (n:=n) (g:=g) hs.1)
 have l0:=L_i64 (n:=3*((arcT n g s).1+2)) (by omega)
 have l1:=L_abs_sub (arcT n g s).2 (3*((arcT n g s).1+2))
 have l2:=L_abs_add (arcT n g s).2 (3*((arcT n g s).1+2))
 omega
def epG:Nat→Int→Nat→Nat→Int × Nat
 | 0,k,_,s=>(k,s)
 | f+1,k,p,s=>if p=0 then (k,s) else epG f (k+1) (p / k.toNat) (s+p / k.toNat)
def epT (s:Int):Int × Nat:=epG (s.toNat+3) 1 (1*2^s.toNat) (1*2^s.toNat)
theorem arc_b {k:Int}(h:0≤k):iEq (wRem k (2:Int)) 1=(true && decide (k%2=1)):=by
 rw[rem_two h];unfold iEq;by_cases q:k%2=1<;>simp [q]
theorem arc_b0 (k:Int):false=(false && decide (k%2=1)):=rfl
theorem rd_nil_N0 {w:World}{S:Nat→Prop}{v:Value}(h:Rd w S v .nil):Rd w S v (N (0:Int).natAbs):=by
 have:N (0:Int).natAbs=.sl 1 []:=by simp [N,lim,limbs_zero,U]
 rw[this];cases h;exact .nilsl
theorem vsub_w0 (c:Int):vsub (.tup [.agg [.bool false,.nil,.int .i64 0,.bool false,.nil,.int .i64 0],.int .i64 c])
  (.tup [.agg [.bool (decide ((0:Int)<0)),N (0:Int).natAbs,.int .i64 0,.bool (decide ((0:Int)<0)),N (0:Int).natAbs,.int .i64 0],.int .i64 c]):=by
 refine vsub_tup2 (fun w S x hx=>?_) (vsub_refl _)
 obtain⟨arr,rfl,hr⟩:=hx.agg_inv
 cases hr with | cons h1 hr=>cases hr with | cons h2 hr=>cases hr with | cons h3 hr=>cases hr with | cons h4 hr=>cases hr with | cons h5 hr=>cases hr with | cons h6 hr=>cases hr with | nil =>
  exact .agg (.cons (by simpa using h1) (.cons (rd_nil_N0 h2) (.cons h3 (.cons (by simpa using h4) (.cons (rd_nil_N0 h5) (.cons h6 .nil))))))
theorem nbits_of_lt {x k:Nat}(h:x<2^k):nbits x≤k:=by
 by_cases hx:x=0
 ·rw[hx];simp [nbits]
 ·have h1:=nbits_le hx
  have h2:=nbits_pos hx
  have:=(Nat.pow_lt_pow_iff_right (a:=2) (by omega)).1 (Nat.lt_of_le_of_lt h1 h)
  omega
theorem mk_fine {m e:Int}(h:L m.natAbs≤2000)(he:-60000≤e∧e≤0):mkE m e=0:=by
 by_cases hm:m=0
 ·exact (mk_r2 (by omega) hm).2.2
 ·refine (mk_r4 (by omega) hm ?_).2.2
  rw[vdb_iff]
  have h1:=L_dm m
  have h2:=nbits_L (dm m).natAbs
  have h3:=tz_L m.natAbs
  have h4:=dm_odd hm
  unfold de
  exact .inr ⟨dm_ne hm,by omega,by omega,by omega,h4⟩
def onB (m e p:Int):Bool:=decide (((-2048:Int)≤p∧p≤8192)∧(m=0∨-p≤e))
end Go.Proofs.YtkkbddkpggjgpaaGreatDoor

namespace Go.Proofs.YtkkbddkpggjgpaaGreatDoor
open Go.RowKit
set_option maxRecDepth 100000
theorem fx_Exact (a:Int)(c0:L (a).natAbs≤65536):Impl Tryz.prog Amb 147 [(zV a)] (sV a a):=by
 exact impl_ob hP hAmb Tryz.func147 (by kernel_rfl) (.lits 5<|.ret)
  (cast_ob (aI True.intro ((vsub_refl (sV a a)))) (by kernel_rfl))
theorem fx_up (x n:Int)(c0:L (x).natAbs≤65536)(c1:(0:Int)≤n∧n≤1048576):Impl Tryz.prog Amb 194 [(zV x),(.int .i64 n)] (zV (-(-x / 2^(n).toNat))):=by
 exact impl_ob hP hAmb Tryz.func194 (by kernel_rfl) (.lits 2<|.call (zV (-x))<|.lit<|.call (zV ((-x) / 2^(n).toNat))<|.lit<|.call (zV (-((-x) / 2^(n).toNat)))<|.lits 2<|.ret)
  (cast_ob (aI True.intro (aI (int_Neg x oO) (have f3:=L_abs_neg x;aI (int_Shr (-x) n oO oO) (have f2:=L_abs_shr (-x) (n).toNat;aI (int_Neg ((-x) / 2^(n).toNat) oO) (have f1:=L_abs_neg ((-x) / 2^(n).toNat);(vsub_of (by first | rfl | simp_all):vsub (zV (-((-x) / 2^(n).toNat))) (zV (-(-x / 2^(n).toNat))))))))) (by kernel_rfl))
theorem fx_Half (a b n:Int)(c0:L (a).natAbs≤65536)(c1:L (b).natAbs≤65536)(c2:(0:Int)≤n∧n≤1048576):Impl Tryz.prog Amb 142 [(sV a b),(.int .i64 n)] (sV (a / 2^(n).toNat) (-(-b / 2^(n).toNat))):=by
 exact impl_ob hP hAmb Tryz.func142 (by kernel_rfl) (.lits 2<|.call (zV (a / 2^(n).toNat))<|.lits 2<|.call (zV (-(-b / 2^(n).toNat)))<|.lits 3<|.ret)
  (cast_ob (aI True.intro (aI (int_Shr a n oO oO) (have f4:=L_abs_shr a (n).toNat;aI (fx_up b n oO oO) (have f3:=L_abs_neg (-b / 2^(n).toNat);have f2:=L_abs_shr (-b) (n).toNat;have f1:=L_abs_neg b;(vsub_refl (sV (a / 2^(n).toNat) (-(-b / 2^(n).toNat)))))))) (by kernel_rfl))
theorem fx_Neg (a b:Int)(c0:L (a).natAbs≤65536)(c1:L (b).natAbs≤65536):Impl Tryz.prog Amb 177 [(sV a b)] (sV (-b) (-a)):=by
 exact impl_ob hP hAmb Tryz.func177 (by kernel_rfl) (.lits 2<|.call (zV (-b))<|.lits 2<|.call (zV (-a))<|.lits 3<|.ret)
  (cast_ob (aI True.intro (aI (int_Neg b oO) (have f2:=L_abs_neg b;aI (int_Neg a oO) (have f1:=L_abs_neg a;(vsub_refl (sV (-b) (-a))))))) (by kernel_rfl))
theorem fx_Add (a b c d:Int)(c0:L (a).natAbs≤65536)(c1:L (b).natAbs≤65536)(c2:L (c).natAbs≤65536)(c3:L (d).natAbs≤65536):Impl Tryz.prog Amb 165 [(sV a b),(sV c d)] (sV (a+c) (b+d)):=by
 exact impl_ob hP hAmb Tryz.func165 (by kernel_rfl) (.lits 3<|.call (zV (a+c))<|.lits 3<|.call (zV (b+d))<|.lits 3<|.ret)
  (cast_ob (aI True.intro (aI (int_Add a c oO oO) (have f2:=L_abs_add a c;aI (int_Add b d oO oO) (have f1:=L_abs_add b d;(vsub_refl (sV (a+c) (b+d))))))) (by kernel_rfl))
theorem fx_Sub (a b c d:Int)(c0:L (a).natAbs≤65536)(c1:L (b).natAbs≤65536)(c2:L (c).natAbs≤65536)(c3:L (d).natAbs≤65536):Impl Tryz.prog Amb 164 [(sV a b),(sV c d)] (sV (a+(-d)) (b+(-c))):=by
 exact impl_ob hP hAmb Tryz.func164 (by kernel_rfl) (.lits 3<|.call (sV (-d) (-c))<|.lit<|.call (sV (a+(-d)) (b+(-c)))<|.lits 2<|.ret)
  (cast_ob (aI True.intro (aI (fx_Neg c d oO oO) (have f4:=L_abs_neg d;have f3:=L_abs_neg c;aI (fx_Add a b (-d) (-c) oO oO oO oO) (have f2:=L_abs_add b (-c);have f1:=L_abs_add a (-d);(vsub_refl (sV (a+(-d)) (b+(-c)))))))) (by kernel_rfl))
theorem fx_Wide (a b n:Int)(c0:L (a).natAbs≤65536)(c1:L (b).natAbs≤65536)(c2:L (n).natAbs≤65536):Impl Tryz.prog Amb 148 [(sV a b),(zV n)] (sV (a-n) (b+n)):=by
 exact impl_ob hP hAmb Tryz.func148 (by kernel_rfl) (.lits 3<|.call (zV (a-n))<|.lits 3<|.call (zV (b+n))<|.lits 3<|.ret)
  (cast_ob (aI True.intro (aI (int_Sub a n oO oO) (have f2:=L_abs_sub a n;aI (int_Add b n oO oO) (have f1:=L_abs_add b n;(vsub_refl (sV (a-n) (b+n))))))) (by kernel_rfl))
theorem fx_Times (a b n:Int)(c0:L (a).natAbs≤65536)(c1:L (b).natAbs≤65536)(c2:(0:Int)≤n∧n≤9223372036854775807):Impl Tryz.prog Amb 163 [(sV a b),(.int .i64 n)] (sV (a*n) (b*n)):=by
 exact impl_ob hP hAmb Tryz.func163 (by kernel_rfl) (.lit<|.call (zV n)<|.lits 2<|.no<|.lits 3<|.call (zV (a*n))<|.lits 3<|.call (zV (b*n))<|.lits 3<|.ret)
  (cast_ob (aI True.intro (aI (int_Of n oO) (have f3:=(L_i64 oO:L (n:Int).natAbs≤2);aI (iLt_mkF oO:(iLt n 0)=false) (aI (int_Mul a n oO oO) (have f2:=L_abs_mul a n;aI (int_Mul b n oO oO) (have f1:=L_abs_mul b n;(vsub_refl (sV (a*n) (b*n))))))))) (by kernel_rfl))
theorem fx_Width (a b:Int)(c0:L (a).natAbs≤65536)(c1:L (b).natAbs≤65536):Impl Tryz.prog Amb 141 [(sV a b)] (zV (b-a)):=by
 exact impl_ob hP hAmb Tryz.func141 (by kernel_rfl) (.lits 3<|.call (zV (b-a))<|.lits 2<|.ret)
  (cast_ob (aI True.intro (aI (int_Sub b a oO oO) (have f1:=L_abs_sub b a;(vsub_refl (zV (b-a)))))) (by kernel_rfl))
def fx_Settle_0_mk (fk:Nat)(_ _:Int→Int)(w x:Int):St:=⟨mkS 27 [(0,(.val (.int .i64 w))),(1,(.val (.clos fk []))),(4,(.own 0 0)),(5,(.val (.int .i64 24)))],[⟨true,false,[(V.bool false),V.nil,(V.bool false),V.nil]⟩]⟩
def fx_Settle_0_I (_:Nat)(_ _:Int→Int)(_ x:Int):Prop:=x=x
def fx_Settle_0_mu (_:Nat)(_ _:Int→Int)(_ x:Int):Nat:=0
def fx_Settle_0_ex (_:Nat)(ka kb:Int→Int)(w y:Int):Ex × St:=(.ret,⟨mkS 27 [(4,(.own 0 0))],[⟨true,false,[(V.bool (decide (((ka (w+24)) / 2^24)<0))),(N (((ka (w+24)) / 2^24).natAbs)),(V.bool (decide ((-(-(kb (w+24)) / 2^24))<0))),(N ((-(-(kb (w+24)) / 2^24)).natAbs))]⟩]⟩)
def fx_Settle_0_J (_:Nat)(_ _:Int→Int)(_ y:Int):Prop:=y=y
theorem fx_Settle_0 (fk:Nat)(ka kb:Int→Int)(w:Int)(c0:∀ s:Int,0≤s→s≤6000→Impl Tryz.prog Amb fk [.int .i64 s] (sV (ka s) (kb s)))(c1:L (ka (w+24)).natAbs≤8192∧L (kb (w+24)).natAbs≤8192)(c2:nbits (kb (w+24)-ka (w+24)).natAbs≤24)(c3:(0:Int)≤w∧w≤5000)(x0:Int)(hI:fx_Settle_0_I fk ka kb w x0):LoopOk Tryz.prog Amb (loopN Tryz.f78 0) (fx_Settle_0_mk fk ka kb w x0) (fun e st_=>∃ y,fx_Settle_0_J fk ka kb w y∧fx_Settle_0_ex fk ka kb w y=(e,st_)) :=
 loop_ob hP hAmb ⟨[0,1,4,5],1,[]⟩ (fx_Settle_0_mk fk ka kb w) (fx_Settle_0_I fk ka kb w) (fx_Settle_0_mu fk ka kb w) (fx_Settle_0_ex fk ka kb w) (fx_Settle_0_J fk ka kb w) x0 hI (fun e=>.lit<|.yes<|.lit<|.call (sV (ka (w+24)) (kb (w+24)))<|.lits 3<|.call (zV ((kb (w+24))-(ka (w+24))))<|.lits 2<|.call (.int .i64 (nbits (((kb (w+24))-(ka (w+24))).natAbs):Int))<|.lit<|.yes<|.lits 5<|.call (sV ((ka (w+24)) / 2^24) (-(-(kb (w+24)) / 2^24)))<|.lit<|.fin3 ⟨[4],[0]⟩) (by
  rintro e hI
  have hI:e=e:=hI
  have h1:=hI
  exact cast_ob (aI True.intro (aI (fits_i64 oO:(fits .i64 (w+24))=true) (aI (c0 (w+24) oO oO) (aI (fx_Width (ka (w+24)) (kb (w+24)) oO oO) (have f106:=L_abs_sub (kb (w+24)) (ka (w+24));aI (nat_Bits (((kb (w+24))-(ka (w+24))).natAbs) oO) (have f105:=nbits_L (((kb (w+24))-(ka (w+24))).natAbs);aI (iLe_mk oO:(iLe (nbits (((kb (w+24))-(ka (w+24))).natAbs):Int) 24)=true) (aI (fx_Half (ka (w+24)) (kb (w+24)) 24 oO oO oO) (have f104:=L_abs_neg (-(kb (w+24)) / 2^24);have f103:=L_abs_shr (-(kb (w+24))) 24;have f102:=L_abs_neg (kb (w+24));have f101:=L_abs_shr (ka (w+24)) 24;aI tT ((nx_ret ((fx_Settle_0_ex fk ka kb w e).2) e (show e=e from rfl) rfl:NX (fx_Settle_0_mk fk ka kb w) (fx_Settle_0_I fk ka kb w) (fx_Settle_0_mu fk ka kb w) (fx_Settle_0_ex fk ka kb w) (fx_Settle_0_J fk ka kb w) e .ret ((fx_Settle_0_ex fk ka kb w e).2))))))))))) (by kernel_rfl))
theorem fx_Settle (fk:Nat)(ka:Int→Int)(kb:Int→Int)(w:Int)(c0:∀ s:Int,0≤s→s≤6000→Impl Tryz.prog Amb fk [.int .i64 s] (sV (ka s) (kb s)))(c1:L (ka (w+24)).natAbs≤8192∧L (kb (w+24)).natAbs≤8192)(c2:nbits (kb (w+24)-ka (w+24)).natAbs≤24)(c3:(0:Int)≤w∧w≤5000):Impl Tryz.prog Amb 78 [(.int .i64 w),(.clos fk [])] (sV ((ka (w+24)) / 2^24) (-(-(kb (w+24)) / 2^24))):=by
 exact impl_ob hP hAmb Tryz.func78 (by kernel_rfl) (.loop ⟨[0,1,4,5],1,[]⟩ ((fx_Settle_0_mk fk ka kb w (0:Int))) (Int) (fx_Settle_0_ex fk ka kb w) (fx_Settle_0_J fk ka kb w) (fun y=>.lit<|.ret))
  (cast_ob (aI True.intro (aI tT (aI (rfl:(fx_Settle_0_mk fk ka kb w (0:Int))=(fx_Settle_0_mk fk ka kb w (0:Int))) (aI (fx_Settle_0 fk ka kb w c0 c1 c2 c3 (0:Int) (show (0:Int)=(0:Int) from rfl)) (fun y (hJ:fx_Settle_0_J fk ka kb w y)=>have hJ:y=y:=hJ;(vsub_refl (sV ((ka (w+24)) / 2^24) (-(-(kb (w+24)) / 2^24))))))))) (by kernel_rfl))
def fx_Arc1_0_mk (n _:Int)(x:Int × Int × Nat × Int):St:=⟨mkS 71 [(0,(.val (.int .u32 n))),(2,(.val (.bool true))),(6,(.own 0 0)),(7,(.val (N x.2.2.1))),(10,(.own 1 0)),(11,(.val (.int .i64 x.2.1)))],[⟨true,false,[(V.bool false),V.nil,(V.bool false),V.nil]⟩,⟨true,false,[(V.bool (decide (x.2.2.2<0))),(N x.2.2.2.natAbs)]⟩]⟩
def fx_Arc1_0_I (n s:Int)(x:Int × Int × Nat × Int):Prop:=ArcInv n true s (arcT n true s) x.1 x.2.1 x.2.2.1 x.2.2.2
def fx_Arc1_0_mu (_ _:Int)(x:Int × Int × Nat × Int):Nat:=(x.1).toNat
def fx_Arc1_0_ex (_ _:Int)(y:Int × Int):Ex × St:=(.exit 0,⟨mkS 71 [(6,(.own 0 0)),(10,(.own 1 0)),(11,(.val (.int .i64 y.1)))],[⟨true,false,[(V.bool false),V.nil,(V.bool false),V.nil]⟩,⟨true,false,[(V.bool (decide (y.2<0))),(N y.2.natAbs)]⟩]⟩)
def fx_Arc1_0_J (n s:Int)(y:Int × Int):Prop:=y.1=(arcT n true s).1∧y.2=(arcT n true s).2∧0≤y.1∧y.1≤s+1∧L y.2.natAbs≤6400
abbrev fx_Arc1_0_N (n s:Int):=NX (fx_Arc1_0_mk n s) (fx_Arc1_0_I n s) (fx_Arc1_0_mu n s) (fx_Arc1_0_ex n s) (fx_Arc1_0_J n s)
theorem fx_Arc1_0 (n s:Int)(c0:(2:Int)≤n∧n<4294967296)(c1:(0:Int)≤s∧s≤6000)(x0:Int × Int × Nat × Int)(hI:fx_Arc1_0_I n s x0):LoopOk Tryz.prog Amb (loopN Tryz.f80 0) (fx_Arc1_0_mk n s x0) (fun e st_=>∃ y,fx_Arc1_0_J n s y∧fx_Arc1_0_ex n s y=(e,st_)) :=
 loop_ob hP hAmb ⟨[0,2,6,7,10,11],2,[]⟩ (fx_Arc1_0_mk n s) (fx_Arc1_0_I n s) (fx_Arc1_0_mu n s) (fx_Arc1_0_ex n s) (fx_Arc1_0_J n s) x0 hI (fun (f,k,p,a)=>.lit<|.both (.lit<|.yes<|.lit<|.yes<|.lit<|.yes<|.lit<|.call (.tup [(N (p / ((((2:Int)*k)+1)).toNat)),(.int .u32 ((p%((((2:Int)*k)+1)).toNat:Nat):Int)),(.bool true)])<|.lits 8<|.call (zV (sgn (iEq (wRem k (2:Int)) 1) (p / ((((2:Int)*k)+1)).toNat)))<|.lit<|.call (zV (a+(sgn (iEq (wRem k (2:Int)) 1) (p / ((((2:Int)*k)+1)).toNat))))<|.lits 2<|.call (.tup [(N (p / (n).toNat)),(.int .u32 ((p%(n).toNat:Nat):Int)),(.bool true)])<|.lit<|.call (.tup [(N ((p / (n).toNat) / (n).toNat)),(.int .u32 (((p / (n).toNat)%(n).toNat:Nat):Int)),(.bool true)])<|.lit<|.yes<|.fin2 ⟨[0,2,6,7,10,11],2,[]⟩) (.fin2 ⟨[6,10,11],2,[]⟩)) (by
  rintro ⟨f,k,p,a⟩ hI
  have hI:ArcInv n true s (arcT n true s) f k p a:=hI
  have h1:=hI
  have hb:=arc_bound h1
  have h0:=h1.1
  have e0:=L_len p
  have e1:=L_pos_iff p
  exact cast_ob (aI True.intro (aI (fun (h101:(iGt ((lim p).length:Int) 0)=true)=>have _gh101:=iGt_t h101;aI (fits_i64 oO:(fits .i64 ((2:Int)*k))=true) (aI (fits_i64 oO:(fits .i64 (((2:Int)*k)+1))=true) (aI (fits_u32 oO:(fits .u32 (((2:Int)*k)+1))=true) (aI (quot_SmallI p (((2:Int)*k)+1) oO oO) (have f106:=L_div p ((((2:Int)*k)+1)).toNat;aI (int_Nat (iEq (wRem k (2:Int)) 1) (p / ((((2:Int)*k)+1)).toNat) oO) (have f105:=L_sgn (iEq (wRem k (2:Int)) 1) (p / ((((2:Int)*k)+1)).toNat);aI (int_Add a (sgn (iEq (wRem k (2:Int)) 1) (p / ((((2:Int)*k)+1)).toNat)) oO oO) (have f104:=L_abs_add a (sgn (iEq (wRem k (2:Int)) 1) (p / ((((2:Int)*k)+1)).toNat));aI (quot_SmallI p n oO oO) (have f103:=L_div p (n).toNat;aI (quot_SmallI (p / (n).toNat) n oO oO) (have f102:=L_div (p / (n).toNat) (n).toNat;aI (fits_i64 oO:(fits .i64 (k+1))=true) (aI tT ((nx_next ((f-1),(k+1),((p / (n).toNat) / (n).toNat),(a+(sgn (iEq (wRem k (2:Int)) 1) (p / ((((2:Int)*k)+1)).toNat)))) (show ArcInv n true s (arcT n true s) (f-1) (k+1) ((p / (n).toNat) / (n).toNat) (a+(sgn (iEq (wRem k (2:Int)) 1) (p / ((((2:Int)*k)+1)).toNat))) from arc_next oO h1 oO (by first | exact arc_b oO | exact arc_b0 _)) (show (f-1).toNat<f.toNat by have:=arc_f h1 oO;omega):fx_Arc1_0_N n s (f,k,p,a) .normal (fx_Arc1_0_mk n s ((f-1),(k+1),((p / (n).toNat) / (n).toNat),(a+(sgn (iEq (wRem k (2:Int)) 1) (p / ((((2:Int)*k)+1)).toNat))))))))))))))))) (fun (h107:(iGt ((lim p).length:Int) 0)=false)=>have _gh107:=iGt_f h107;aI tT ((nx_exit 0 ((fx_Arc1_0_ex n s (k,a)).2) (k,a) (show k=(arcT n true s).1∧a=(arcT n true s).2∧0≤k∧k≤s+1∧L a.natAbs≤6400 from ⟨(arc_end h1 oO).1,(arc_end h1 oO).2,by omega,by omega,by omega⟩) rfl:fx_Arc1_0_N n s (f,k,p,a) (.exit 0) ((fx_Arc1_0_ex n s (k,a)).2)))))) (by kernel_rfl))
theorem fx_Arc1 (n s:Int)(c0:(2:Int)≤n∧n<4294967296)(c1:(0:Int)≤s∧s≤6000):Impl Tryz.prog Amb 80 [(.int .u32 n),(.int .i64 s),(.bool true)] (sV ((arcT n true s).2-(3*((arcT n true s).1+2))) ((arcT n true s).2+(3*((arcT n true s).1+2)))):=by
 have l0:=L_lit 1 (by decide)
 have l1:=L_two_pow s.toNat
 have l2:=L_shl 1 s.toNat
 exact impl_ob hP hAmb Tryz.func80 (by kernel_rfl) (.lit<|.call (N 1)<|.lit<|.call (N (1*2^(s).toNat))<|.lit<|.call (.tup [(N ((1*2^(s).toNat) / (n).toNat)),(.int .u32 (((1*2^(s).toNat)%(n).toNat:Nat):Int)),(.bool true)])<|.lits 2<|.loop ⟨[0,2,6,7,10,11],2,[]⟩ ((⟨mkS 71 [(0,(.val (.int .u32 n))),(2,(.val (.bool true))),(6,(.own 0 0)),(7,(.val (N ((1*2^(s).toNat) / (n).toNat)))),(10,(.own 1 0)),(11,(.val (.int .i64 0)))],[⟨true,false,[(V.bool false),V.nil,(V.bool false),V.nil]⟩,⟨true,false,[(V.bool false),V.nil]⟩]⟩:St)) (Int × Int) (fx_Arc1_0_ex n s) (fx_Arc1_0_J n s) (fun y=>.lits 2<|.call (sV y.2 y.2)<|.lit<|.yes<|.lit<|.yes<|.lit<|.call (zV ((3:Int)*(y.1+2)))<|.lit<|.call (sV (y.2-((3:Int)*(y.1+2))) (y.2+((3:Int)*(y.1+2))))<|.lits 2<|.ret))
  (cast_ob (aI True.intro (aI (nat_Of 1 oO) (aI (nat_Shl 1 s oO oO) (have f5:=L_shl 1 (s).toNat;aI (quot_SmallI (1*2^(s).toNat) n oO oO) (have f4:=L_div (1*2^(s).toNat) (n).toNat;aI tT (aI (rfl:(⟨mkS 71 [(0,(.val (.int .u32 n))),(2,(.val (.bool true))),(6,(.own 0 0)),(7,(.val (N ((1*2^(s).toNat) / (n).toNat)))),(10,(.own 1 0)),(11,(.val (.int .i64 0)))],[⟨true,false,[(V.bool false),V.nil,(V.bool false),V.nil]⟩,⟨true,false,[(V.bool false),V.nil]⟩]⟩:St)=(⟨mkS 71 [(0,(.val (.int .u32 n))),(2,(.val (.bool true))),(6,(.own 0 0)),(7,(.val (N ((1*2^(s).toNat) / (n).toNat)))),(10,(.own 1 0)),(11,(.val (.int .i64 0)))],[⟨true,false,[(V.bool false),V.nil,(V.bool false),V.nil]⟩,⟨true,false,[(V.bool false),V.nil]⟩]⟩:St)) (aI (LoopOk.weak (weak_box1 1 ⟨true,false,[.bool false,.nil]⟩ ⟨true,false,[.bool (decide ((0:Int)<0)),N (0:Int).natAbs]⟩ rfl rfl rfl rfl (fun _ _ _ h=>rd_z0 h):Weak (⟨mkS 71 [(0,(.val (.int .u32 n))),(2,(.val (.bool true))),(6,(.own 0 0)),(7,(.val (N ((1*2^(s).toNat) / (n).toNat)))),(10,(.own 1 0)),(11,(.val (.int .i64 0)))],[⟨true,false,[(V.bool false),V.nil,(V.bool false),V.nil]⟩,⟨true,false,[(V.bool false),V.nil]⟩]⟩:St) (fx_Arc1_0_mk n s ((s+1),0,((1*2^(s).toNat) / (n).toNat),0))) (fx_Arc1_0 n s c0 c1 ((s+1),0,((1*2^(s).toNat) / (n).toNat),0) (show ArcInv n true s (arcT n true s) (s+1) 0 ((1*2^(s).toNat) / (n).toNat) 0 from (arc_init oO)))) (fun y (hJ:fx_Arc1_0_J n s y)=>have hJ:y.1=(arcT n true s).1∧y.2=(arcT n true s).2∧0≤y.1∧y.1≤s+1∧L y.2.natAbs≤6400:=hJ;have ⟨q1,q2,q3,q4,q5⟩:=hJ;aI (fx_Exact y.2 oO) (aI (fits_i64 oO:(fits .i64 (y.1+2))=true) (aI (fits_i64 oO:(fits .i64 ((3:Int)*(y.1+2)))=true) (aI (int_Of ((3:Int)*(y.1+2)) oO) (have f3:=(L_i64 oO:L (((3:Int)*(y.1+2)):Int).natAbs≤2);aI (fx_Wide y.2 y.2 ((3:Int)*(y.1+2)) oO oO oO) (have f2:=L_abs_add y.2 ((3:Int)*(y.1+2));have f1:=L_abs_sub y.2 ((3:Int)*(y.1+2));(by rw[← q1,← q2];exact vsub_refl _:vsub (sV (y.2-((3:Int)*(y.1+2))) (y.2+((3:Int)*(y.1+2)))) (sV ((arcT n true s).2-(3*((arcT n true s).1+2))) ((arcT n true s).2+(3*((arcT n true s).1+2)))))))))))))))))) (by kernel_rfl))
theorem fx_Pi (s:Int)(c0:(0:Int)≤s∧s≤6000):Impl Tryz.prog Amb 104 [(.int .i64 s)] (sV ((((arcT 5 true s).2-(3*((arcT 5 true s).1+2)))*16)+(-(((arcT 239 true s).2+(3*((arcT 239 true s).1+2)))*4))) ((((arcT 5 true s).2+(3*((arcT 5 true s).1+2)))*16)+(-(((arcT 239 true s).2-(3*((arcT 239 true s).1+2)))*4)))):=by
 exact impl_ob hP hAmb Tryz.func104 (by kernel_rfl) (.lit<|.call (sV ((arcT 5 true s).2-(3*((arcT 5 true s).1+2))) ((arcT 5 true s).2+(3*((arcT 5 true s).1+2))))<|.lit<|.call (sV (((arcT 5 true s).2-(3*((arcT 5 true s).1+2)))*16) (((arcT 5 true s).2+(3*((arcT 5 true s).1+2)))*16))<|.lit<|.call (sV ((arcT 239 true s).2-(3*((arcT 239 true s).1+2))) ((arcT 239 true s).2+(3*((arcT 239 true s).1+2))))<|.lit<|.call (sV (((arcT 239 true s).2-(3*((arcT 239 true s).1+2)))*4) (((arcT 239 true s).2+(3*((arcT 239 true s).1+2)))*4))<|.lit<|.call (sV ((((arcT 5 true s).2-(3*((arcT 5 true s).1+2)))*16)+(-(((arcT 239 true s).2+(3*((arcT 239 true s).1+2)))*4))) ((((arcT 5 true s).2+(3*((arcT 5 true s).1+2)))*16)+(-(((arcT 239 true s).2-(3*((arcT 239 true s).1+2)))*4))))<|.lits 2<|.ret)
  (cast_ob (aI True.intro (aI (fx_Arc1 5 s oO oO) (have f12:=arcT_L (n:=5) true (s:=s) oO oO;aI (fx_Times ((arcT 5 true s).2-(3*((arcT 5 true s).1+2))) ((arcT 5 true s).2+(3*((arcT 5 true s).1+2))) 16 oO oO oO) (have f11:=(L_i64 oO:L (16:Int).natAbs≤2);have f10:=L_abs_mul ((arcT 5 true s).2+(3*((arcT 5 true s).1+2))) 16;have f9:=L_abs_mul ((arcT 5 true s).2-(3*((arcT 5 true s).1+2))) 16;aI (fx_Arc1 239 s oO oO) (have f8:=arcT_L (n:=239) true (s:=s) oO oO;aI (fx_Times ((arcT 239 true s).2-(3*((arcT 239 true s).1+2))) ((arcT 239 true s).2+(3*((arcT 239 true s).1+2))) 4 oO oO oO) (have f7:=(L_i64 oO:L (4:Int).natAbs≤2);have f6:=L_abs_mul ((arcT 239 true s).2+(3*((arcT 239 true s).1+2))) 4;have f5:=L_abs_mul ((arcT 239 true s).2-(3*((arcT 239 true s).1+2))) 4;aI (fx_Sub (((arcT 5 true s).2-(3*((arcT 5 true s).1+2)))*16) (((arcT 5 true s).2+(3*((arcT 5 true s).1+2)))*16) (((arcT 239 true s).2-(3*((arcT 239 true s).1+2)))*4) (((arcT 239 true s).2+(3*((arcT 239 true s).1+2)))*4) oO oO oO oO) (have f4:=L_abs_neg (((arcT 239 true s).2-(3*((arcT 239 true s).1+2)))*4);have f3:=L_abs_neg (((arcT 239 true s).2+(3*((arcT 239 true s).1+2)))*4);have f2:=L_abs_add (((arcT 5 true s).2+(3*((arcT 5 true s).1+2)))*16) (-(((arcT 239 true s).2-(3*((arcT 239 true s).1+2)))*4));have f1:=L_abs_add (((arcT 5 true s).2-(3*((arcT 5 true s).1+2)))*16) (-(((arcT 239 true s).2+(3*((arcT 239 true s).1+2)))*4));(vsub_refl (sV ((((arcT 5 true s).2-(3*((arcT 5 true s).1+2)))*16)+(-(((arcT 239 true s).2+(3*((arcT 239 true s).1+2)))*4))) ((((arcT 5 true s).2+(3*((arcT 5 true s).1+2)))*16)+(-(((arcT 239 true s).2-(3*((arcT 239 true s).1+2)))*4)))))))))))) (by kernel_rfl))
def piLo (s:Int):Int:=((((arcT 5 true s).2-(3*((arcT 5 true s).1+2)))*16)+(-(((arcT 239 true s).2+(3*((arcT 239 true s).1+2)))*4)))
def piHi (s:Int):Int:=((((arcT 5 true s).2+(3*((arcT 5 true s).1+2)))*16)+(-(((arcT 239 true s).2-(3*((arcT 239 true s).1+2)))*4)))
def eLo (s:Int):Int:=((sgn false (epT s).2)-(3*((epT s).1+2)))
theorem ct_tight (fk:Nat)(ka:Int→Int)(kb:Int→Int)(w:Int)(c0:∀ s:Int,0≤s→s≤6000→Impl Tryz.prog Amb fk [.int .i64 s] (sV (ka s) (kb s)))(c1:L (ka (w+24)).natAbs≤8192∧L (kb (w+24)).natAbs≤8192)(c2:nbits (kb (w+24)-ka (w+24)).natAbs≤24)(c3:(0:Int)≤w∧w≤4224)(c4:mkE ((ka (w+24)) / 2^24) (-w)=0∧mkE (-(-(kb (w+24)) / 2^24)) (-w)=0):Impl Tryz.prog Amb 100 [(.int .i64 w),(.clos fk [])] (.tup [(wV (mkM ((ka (w+24)) / 2^24) (-w)) (mkX ((ka (w+24)) / 2^24) (-w)) (mkM (-(-(kb (w+24)) / 2^24)) (-w)) (mkX (-(-(kb (w+24)) / 2^24)) (-w))),(.int .i64 0)]):=by
 have ez:(0:Int)-w=-w:=Int.zero_sub w
 have e1:mkE ((ka (w+24)) / 2^24) ((0:Int)-w)=0:=by rw[ez];exact c4.1
 have e2:mkE (-(-(kb (w+24)) / 2^24)) ((0:Int)-w)=0:=by rw[ez];exact c4.2
 exact impl_ob hP hAmb Tryz.func100 (by kernel_rfl) (.lit<|.no<|.lits 3<|.no<|.lit<|.call (sV ((ka (w+24)) / 2^24) (-(-(kb (w+24)) / 2^24)))<|.lits 3<|.yes<|.lit<|.call (.tup [(yV (mkM ((ka (w+24)) / 2^24) ((0:Int)-w)) (mkX ((ka (w+24)) / 2^24) ((0:Int)-w))),(.int .i64 (mkE ((ka (w+24)) / 2^24) ((0:Int)-w)))])<|.lits 3<|.yes<|.lit<|.call (.tup [(yV (mkM (-(-(kb (w+24)) / 2^24)) ((0:Int)-w)) (mkX (-(-(kb (w+24)) / 2^24)) ((0:Int)-w))),(.int .i64 (mkE (-(-(kb (w+24)) / 2^24)) ((0:Int)-w)))])<|.lits 2<|.no<|.lits 3<|.no<|.lits 5<|.ret)
  (cast_ob (aI True.intro (aI (iLt_mkF oO:(iLt w 0)=false) (aI (iGt_mkF oO:(iGt w 4224)=false) (aI (fx_Settle fk ka kb w c0 c1 c2 oO) (have f6:=L_abs_neg (-(kb (w+24)) / 2^24);have f5:=L_abs_shr (-(kb (w+24))) 24;have f4:=L_abs_neg (kb (w+24));have f3:=L_abs_shr (ka (w+24)) 24;aI (fits_i64 oO:(fits .i64 ((0:Int)-w))=true) (aI (dy_Make ((ka (w+24)) / 2^24) ((0:Int)-w) oO oO) (have f2:=mk_facts ((ka (w+24)) / 2^24) ((0:Int)-w);aI (fits_i64 oO:(fits .i64 ((0:Int)-w))=true) (aI (dy_Make (-(-(kb (w+24)) / 2^24)) ((0:Int)-w) oO oO) (have f1:=mk_facts (-(-(kb (w+24)) / 2^24)) ((0:Int)-w);aI (iNe_mkF oO:(iNe (mkE ((ka (w+24)) / 2^24) ((0:Int)-w)) 0)=false) (aI (iNe_mkF oO:(iNe (mkE (-(-(kb (w+24)) / 2^24)) ((0:Int)-w)) 0)=false) ((by rw[ez];exact vsub_refl _:vsub (.tup [(wV (mkM ((ka (w+24)) / 2^24) ((0:Int)-w)) (mkX ((ka (w+24)) / 2^24) ((0:Int)-w)) (mkM (-(-(kb (w+24)) / 2^24)) ((0:Int)-w)) (mkX (-(-(kb (w+24)) / 2^24)) ((0:Int)-w))),(.int .i64 0)]) (.tup [(wV (mkM ((ka (w+24)) / 2^24) (-w)) (mkX ((ka (w+24)) / 2^24) (-w)) (mkM (-(-(kb (w+24)) / 2^24)) (-w)) (mkX (-(-(kb (w+24)) / 2^24)) (-w))),(.int .i64 0)]))))))))))))) (by kernel_rfl))
theorem pi_ok {s:Int}(h:0≤s∧s≤6000):L (piLo s).natAbs≤s+s / 32+10∧L (piHi s).natAbs≤s+s / 32+10∧nbits (piHi s-piLo s).natAbs≤24:=by
 have a:=arcT_L (n:=5) true (s:=s) oO h
 have b:=arcT_L (n:=239) true (s:=s) oO h
 have l0:=L_lit (16:Int).natAbs (by decide)
 have l1:=L_lit (4:Int).natAbs (by decide)
 have l2:=L_abs_mul ((arcT 5 true s).2-3*((arcT 5 true s).1+2)) 16
 have l3:=L_abs_mul ((arcT 5 true s).2+3*((arcT 5 true s).1+2)) 16
 have l4:=L_abs_mul ((arcT 239 true s).2-3*((arcT 239 true s).1+2)) 4
 have l5:=L_abs_mul ((arcT 239 true s).2+3*((arcT 239 true s).1+2)) 4
 have l6:=L_abs_neg (((arcT 239 true s).2+3*((arcT 239 true s).1+2))*4)
 have l7:=L_abs_neg (((arcT 239 true s).2-3*((arcT 239 true s).1+2))*4)
 have l8:=L_abs_add (((arcT 5 true s).2-3*((arcT 5 true s).1+2))*16) (-(((arcT 239 true s).2+3*((arcT 239 true s).1+2))*4))
 have l9:=L_abs_add (((arcT 5 true s).2+3*((arcT 5 true s).1+2))*16) (-(((arcT 239 true s).2-3*((arcT 239 true s).1+2))*4))
 refine⟨by unfold piLo;omega,by unfold piHi;omega,nbits_of_lt ?_⟩
 unfold piHi piLo
 omega
theorem ct_Pi (w:Int)(c0:(0:Int)≤w∧w≤1500):Impl Tryz.prog Amb 42 [(.int .i64 w)] (.tup [(wV (mkM ((piLo (w+24)) / 2^24) (-w)) (mkX ((piLo (w+24)) / 2^24) (-w)) (mkM (-(-(piHi (w+24)) / 2^24)) (-w)) (mkX (-(-(piHi (w+24)) / 2^24)) (-w))),(.int .i64 0)]):=by
 have ok:=pi_ok (s:=w+24) oO
 have l1:=L_abs_shr (piLo (w+24)) 24
 have l2:=L_abs_neg (piHi (w+24))
 have l3:=L_abs_shr (-piHi (w+24)) 24
 have l4:=L_abs_neg (-piHi (w+24) / 2^24)
 exact impl_ob hP hAmb Tryz.func42 (by kernel_rfl) (.lit<|.call (.tup [(wV (mkM ((piLo (w+24)) / 2^24) (-w)) (mkX ((piLo (w+24)) / 2^24) (-w)) (mkM (-(-(piHi (w+24)) / 2^24)) (-w)) (mkX (-(-(piHi (w+24)) / 2^24)) (-w))),(.int .i64 0)])<|.lits 2<|.ret)
  (cast_ob (aI True.intro (aI (ct_tight 104 piLo piHi w (fun s h1 h2=>fx_Pi s ⟨h1,h2⟩) oO ok.2.2 oO ⟨mk_fine oO oO,mk_fine oO oO⟩) (have f2:=mk_facts (-(-(piHi (w+24)) / 2^24)) (-w);have f1:=mk_facts (piLo (w+24) / 2^24) (-w);(vsub_refl (.tup [(wV (mkM ((piLo (w+24)) / 2^24) (-w)) (mkX ((piLo (w+24)) / 2^24) (-w)) (mkM (-(-(piHi (w+24)) / 2^24)) (-w)) (mkX (-(-(piHi (w+24)) / 2^24)) (-w))),(.int .i64 0)]))))) (by kernel_rfl))
end Go.Proofs.YtkkbddkpggjgpaaGreatDoor

namespace Go.Proofs.YtkkbddkpggjgpaaGreatDoor
theorem kn_key {X D P t u2 v1 v2 W V:Nat}(hX:X=W+P*(u2+4294967296*t))(hW:W<P)(hD:D=V+P*(v2+4294967296*v1)) :
  X / D*v2+4294967296*(X / D*v1)≤u2+4294967296*t:=by
 generalize hq:X / D=q
 have h1:q*D≤X:=by rw[← hq];exact Nat.div_mul_le_self X D
 have h2:q*(P*(v2+4294967296*v1))≤q*D:=Nat.mul_le_mul_left _ (by omega)
 have h3:P*(q*(v2+4294967296*v1))<P*(u2+4294967296*t+1):=by
  rw[Nat.mul_left_comm P q,Nat.mul_add P _ 1];omega
 have h4:=Nat.lt_of_mul_lt_mul_left h3
 rw[Nat.mul_add,Nat.mul_left_comm] at h4
 omega
theorem kn_lt {X D:Nat}(h:X<D*4294967296):X / D<4294967296:=by
 rcases Nat.eq_zero_or_pos D with h0 | h0
 ·subst h0;omega
 ·exact Nat.div_lt_of_lt_mul h
theorem kn_first {X D P t u2 v1 v2 W V:Nat}(hX:X=W+P*(u2+4294967296*t))(hW:W<P)(hD:D=V+P*(v2+4294967296*v1))(hu:u2<4294967296)(hv:0<v1) :
  X / D≤t / v1:=by
 have h:=kn_key hX hW hD
 rw[Nat.le_div_iff_mul_le hv]
 generalize X / D*v2=a at h
 generalize X / D*v1=b at *
 omega
theorem kn_last {X D P t u2 v1 v2 W V g:Nat}(hX:X=W+P*(u2+4294967296*t))(hD:D=V+P*(v2+4294967296*v1))(hV:V<P)(hv:0<v1)
  (hg:g<4294967296) (h:g*v2+4294967296*(g*v1)≤u2+4294967296*t):g≤X / D+1:=by
 rcases Nat.eq_zero_or_pos g with h0 | h0
 ·rw[h0];exact Nat.zero_le _
 have h1:P*(g*(v2+4294967296*v1))≤P*(u2+4294967296*t):=Nat.mul_le_mul_left _ (by rw[Nat.mul_add,Nat.mul_left_comm];omega)
 have h2:g*D=g*V+P*(g*(v2+4294967296*v1)):=by rw[hD,Nat.mul_add,Nat.mul_left_comm g P]
 have h3:g*V≤4294967296*P:=Nat.mul_le_mul (by omega) (by omega)
 have h4:P*4294967296≤P*(v2+4294967296*v1):=Nat.mul_le_mul_left _ (by omega)
 have h5:(g-1)*D=g*D-D:=by rw[Nat.sub_mul,Nat.one_mul]
 have h6:(g-1)*D≤X:=by omega
 have h7:0<P:=by omega
 have h8:0<D:=by
  have:=Nat.mul_le_mul_right 4294967296 h7
  omega
 have h9:=(Nat.le_div_iff_mul_le h8).2 h6
 generalize X / D=q at *
 omega
theorem pow_B (n:Nat):0<4294967296^n:=Nat.pow_pos (by omega)
theorem val_inj:∀ {l m:List Nat},Dig l→Dig m→l.length=m.length→val l=val m→l=m
 | [],[],_,_,_,_=>rfl
 | [],_::_,_,_,h,_=>by simp at h
 | _::_,[],_,_,h,_=>by simp at h
 | a::l,b::m,hl,hm,h,hv=>by
  have ha:=hl a (by simp)
  have hb:=hm b (by simp)
  rw[val,val] at hv
  have h1:a=b:=by omega
  have h2:val l=val m:=by omega
  rw[h1,val_inj (fun d hd=>hl d (by simp [hd])) (fun d hd=>hm d (by simp [hd])) (by simpa using h) h2]
def padN (n x:Nat):List Nat:=limbs x ++ List.replicate (n-L x) 0
theorem padN_val (n x:Nat):val (padN n x)=x:=by unfold padN;rw[val_append,val_limbs,val_rep];omega
theorem padN_dig (n x:Nat):Dig (padN n x):=dig_append (dig_limbs x) (dig_rep _)
theorem padN_len {n x:Nat}(h:x<4294967296^n):(padN n x).length=n:=by
 have:=L_le h
 unfold padN
 rw[List.length_append,List.length_replicate]
 show L x+_=n
 omega
def lowL (l:List Nat)(n x:Nat):List Nat:=padN n x ++ l.drop n
theorem lowL_eq {l m:List Nat}{n x:Nat}(hn:n≤l.length)(hl:m.length=l.length)(hD:Dig m)(hv:val (m.take n)=x)(ho:∀ j,n≤j→m.getD j 0=l.getD j 0):m=lowL l n x:=by
 have hx:x<4294967296^n:=by
  rw[← hv]
  have:=val_lt (dig_take hD n)
  rwa [List.length_take,Nat.min_eq_left (by omega)] at this
 unfold lowL
 rw[← List.take_append_drop n m]
 congr 1
 ·refine val_inj (dig_take hD n) (padN_dig n x) ?_ ?_
  ·rw[padN_len hx,List.length_take,Nat.min_eq_left (by omega)]
  ·rw[hv,padN_val]
 ·apply List.ext_getElem?
  intro i
  rw[List.getElem?_drop,List.getElem?_drop]
  have:=ho (n+i) (by omega)
  rw[List.getD_eq_getElem?_getD,List.getD_eq_getElem?_getD] at this
  by_cases h:n+i<l.length
  ·rw[List.getElem?_eq_getElem h,List.getElem?_eq_getElem (by omega)] at this ⊢
   simpa using this
  ·rw[List.getElem?_eq_none (by omega),List.getElem?_eq_none (by omega)]
theorem lowL_len {l:List Nat}{n x:Nat}(hn:n≤l.length)(hx:x<4294967296^n):(lowL l n x).length=l.length:=by
 unfold lowL;rw[List.length_append,padN_len hx,List.length_drop];omega
theorem lowL_dig {l:List Nat}{n x:Nat}(h:Dig l):Dig (lowL l n x):=dig_append (padN_dig _ _) (dig_drop h _)
theorem lowL_take {l:List Nat}{n x:Nat}(hx:x<4294967296^n):val ((lowL l n x).take n)=x:=by
 unfold lowL
 rw[List.take_append_of_le_length (by rw[padN_len hx];exact Nat.le_refl _),List.take_of_length_le (by rw[padN_len hx];exact Nat.le_refl _),padN_val]
def Xd (l:List Nat)(k n:Nat):Nat:=val (l.take (k+n+1))
structure Kn (l:List Nat) (k:Nat) (V:Nat):Prop where
 dig:Dig l
 two:2≤L V
 len:k+L V+1≤l.length
 top:2147483648≤(limbs V).getD (L V-1) 0
 small:Xd l k (L V)<4294967296^k*V*4294967296
def kq (l:List Nat)(k V:Nat):Nat:=Xd l k (L V) / (4294967296^k*V)
theorem Kn.X {l k V}(h:Kn l k V):Xd l k (L V)=val (l.take (k+L V-2))+4294967296^(k+L V-2)*(l.getD (k+L V-2) 0+4294967296*(l.getD (k+L V-1) 0+4294967296*l.getD (k+L V) 0)):=by
 have h2:=h.two
 unfold Xd
 have e1:=take_succ_val l (k+L V)
 have e2:=take_succ_val l (k+L V-1)
 have e3:=take_succ_val l (k+L V-2)
 rw[show k+L V-1+1=k+L V by omega] at e2
 rw[show k+L V-2+1=k+L V-1 by omega] at e3
 rw[e1,e2,e3]
 have p1:4294967296^(k+L V-1)=4294967296^(k+L V-2)*4294967296:=by rw[← Nat.pow_succ];congr 1;omega
 have p2:4294967296^(k+L V)=4294967296^(k+L V-2)*4294967296*4294967296:=by rw[← Nat.pow_succ,← Nat.pow_succ];congr 1;omega
 rw[p1,p2]
 generalize 4294967296^(k+L V-2)=P
 simp only [Nat.mul_add,Nat.mul_assoc,Nat.add_assoc]
theorem Kn.V {l k V}(h:Kn l k V):4294967296^k*V=4294967296^k*val ((limbs V).take (L V-2))+4294967296^(k+L V-2)*((limbs V).getD (L V-2) 0+4294967296*(limbs V).getD (L V-1) 0):=by
 have h2:=h.two
 have e2:=take_succ_val (limbs V) (L V-1)
 have e3:=take_succ_val (limbs V) (L V-2)
 rw[show L V-1+1=L V by omega,val_lim V (Nat.le_refl _)] at e2
 rw[show L V-2+1=L V-1 by omega] at e3
 have p1:4294967296^(L V-1)=4294967296^(L V-2)*4294967296:=by rw[← Nat.pow_succ];congr 1;omega
 have p2:4294967296^(k+L V-2)=4294967296^k*4294967296^(L V-2):=by rw[← Nat.pow_add];congr 1;omega
 rw[e3,p1] at e2
 rw[p2]
 generalize (limbs V).getD (L V-1) 0=a at *
 generalize (limbs V).getD (L V-2) 0=b at *
 generalize val ((limbs V).take (L V-2))=c at *
 generalize 4294967296^(L V-2)=P at *
 conv=>lhs;rw[e2]
 simp only [Nat.mul_add,Nat.mul_assoc,Nat.add_assoc]
theorem Kn.W {l k V}(h:Kn l k V):val (l.take (k+L V-2))<4294967296^(k+L V-2):=by
 have h2:=h.two
 have h3:=h.len
 have:=val_lt (dig_take h.dig (k+L V-2))
 rwa [List.length_take,Nat.min_eq_left (by omega)] at this
theorem Kn.V2 {l k V}(h:Kn l k V):4294967296^k*val ((limbs V).take (L V-2))<4294967296^(k+L V-2):=by
 have h2:=h.two
 have:=val_lt (dig_take (dig_limbs V) (L V-2))
 rw[List.length_take,Nat.min_eq_left (show L V-2≤(limbs V).length from Nat.sub_le _ _)] at this
 rw[show k+L V-2=k+(L V-2) by omega,Nat.pow_add]
 exact (Nat.mul_lt_mul_left (pow_B k)).2 this
theorem Kn.u0 {l k V}(h:Kn l k V):l.getD (k+L V) 0≤(limbs V).getD (L V-1) 0:=by
 have h1:=h.small
 rw[h.X,h.V] at h1
 have h2:=h.V2
 have h3:=dig_get (dig_limbs V) (L V-2)
 generalize 4294967296^k*val ((limbs V).take (L V-2))=c at *
 generalize val (l.take (k+L V-2))=w at *
 generalize (limbs V).getD (L V-1) 0=a at *
 generalize (limbs V).getD (L V-2) 0=b at *
 generalize l.getD (k+L V) 0=d at *
 generalize l.getD (k+L V-1) 0=e at *
 generalize l.getD (k+L V-2) 0=f at *
 generalize 4294967296^(k+L V-2)=P at *
 have h4:P*(f+4294967296*(e+4294967296*d))<P*((b+4294967296*a+1)*4294967296):=by
  have:P*((b+4294967296*a+1)*4294967296)=(P+P*(b+4294967296*a))*4294967296:=by
   rw[← Nat.mul_assoc,Nat.mul_add P _ 1];omega
  rw[this]
  omega
 have h5:=Nat.lt_of_mul_lt_mul_left h4
 omega
theorem Kn.qlt {l k V}(h:Kn l k V):kq l k V<4294967296:=kn_lt h.small
def GIn (l:List Nat)(k V:Nat)(g r:Int):Prop :=
 0≤g∧0≤r∧r<4294967296∧g*gi (limbs V) (L V-1)+r=gi l (k+L V)*4294967296+gi l (k+L V-1)∧((kq l k V:Nat):Int)≤g∧g≤4294967297
def GOut (l:List Nat)(k V:Nat)(g:Int):Prop:=0≤g∧g<4294967296∧((kq l k V:Nat):Int)≤g∧g≤(kq l k V:Nat)+1
theorem gin_init {l k V}(h:Kn l k V){t:Int}(ht:t=gi l (k+L V)*4294967296+gi l (k+L V-1)) :
  GIn l k V (t / gi (limbs V) (L V-1)) (t%gi (limbs V) (L V-1)):=by
 have h1:=kn_first h.X h.W h.V (dig_get h.dig _) (by have:=h.top;omega)
 have h2:=h.top
 have h3:=dig_get (dig_limbs V) (L V-1)
 have h4:=h.u0
 have h5:=dig_get h.dig (k+L V-1)
 unfold GIn kq
 rw[gi_eq,gi_eq] at ht
 rw[gi_eq,gi_eq,gi_eq]
 generalize (limbs V).getD (L V-1) 0=v at *
 generalize l.getD (k+L V) 0=a at *
 generalize l.getD (k+L V-1) 0=b at *
 generalize Xd l k (L V) / (4294967296^k*V)=q at *
 have ht':t=((b+4294967296*a:Nat):Int):=by omega
 have hv:(0:Int)<v:=by omega
 have e1:=Int.emod_nonneg t (show (v:Int)≠0 by omega)
 have e2:=Int.emod_lt_of_pos t hv
 have e3:=Int.mul_ediv_add_emod t v
 have e4:0≤t / v:=Int.ediv_nonneg (by omega) (by omega)
 refine⟨e4,e1,by omega,by rw[Int.mul_comm];omega,?_,?_⟩
 ·rw[ht',← Int.natCast_ediv];omega
 ·refine Decidable.byContradiction fun hn=>?_
  have:(4294967298:Int)≤t / v:=by omega
  have:=(Int.le_ediv_iff_mul_le hv).1 this
  omega
theorem g_prod {g v:Int}(hg:0≤g∧g<4294967296)(hv:0≤v∧v<4294967296):0≤g*v∧g*v≤18446744065119617025:=by
 have h1:0≤g*v:=Int.mul_nonneg hg.1 hv.1
 have h2:g*v≤4294967295*4294967295:=Int.mul_le_mul (by omega) (by omega) hv.1 (by omega)
 omega
theorem gin_down {l k V}(h:Kn l k V){g r:Int}(hi:GIn l k V g r)(hc:4294967296≤g∨r*4294967296+gi l (k+L V-2)<g*gi (limbs V) (L V-2)):((kq l k V:Nat):Int)≤g-1:=by
 obtain⟨h1,h2,h3,h4,h5,h6⟩:=hi
 rcases hc with hc | hc
 ·have:=h.qlt;omega
 ·refine Decidable.byContradiction fun hn=>?_
  have hg:g=((kq l k V:Nat):Int):=by omega
  have hk:=kn_key h.X h.W h.V
  rw[gi_eq,gi_eq] at hc
  rw[gi_eq,gi_eq,gi_eq] at h4
  subst hg
  unfold kq at *
  generalize (limbs V).getD (L V-1) 0=v at *
  generalize (limbs V).getD (L V-2) 0=v2 at *
  generalize l.getD (k+L V) 0=a at *
  generalize l.getD (k+L V-1) 0=b at *
  generalize l.getD (k+L V-2) 0=c at *
  generalize Xd l k (L V) / (4294967296^k*V)=q at *
  rw[← Int.natCast_mul] at hc h4
  generalize q*v2=x at *
  generalize q*v=y at *
  omega
theorem gin_next {l k V}(h:Kn l k V){g r:Int}(hi:GIn l k V g r)(hc:4294967296≤g∨r*4294967296+gi l (k+L V-2)<g*gi (limbs V) (L V-2))(hr:r+gi (limbs V) (L V-1)<4294967296) :
  GIn l k V (g-1) (r+gi (limbs V) (L V-1)):=by
 have hd:=gin_down h hi hc
 obtain⟨h1,h2,h3,h4,h5,h6⟩:=hi
 have hv:=gi_nonneg (limbs V) (L V-1)
 refine⟨by omega,by omega,hr,?_,hd,by omega⟩
 rw[Int.sub_mul];omega
theorem gout_of {l k V}(h:Kn l k V){g:Int}(h0:0≤g)(hg:g<4294967296)(hq:((kq l k V:Nat):Int)≤g)(hk:g*gi (limbs V) (L V-2)+4294967296*(g*gi (limbs V) (L V-1)) ≤
  gi l (k+L V-2)+4294967296*(gi l (k+L V)*4294967296+gi l (k+L V-1))):GOut l k V g:=by
 refine⟨h0,hg,hq,?_⟩
 obtain⟨g,rfl⟩:=Int.eq_ofNat_of_zero_le h0
 have:=kn_last (g:=g) h.X h.V h.V2 (by have:=h.top;omega) (by omega) (by
  rw[gi_eq,gi_eq,gi_eq,gi_eq,gi_eq] at hk
  rw[← Int.natCast_mul,← Int.natCast_mul] at hk
  omega)
 unfold kq
 omega
theorem gin_stop {l k V}(h:Kn l k V){g r:Int}(hi:GIn l k V g r)(h1:g<4294967296)(h2:g*gi (limbs V) (L V-2)≤r*4294967296+gi l (k+L V-2)):GOut l k V g:=by
 obtain⟨g1,g2,g3,g4,g5,g6⟩:=hi
 exact gout_of h g1 h1 g5 (by omega)
theorem gin_break {l k V}(h:Kn l k V){g r:Int}(hi:GIn l k V g r)(hc:4294967296≤g∨r*4294967296+gi l (k+L V-2)<g*gi (limbs V) (L V-2))(hr:4294967296≤r+gi (limbs V) (L V-1)) :
  GOut l k V (g-1):=by
 have hd:=gin_down h hi hc
 obtain⟨g1,g2,g3,g4,g5,g6⟩:=hi
 have hv:=gi_lt (dig_limbs V) (L V-1)
 have hv0:=gi_nonneg (limbs V) (L V-1)
 have hw:=gi_lt (dig_limbs V) (L V-2)
 have hw0:=gi_nonneg (limbs V) (L V-2)
 have hb:=gi_lt h.dig (k+L V-1)
 have hc0:=gi_nonneg l (k+L V-2)
 have hu:gi l (k+L V)≤gi (limbs V) (L V-1):=by have:=h.u0;rw[gi_eq,gi_eq];omega
 have hv1:2147483648≤gi (limbs V) (L V-1):=by have:=h.top;rw[gi_eq];omega
 have hlt:g-1<4294967296:=by
  refine Decidable.byContradiction fun hn=>?_
  have:4294967296*gi (limbs V) (L V-1)≤(g-1)*gi (limbs V) (L V-1):=Int.mul_le_mul_of_nonneg_right (by omega) hv0
  rw[Int.sub_mul] at this
  omega
 have hp:=g_prod (g:=g-1) (v:=gi (limbs V) (L V-2)) ⟨by omega,hlt⟩ ⟨hw0,hw⟩
 refine gout_of h (by omega) hlt hd ?_
 have:(g-1)*gi (limbs V) (L V-1)=g*gi (limbs V) (L V-1)-gi (limbs V) (L V-1):=by rw[Int.sub_mul];omega
 omega
def MsIn (l:List Nat)(k V:Nat)(g:Int)(i c b:Int)(m:List Nat):Prop :=
 0≤i∧i≤L V∧0≤c∧c<4294967296∧0≤b∧b≤1∧m.length=l.length∧Dig m∧(∀ j,k+i.toNat≤j→m.getD j 0=l.getD j 0) ∧
 val (m.take (k+i.toNat))+4294967296^k*(g.toNat*val ((limbs V).take i.toNat))=val (l.take (k+i.toNat))+4294967296^(k+i.toNat)*(c.toNat+b.toNat)
theorem ms_init {l:List Nat}{k V:Nat}(g:Int)(h:Dig l):MsIn l k V g 0 0 0 l:=⟨by omega,by omega,by omega,by omega,by omega,by omega,rfl,h,fun _ _=>rfl,by simp [val]⟩
theorem ms_next {l:List Nat}{k V:Nat}{g i c b s:Int}{m:List Nat}(h:MsIn l k V g i c b m)(hi:i<L V)(hlen:k+L V+1≤l.length)(hg:0≤g)(hs:s=c+g*gi (limbs V) i.toNat)(hsb:s / 4294967296<4294967296) :
  MsIn l k V g (i+1) (s / 4294967296) (if gi m (k+i.toNat)<s%4294967296+b then 1 else 0) (m.set (k+i.toNat) ((gi m (k+i.toNat)-s%4294967296-b)%4294967296).toNat):=by
 obtain⟨h0,h1,h2,h3,h4,h5,h6,h7,h8,h9⟩:=h
 have hl:=h8 (k+i.toNat) (Nat.le_refl _)
 have hy:=dig_get h7 (k+i.toNat)
 have hx:=gi_nonneg (limbs V) i.toNat
 have hb1:=take_succ_val (limbs V) i.toNat
 have hb2:=take_succ_val l (k+i.toNat)
 rw[gi_eq] at hs hx
 rw[gi_eq]
 rw[← hl] at hb2
 generalize (limbs V).getD i.toNat 0=x at *
 generalize m.getD (k+i.toNat) 0=y at *
 obtain⟨g,rfl⟩:=Int.eq_ofNat_of_zero_le hg
 have hs0:0≤s:=by rw[hs];have:=Int.mul_nonneg hg hx;omega
 refine⟨by omega,by omega,by omega,hsb,by split<;>omega,by split<;>omega,by simpa using h6,dig_set h7 (by omega) _,?_,?_⟩
 ·intro j hj
  rw[set_getD_ne _ _ (by omega)]
  exact h8 j (by omega)
 ·rw[show k+(i+1).toNat=k+i.toNat+1 by omega,set_val _ _ (by omega),hb2,show (i+1).toNat=i.toNat+1 by omega,hb1]
  simp only [Int.toNat_natCast] at h9 ⊢
  generalize hk:(if (y:Int)<s%4294967296+b then (1:Int) else 0)=b'
  obtain⟨c,rfl⟩:=Int.eq_ofNat_of_zero_le h2
  have hsN:s=((c+g*x:Nat):Int):=by rw[hs];simp
  have e:(((y:Int)-s%4294967296-b)%4294967296).toNat+c+b.toNat+g*x=y+4294967296*((s / 4294967296).toNat+b'.toNat):=by
   generalize g*x=z at *
   subst hk;split<;>omega
  generalize (((y:Int)-s%4294967296-b)%4294967296).toNat=d at *
  generalize (s / 4294967296).toNat=c' at *
  rw[Nat.pow_succ,Int.toNat_natCast] at *
  have e2:4294967296^k*(g*(val ((limbs V).take i.toNat)+4294967296^i.toNat*x))=4294967296^k*(g*val ((limbs V).take i.toNat))+4294967296^(k+i.toNat)*(g*x):=by
   rw[Nat.pow_add,Nat.mul_add,Nat.mul_add,Nat.mul_left_comm g,Nat.mul_assoc]
  rw[e2]
  generalize 4294967296^k*(g*val ((limbs V).take i.toNat))=A at *
  generalize 4294967296^(k+i.toNat)=P at *
  have e3:P*d+P*(c+b.toNat)+P*(g*x)=P*y+P*4294967296*(c'+b'.toNat):=by
   rw[Nat.mul_assoc,← Nat.mul_add,← Nat.mul_add,← Nat.mul_add]
   congr 1
   omega
  omega
theorem ms_end {l:List Nat}{k V:Nat}{g c b:Int}{m:List Nat}(h:MsIn l k V g (L V:Int) c b m)(hlen:k+L V+1≤l.length) :
  (m.set (k+L V) ((gi m (k+L V)-c-b)%4294967296).toNat).length=l.length∧Dig (m.set (k+L V) ((gi m (k+L V)-c-b)%4294967296).toNat) ∧
  (∀ j,k+L V+1≤j→(m.set (k+L V) ((gi m (k+L V)-c-b)%4294967296).toNat).getD j 0=l.getD j 0) ∧
  val ((m.set (k+L V) ((gi m (k+L V)-c-b)%4294967296).toNat).take (k+L V+1))+g.toNat*(4294967296^k*V)=Xd l k (L V)+4294967296^(k+L V+1)*(if gi m (k+L V)<c+b then 1 else 0):=by
 obtain⟨h0,h1,h2,h3,h4,h5,h6,h7,h8,h9⟩:=h
 rw[Int.toNat_natCast,val_lim V (Nat.le_refl _)] at h9
 rw[Int.toNat_natCast] at h8
 have hl:=h8 (k+L V) (Nat.le_refl _)
 have hy:=dig_get h7 (k+L V)
 have hb2:=take_succ_val l (k+L V)
 rw[← hl] at hb2
 unfold Xd
 rw[gi_eq,hb2]
 refine⟨by simpa using h6,dig_set h7 (by omega) _,fun j hj=>?_,?_⟩
 ·rw[set_getD_ne _ _ (by omega)];exact h8 j (by omega)
 rw[set_val _ _ (by omega)]
 generalize m.getD (k+L V) 0=y at *
 have e:(((y:Int)-c-b)%4294967296).toNat+(c.toNat+b.toNat)=y+4294967296*(if (y:Int)<c+b then 1 else 0):=by split<;>omega
 generalize (((y:Int)-c-b)%4294967296).toNat=d at *
 generalize (if (y:Int)<c+b then 1 else 0)=z at *
 rw[Nat.pow_succ,Nat.mul_left_comm g.toNat]
 generalize 4294967296^(k+L V)=P at *
 generalize 4294967296^k*(g.toNat*V)=A at *
 have e3:P*d+P*(c.toNat+b.toNat)=P*y+P*4294967296*z:=by
  rw[Nat.mul_assoc,← Nat.mul_add,← Nat.mul_add,e]
 omega
def AbIn (m0:List Nat)(k V:Nat)(i a:Int)(m:List Nat):Prop :=
 0≤i∧i≤L V∧0≤a∧a≤1∧m.length=m0.length∧Dig m∧(∀ j,k+i.toNat≤j→m.getD j 0=m0.getD j 0) ∧
 val (m.take (k+i.toNat))+4294967296^(k+i.toNat)*a.toNat=val (m0.take (k+i.toNat))+4294967296^k*val ((limbs V).take i.toNat)
theorem ab_init {m0:List Nat}{k V:Nat}(h:Dig m0):AbIn m0 k V 0 0 m0:=⟨by omega,by omega,by omega,by omega,rfl,h,fun _ _=>rfl,by simp [val]⟩
theorem ab_next {m0:List Nat}{k V:Nat}{i a s:Int}{m:List Nat}(h:AbIn m0 k V i a m)(hi:i<L V)(hlen:k+L V+1≤m0.length)(hs:s=gi m (k+i.toNat)+gi (limbs V) i.toNat+a) :
  AbIn m0 k V (i+1) (s / 4294967296) (m.set (k+i.toNat) (s%4294967296).toNat):=by
 obtain⟨h0,h1,h2,h3,h4,h5,h6,h7⟩:=h
 have hl:=h6 (k+i.toNat) (Nat.le_refl _)
 have hy:=dig_get h5 (k+i.toNat)
 have hx:=dig_get (dig_limbs V) i.toNat
 have hb1:=take_succ_val (limbs V) i.toNat
 have hb2:=take_succ_val m0 (k+i.toNat)
 rw[gi_eq,gi_eq] at hs
 rw[← hl] at hb2
 generalize (limbs V).getD i.toNat 0=x at *
 generalize m.getD (k+i.toNat) 0=y at *
 refine⟨by omega,by omega,by omega,by omega,by simpa using h4,dig_set h5 (by omega) _,?_,?_⟩
 ·intro j hj
  rw[set_getD_ne _ _ (by omega)]
  exact h6 j (by omega)
 ·rw[show k+(i+1).toNat=k+i.toNat+1 by omega,set_val _ _ (by omega),hb2,show (i+1).toNat=i.toNat+1 by omega,hb1]
  have e:(s%4294967296).toNat+4294967296*(s / 4294967296).toNat=y+x+a.toNat:=by omega
  generalize (s%4294967296).toNat=d at *
  generalize (s / 4294967296).toNat=c' at *
  rw[Nat.pow_succ]
  have e2:4294967296^k*(val ((limbs V).take i.toNat)+4294967296^i.toNat*x)=4294967296^k*val ((limbs V).take i.toNat)+4294967296^(k+i.toNat)*x:=by
   rw[Nat.pow_add,Nat.mul_add,Nat.mul_assoc]
  rw[e2]
  generalize 4294967296^k*val ((limbs V).take i.toNat)=A at *
  generalize 4294967296^(k+i.toNat)=P at *
  have e3:P*d+P*4294967296*c'=P*y+P*x+P*a.toNat:=by
   rw[Nat.mul_assoc,← Nat.mul_add,← Nat.mul_add,← Nat.mul_add,e]
  omega
theorem kn_right {l:List Nat}{k V:Nat}{g:Int}{m:List Nat}(h:Kn l k V)(hg:GOut l k V g)(hm:m.length=l.length)(hD:Dig m)(ho:∀ j,k+L V+1≤j→m.getD j 0=l.getD j 0)
  (hv:val (m.take (k+L V+1))+g.toNat*(4294967296^k*V)=Xd l k (L V)):g=((kq l k V:Nat):Int)∧m=lowL l (k+L V+1) (Xd l k (L V)%(4294967296^k*V)):=by
 obtain⟨g0,g1,g2,g3⟩:=hg
 have hpos:0<4294967296^k*V:=by
  refine Nat.mul_pos (pow_B k) ?_
  rcases Nat.eq_zero_or_pos V with q | q
  ·have:=h.two;rw[q,L_zero] at this;omega
  ·exact q
 have h1:g.toNat≤kq l k V:=by unfold kq;rw[Nat.le_div_iff_mul_le hpos];omega
 have h2:g.toNat=kq l k V:=by omega
 refine⟨by omega,lowL_eq h.len hm hD ?_ ho⟩
 have h3:=Nat.div_add_mod (Xd l k (L V)) (4294967296^k*V)
 rw[h2] at hv
 unfold kq at hv
 rw[Nat.mul_comm] at hv
 omega
theorem kn_dig {y:Nat}{a:Int}(hy:y<4294967296)(a0:0≤a)(a1:a≤1):∃ z,z≤1∧(((y:Int)+a)%4294967296).toNat+4294967296*z=y+a.toNat:=⟨(((y:Int)+a) / 4294967296).toNat,by omega,by omega⟩
theorem kn_fin {X D P W W0 q y aN d R:Nat}(h1:W0+P*y+(q+1)*D=X+P*4294967296)(h2:W+P*aN=W0+D)(h3:∃ z,z≤1∧d+4294967296*z=y+aN)
  (h5:D*q+R=X) (h6:R<D) (h7:D<P) (h4:W+P*d<P*4294967296):W+P*d=R:=by
 obtain⟨z,hz,h3⟩:=h3
 have e3:P*d+P*(4294967296*z)=P*y+P*aN:=by rw[← Nat.mul_add,← Nat.mul_add,h3]
 have e4:(q+1)*D=D*q+D:=by rw[Nat.add_mul,Nat.one_mul,Nat.mul_comm]
 rcases (show z=0∨z=1 by omega) with rfl | rfl
 ·simp only [Nat.mul_zero,Nat.add_zero] at e3;omega
 ·simp only [Nat.mul_one] at e3;omega
theorem kn_less {l:List Nat}{k V:Nat}{g:Int}{m0:List Nat}(h:Kn l k V)(hg:GOut l k V g)(hm:m0.length=l.length)(hD:Dig m0)
  (hv:val (m0.take (k+L V+1))+g.toNat*(4294967296^k*V)=Xd l k (L V)+4294967296^(k+L V+1)):((kq l k V:Nat):Int)<g:=by
 obtain⟨g0,g1,g2,g3⟩:=hg
 have hlen:=h.len
 have hpos:0<4294967296^k*V:=by
  refine Nat.mul_pos (pow_B k) ?_
  rcases Nat.eq_zero_or_pos V with q | q
  ·have:=h.two;rw[q,L_zero] at this;omega
  ·exact q
 have hlt:=val_lt (dig_take hD (k+L V+1))
 rw[List.length_take,Nat.min_eq_left (by omega)] at hlt
 have h1:kq l k V<g.toNat:=by
  unfold kq
  rw[Nat.div_lt_iff_lt_mul hpos]
  generalize 4294967296^(k+L V+1)=PB at *
  generalize g.toNat*(4294967296^k*V)=gD at *
  omega
 clear hv hlt
 omega
theorem kn_back {l:List Nat}{k V:Nat}{g a:Int}{m0 m:List Nat}(h:Kn l k V)(hg:GOut l k V g)(hm:m0.length=l.length)(hD:Dig m0)(ho:∀ j,k+L V+1≤j→m0.getD j 0=l.getD j 0)
  (hv:val (m0.take (k+L V+1))+g.toNat*(4294967296^k*V)=Xd l k (L V)+4294967296^(k+L V+1)) (ha:AbIn m0 k V (L V:Int) a m) :
  g-1=((kq l k V:Nat):Int)∧m.set (k+L V) ((gi m (k+L V)+a)%4294967296).toNat=lowL l (k+L V+1) (Xd l k (L V)%(4294967296^k*V)):=by
 obtain⟨g0,g1,g2,g3⟩:=hg
 obtain⟨a0,a1,a2,a3,a4,a5,a6,a7⟩:=ha
 rw[Int.toNat_natCast,val_lim V (Nat.le_refl _)] at a7
 rw[Int.toNat_natCast] at a6
 have hlen:=h.len
 have hpos:0<4294967296^k*V:=by
  refine Nat.mul_pos (pow_B k) ?_
  rcases Nat.eq_zero_or_pos V with q | q
  ·have:=h.two;rw[q,L_zero] at this;omega
  ·exact q
 have hlt:=val_lt (dig_take hD (k+L V+1))
 rw[List.length_take,Nat.min_eq_left (by omega)] at hlt
 have h1:kq l k V<g.toNat:=by
  unfold kq
  rw[Nat.div_lt_iff_lt_mul hpos]
  clear a7
  generalize 4294967296^(k+L V+1)=PB at *
  generalize g.toNat*(4294967296^k*V)=gD at *
  omega
 have h2:g.toNat=kq l k V+1:=by clear hv hlt a7;omega
 have hl:=a6 (k+L V) (Nat.le_refl _)
 have hb:=take_succ_val m0 (k+L V)
 have hy:=dig_get a5 (k+L V)
 have hDm:Dig (m.set (k+L V) ((gi m (k+L V)+a)%4294967296).toNat):=dig_set a5 (by omega) _
 have hset:k+L V<m.length:=by rw[a4,hm];exact hlen
 have hlm:(m.set (k+L V) ((gi m (k+L V)+a)%4294967296).toNat).length=l.length:=by rw[List.length_set,a4,hm]
 refine⟨by clear hv hlt a7;omega,lowL_eq h.len hlm hDm ?_ ?_⟩
 ·have hlt2:=val_lt (dig_take hDm (k+L V+1))
  rw[List.length_take,Nat.min_eq_left (by rw[hlm];exact hlen)] at hlt2
  rw[set_val _ _ hset] at hlt2 ⊢
  have hVl:4294967296^k*V<4294967296^(k+L V):=by rw[Nat.pow_add];exact (Nat.mul_lt_mul_left (pow_B k)).2 (L_lt V)
  rw[hb,hl.symm,h2] at hv
  have h3:=Nat.div_add_mod (Xd l k (L V)) (4294967296^k*V)
  have h4:=Nat.mod_lt (Xd l k (L V)) hpos
  rw[gi_eq] at hlt2 ⊢
  rw[Nat.pow_succ] at hv hlt2
  exact kn_fin hv a7 (kn_dig hy a2 a3) h3 h4 hVl hlt2
 ·intro j hj
  rw[set_getD_ne _ _ (by omega),a6 j (by omega)]
  exact ho j hj
theorem U_split {l:List Nat}{x:Nat}(h:Dig l)(hv:val l=x):∃ rest,U l=lim x ++ rest:=by
 subst hv
 refine⟨U (l.drop (limbs (val l)).length),?_⟩
 have h1:=take_limbs h
 unfold lim
 rw[U_append]
 congr 1
 conv=>lhs;rw[← List.take_append_drop (limbs (val l)).length l]
 rw[h1]
theorem wOr_q {r x:Int}(hr:0≤r∧r<4294967296)(hx:0≤x∧x<4294967296):wOr .u64 (r*2^32) x=r*4294967296+x:=by
 obtain⟨n,rfl⟩:=Int.eq_ofNat_of_zero_le hx.1
 exact wOr_lo hr (by omega)
theorem gi_b {l:List Nat}(h:Dig l)(i:Nat):0≤gi l i∧gi l i<4294967296:=⟨gi_nonneg l i,gi_lt h i⟩
theorem tdiv_pos' {a b:Int}(h:0≤a):Int.tdiv a b=a / b:=Int.tdiv_eq_ediv_of_nonneg h
theorem wRem_pos {a b:Int}(h:0≤a):wRem a b=a%b:=Int.tmod_eq_emod_of_nonneg h
theorem bitLen_le {x:Nat}(h:x<4294967296):Lib.bitLen x≤32:=by
 rw[bitLen_eq h]
 rcases Nat.eq_zero_or_pos x with h0 | h0
 ·rw[h0];decide
 ·refine Decidable.byContradiction fun hn=>?_
  have h1:=nbits_le (show x≠0 by omega)
  have:2^32≤2^(nbits x-1):=Nat.pow_le_pow_right (by omega) (by omega)
  omega
theorem kn_norm {b s:Nat}(hb:b≠0)(hs:nbits b+s=32*L b):L (b*2^s)=L b∧2147483648≤(limbs (b*2^s)).getD (L b-1) 0:=by
 have h1:=nbits_le hb
 have h2:=nbits_lt b
 have h3:=nbits_pos hb
 have h4:=L_pos hb
 have hB:∀ k,4294967296^k=2^(32*k):=fun k=>by rw[Nat.pow_mul]
 have u:b*2^s<4294967296^L b:=by
  rw[hB,← hs,Nat.pow_add];exact (Nat.mul_lt_mul_right (Nat.pow_pos (by omega))).2 h2
 have d:2^(32*L b-1)≤b*2^s:=by
  rw[show 32*L b-1=(nbits b-1)+s by omega,Nat.pow_add]
  exact Nat.mul_le_mul_right _ h1
 have hl:=L_le u
 have hg:L b≤L (b*2^s):=L_mono (by have:=Nat.mul_le_mul_left b (Nat.pow_pos (n:=s) (show 0<2 by omega));omega)
 have he:L (b*2^s)=L b:=by omega
 refine⟨he,?_⟩
 refine Decidable.byContradiction fun hn=>?_
 have e1:=take_succ_val (limbs (b*2^s)) (L b-1)
 rw[show L b-1+1=L b by omega,val_lim _ hl] at e1
 have e2:=val_lt (dig_take (dig_limbs (b*2^s)) (L b-1))
 rw[List.length_take,Nat.min_eq_left (show L b-1≤(limbs (b*2^s)).length by show L b-1≤L (b*2^s);omega)] at e2
 have e3:2^(32*L b-1)=4294967296^(L b-1)*2147483648:=by
  rw[hB,show (2147483648:Nat)=2^31 by decide,← Nat.pow_add];congr 1;omega
 rw[e3] at d
 have e4:4294967296^(L b-1)*((limbs (b*2^s)).getD (L b-1) 0+1)≤4294967296^(L b-1)*2147483648:=Nat.mul_le_mul_left _ (by omega)
 rw[Nat.mul_add,Nat.mul_one] at e4
 omega
def DvIn (A V m:Nat)(k:Int)(lu lq:List Nat):Prop :=
 -1≤k∧k<m∧lu.length=m+L V∧Dig lu∧lq.length=m∧Dig lq∧val (lu.take ((k+1).toNat+L V))=A%(4294967296^(k+1).toNat*V)∧val (lq.drop (k+1).toNat)=A / (4294967296^(k+1).toNat*V)
theorem dv_kn {A V m:Nat}{k:Int}{lu lq:List Nat}(h:DvIn A V m k lu lq)(hk:0≤k)(hV:2≤L V)(ht:2147483648≤(limbs V).getD (L V-1) 0):Kn lu k.toNat V:=by
 obtain⟨h0,h1,h2,h3,h4,h5,h6,h7⟩:=h
 refine⟨h3,hV,by omega,ht,?_⟩
 unfold Xd
 have e:(k+1).toNat+L V=k.toNat+L V+1:=by omega
 rw[e] at h6
 rw[h6,show (k+1).toNat=k.toNat+1 by omega,Nat.pow_succ,Nat.mul_right_comm]
 refine Nat.mod_lt _ (Nat.mul_pos (Nat.mul_pos (pow_B _) ?_) (by omega))
 rcases Nat.eq_zero_or_pos V with q | q
 ·rw[q,L_zero] at hV;omega
 ·exact q
theorem take_low {l:List Nat}{n:Nat}(h:val (l.take (n+1))<4294967296^n):val (l.take n)=val (l.take (n+1)):=by
 rw[take_succ_val] at h ⊢
 have:l.getD n 0=0:=by
  refine Decidable.byContradiction fun q=>?_
  have:4294967296^n*1≤4294967296^n*l.getD n 0:=Nat.mul_le_mul_left _ (by omega)
  omega
 rw[this];omega
theorem dv_next {A V m:Nat}{k:Int}{lu lq:List Nat}(h:DvIn A V m k lu lq)(hk:0≤k)(hV:2≤L V)(ht:2147483648≤(limbs V).getD (L V-1) 0) :
  DvIn A V m (k-1) (lowL lu (k.toNat+L V+1) (Xd lu k.toNat (L V)%(4294967296^k.toNat*V))) (lq.set k.toNat (kq lu k.toNat V)):=by
 have hkn:=dv_kn h hk hV ht
 have hq:=hkn.qlt
 obtain⟨h0,h1,h2,h3,h4,h5,h6,h7⟩:=h
 have e:(k+1).toNat+L V=k.toNat+L V+1:=by omega
 have e1:(k+1).toNat=k.toNat+1:=by omega
 have hX:Xd lu k.toNat (L V)=A%(4294967296^k.toNat*4294967296*V):=by unfold Xd;rw[← e,h6,e1,Nat.pow_succ]
 have hV0:0<V:=by
  rcases Nat.eq_zero_or_pos V with q | q
  ·rw[q,L_zero] at hV;omega
  ·exact q
 have hD:0<4294967296^k.toNat*V:=Nat.mul_pos (pow_B _) hV0
 have hdv:4294967296^k.toNat*4294967296*V=4294967296^k.toNat*V*4294967296:=Nat.mul_right_comm _ _ _
 have hmod:Xd lu k.toNat (L V)%(4294967296^k.toNat*V)=A%(4294967296^k.toNat*V):=by
  rw[hX,hdv];exact Nat.mod_mod_of_dvd _ (Nat.dvd_mul_right _ _)
 have hlt:=Nat.mod_lt A hD
 have hlt2:4294967296^k.toNat*V<4294967296^(k.toNat+L V):=by rw[Nat.pow_add];exact (Nat.mul_lt_mul_left (pow_B _)).2 (L_lt V)
 have hlt3:A%(4294967296^k.toNat*V)<4294967296^(k.toNat+L V):=Nat.lt_trans hlt hlt2
 have hlt4:A%(4294967296^k.toNat*V)<4294967296^(k.toNat+L V+1):=Nat.lt_of_lt_of_le hlt3 (Nat.pow_le_pow_right (by omega) (by omega))
 rw[hmod]
 refine⟨by omega,by omega,by rw[lowL_len hkn.len hlt4];exact h2,lowL_dig h3,by simpa using h4,dig_set h5 hq _,?_,?_⟩
 ·rw[show (k-1+1).toNat=k.toNat by omega]
  have:=lowL_take (l:=lu) hlt4
  rw[take_low (by rw[this];exact hlt3),this]
 ·rw[show (k-1+1).toNat=k.toNat by omega]
  have hkl:k.toNat<lq.length:=by omega
  have e2:(lq.set k.toNat (kq lu k.toNat V)).drop k.toNat=kq lu k.toNat V::lq.drop (k.toNat+1):=by
   rw[List.drop_eq_getElem_cons (by simpa using hkl),List.drop_set_of_lt (by omega)]
   simp
  rw[e2,val]
  rw[e1] at h7
  rw[h7]
  unfold kq
  rw[hX,Nat.pow_succ,hdv]
  have e3:=Nat.div_add_mod A (4294967296^k.toNat*V*4294967296)
  generalize 4294967296^k.toNat*V=D at *
  conv=>rhs;rw[← e3,Nat.mul_assoc,Nat.mul_add_div hD]
  omega
theorem dv_init {A V m:Nat}(hA:A<4294967296^m*V)(hl:L A+1=m+L V):DvIn A V m ((m:Int)-1) (limbs A ++ [0]) (List.replicate m 0):=by
 refine⟨by omega,by omega,by rw[List.length_append];exact hl,dig_append (dig_limbs A) (fun d hd=>by simp at hd;omega),by simp,dig_rep _,?_,?_⟩
 ·rw[show ((m:Int)-1+1).toNat=m by omega,Nat.mod_eq_of_lt hA,val_all _ (by rw[List.length_append];show L A+1≤_;omega),val_append,val_limbs]
  simp [val]
 ·rw[show ((m:Int)-1+1).toNat=m by omega,Nat.div_eq_of_lt hA,List.drop_of_length_le (by simp)]
  rfl
theorem dv_end {A V m:Nat}{lu lq:List Nat}(h:DvIn A V m (-1) lu lq):lu.length=m+L V∧Dig lu∧lq.length=m∧Dig lq∧val (lu.take (L V))=A%V∧val lq=A / V:=by
 obtain⟨h0,h1,h2,h3,h4,h5,h6,h7⟩:=h
 simp only [show ((-1:Int)+1).toNat=0 by decide,Nat.zero_add,Nat.pow_zero,Nat.one_mul,List.drop_zero] at h6 h7
 exact⟨h2,h3,h4,h5,h6,h7⟩
theorem kn_low {l:List Nat}{k V:Nat}(h:Kn l k V):Xd l k (L V)%(4294967296^k*V)<4294967296^(k+L V+1):=by
 have hpos:0<4294967296^k*V:=by
  refine Nat.mul_pos (pow_B k) ?_
  rcases Nat.eq_zero_or_pos V with q | q
  ·have:=h.two;rw[q,L_zero] at this;omega
  ·exact q
 have h1:=Nat.mod_lt (Xd l k (L V)) hpos
 have h2:4294967296^k*V<4294967296^(k+L V):=by rw[Nat.pow_add];exact (Nat.mul_lt_mul_left (pow_B _)).2 (L_lt V)
 exact Nat.lt_of_lt_of_le (Nat.lt_trans h1 h2) (Nat.pow_le_pow_right (by omega) (by omega))
theorem tkU2 {l:List Nat}{n m:Nat}(h:n=m):List.take n (List.drop 0 (U l))=U (l.take m):=by rw[h,List.drop_zero,U_take]
theorem dv_fit {A V:Nat}(h:V≤A)(hV:V≠0):A<4294967296^(L A+1-L V)*V∧L A+1=(L A+1-L V)+L V:=by
 have h1:=L_mono h
 have h2:=L_low hV
 have h3:=L_pos hV
 have h4:=L_lt A
 refine⟨?_,by omega⟩
 have h5:4294967296^L A=4294967296^(L A+1-L V)*4294967296^(L V-1):=by rw[← Nat.pow_add];congr 1;omega
 have h6:4294967296^(L A+1-L V)*4294967296^(L V-1)≤4294967296^(L A+1-L V)*V:=Nat.mul_le_mul_left _ h2
 rw[← h5] at h6
 exact Nat.lt_of_lt_of_le h4 h6
theorem gi_one {b:Nat}(h:L b=1):gi (limbs b) 0=(b:Int):=by
 have h1:=take_succ_val (limbs b) 0
 rw[val_lim b (by omega)] at h1
 rw[gi_eq]
 simp [val] at h1
 rw[List.getD_eq_getElem?_getD]
 omega
theorem cmpN_or (a b:Nat):(cmpN a b=-1∧a<b)∨(0≤cmpN a b∧b≤a):=by
 unfold cmpN
 by_cases h:a<b
 ·exact .inl ⟨if_pos h,h⟩
 ·rw[if_neg h];exact .inr ⟨by split<;>omega,by omega⟩
theorem shl_div (a b s:Nat):a*2^s / (b*2^s)=a / b:=Nat.mul_div_mul_right _ _ (Nat.pow_pos (by omega))
theorem shl_mod (a b s:Nat):a*2^s%(b*2^s) / 2^s=a%b:=by rw[Nat.mul_mod_mul_right,Nat.mul_div_cancel _ (Nat.pow_pos (by omega))]
theorem or_mk2 {l n:Int}(h:l=0∨l<n):(iEq l 0 || iLt l n)=true:=by
 rcases h with h | h
 ·rw[iEq_mk h];rfl
 ·rw[iLt_mk h];simp
end Go.Proofs.YtkkbddkpggjgpaaGreatDoor
