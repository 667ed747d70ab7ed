/-
  Lower layers: what functions of the program compute, and plain facts. Conditions: as the theorems say.
-/
import Derived.Test.YtkkbddkpggjgpaaGreatDoorProg
import Derived.Test.YtkkbddkpggjgpaaGreatDoorPkD
set_option linter.unusedVariables false
set_option linter.unusedSimpArgs false
namespace Go.Proofs.YtkkbddkpggjgpaaGreatDoor
theorem take_last {l:List Nat}{n:Nat}(h0:0<n)(h1:n≤l.length):l.take n=l.take (n-1) ++ [l.getD (n-1) 0]:=by
 have:n-1<l.length:=by omega
 rw[show n=(n-1)+1 by omega,List.take_succ_eq_append_getElem (by omega)]
 simp [List.getD_eq_getElem?_getD,this]
theorem dig_take {l:List Nat}(h:Dig l)(n:Nat):Dig (l.take n):=fun d hd=>h d (List.mem_of_mem_take hd)
theorem dig_drop {l:List Nat}(h:Dig l)(n:Nat):Dig (l.drop n):=fun d hd=>h d (List.mem_of_mem_drop hd)
theorem dig_append {l m:List Nat}(h:Dig l)(k:Dig m):Dig (l ++ m):=fun d hd=>(List.mem_append.1 hd).elim (h d) (k d)
theorem dig_rep (n:Nat):Dig (List.replicate n 0):=fun d hd=>by rw[(List.mem_replicate.1 hd).2];omega
theorem dig_set {l:List Nat}(h:Dig l){d:Nat}(hd:d<4294967296)(i:Nat):Dig (l.set i d):=fun x hx=>by
 rcases List.mem_or_eq_of_mem_set hx with q | q
 ·exact h x q
 ·omega
theorem dig_get {l:List Nat}(h:Dig l)(i:Nat):l.getD i 0<4294967296:=by
 rw[List.getD_eq_getElem?_getD]
 by_cases hi:i<l.length
 ·rw[List.getElem?_eq_getElem hi];exact h _ (List.getElem_mem hi)
 ·rw[List.getElem?_eq_none (Nat.le_of_not_lt hi)];simp
theorem gi_nonneg (l:List Nat)(i:Nat):0≤gi l i:=by rw[gi_eq];omega
theorem gi_lt {l:List Nat}(h:Dig l)(i:Nat):gi l i<4294967296:=by rw[gi_eq];have:=dig_get h i;omega
theorem size_step {l:List Nat}{n:Int}(h0:0<n)(h1:n≤l.length)(hv:val l=val (l.take n.toNat))(hz:gi l (n-1).toNat=0):val l=val (l.take (n-1).toNat):=by
 rw[hv,take_last (by omega) (by omega),val_append]
 rw[gi_eq] at hz
 rw[show n.toNat-1=(n-1).toNat by omega]
 have:l.getD (n-1).toNat 0=0:=by omega
 rw[this]
 simp [val]
theorem size_end {l:List Nat}(hD:Dig l){n:Int}(h0:0≤n)(h1:n≤l.length)(hv:val l=val (l.take n.toNat))(hz:n≤0∨gi l (n-1).toNat≠0):n=((limbs (val l)).length:Int):=by
 rw[hv,limbs_val (dig_take hD _)]
 ·rw[List.length_take];omega
 ·by_cases h:n≤0
  ·left;rw[show n.toNat=0 by omega];rfl
  ·right
   rw[take_last (by omega) (by omega)]
   simp only [List.getLast?_append,List.getLast?_singleton,Option.some_or]
   rcases hz with q | q
   ·omega
   ·rw[gi_eq,show (n-1).toNat=n.toNat-1 by omega] at q
    intro e
    simp only [Option.some.injEq] at e
    omega
theorem limbs_len_le {l : List Nat} (hD : Dig l) : (limbs (val l)).length ≤ l.length := by
  -- the value of a list of n limbs has at most n limbs
  have key : ∀ (n x : Nat), x < 4294967296 ^ n → (limbs x).length ≤ n := by
    intro n
    induction n with
    | zero => intro x hx; have : x = 0 := by simpa using hx
              subst this; rw [limbs_zero]; simp
    | succ n ih =>
      intro x hx
      by_cases h : x = 0
      · subst h; rw [limbs_zero]; simp
      · rw [limbs_pos h]
        have := ih (x / 4294967296) (by rw [Nat.pow_succ] at hx; omega)
        simp; omega
  exact key _ _ (val_lt hD)
theorem limbs_len_of {n x:Nat}(h:x<4294967296^n):(limbs x).length≤n:=by
 have:=limbs_len_le (l:=(List.range n).map fun i=>x / 4294967296^i%4294967296) (fun d hd=>by
  obtain⟨i,_,rfl⟩:=List.mem_map.1 hd
  omega)
 rw[List.length_map,List.length_range] at this
 have hv:∀ m,val ((List.range m).map fun i=>x / 4294967296^i%4294967296)=x%4294967296^m:=by
  intro m
  induction m with
  | zero=>simp [val,Nat.mod_one]
  | succ m ih =>
   rw[List.range_succ,List.map_append,val_append,ih]
   simp only [List.length_map,List.length_range,List.map_cons,List.map_nil,val,Nat.mul_zero,Nat.add_zero]
   rw[Nat.pow_succ,Nat.mod_mul]
 rw[hv,Nat.mod_eq_of_lt h] at this
 exact this
theorem take_limbs {l:List Nat}(hD:Dig l):l.take (limbs (val l)).length=limbs (val l):=by
 -- both have the same length and the same value
 have huniq:∀ (a b:List Nat),Dig a→Dig b→a.length=b.length→val a=val b→a=b:=by
  intro a
  induction a with
  | nil=>intro b _ _ hl _;cases b with
   | nil=>rfl
   | cons=>simp at hl
  | cons d a ih =>
   intro b ha hb hl hv
   cases b with
   | nil=>simp at hl
   | cons e b =>
    have h1:=ha d (by simp)
    have h2:=hb e (by simp)
    rw[val,val] at hv
    rw[show d=e by omega,ih b (fun x hx=>ha x (by simp [hx])) (fun x hx=>hb x (by simp [hx])) (by simpa using hl) (by omega)]
 have hle:=limbs_len_le hD
 refine huniq _ _ (dig_take hD _) (dig_limbs _) (by simp;omega) ?_
 rw[val_limbs]
 have h:=val_append (l.take (limbs (val l)).length) (l.drop (limbs (val l)).length)
 rw[List.take_append_drop] at h
 have h1:=val_lt (dig_take hD (limbs (val l)).length)
 have h2:=val_lt (dig_limbs (val l))
 rw[val_limbs] at h2
 rw[List.length_take,Nat.min_eq_left hle] at h h1
 -- the rest is zero,since the whole is below the power
 have hz:val (l.drop (limbs (val l)).length)=0:=by
  rcases Nat.eq_zero_or_pos (val (l.drop (limbs (val l)).length)) with q | q
  ·exact q
  ·exfalso
   have:4294967296^(limbs (val l)).length≤4294967296^(limbs (val l)).length*val (l.drop (limbs (val l)).length):=Nat.le_mul_of_pos_right _ q
   omega
 rw[hz,Nat.mul_zero,Nat.add_zero] at h
 exact h.symm
def L (n:Nat):Nat:=(limbs n).length
theorem L_len (n:Nat):(lim n).length=L n:=lim_len n
theorem ld_L {n i:Nat}(h:i<L n):(Nat.blt i (lim n).length && isIntK .u32 (nth (lim n) i .unk))=true:=ld_U h
theorem L_lt (n:Nat):n<4294967296^L n:=by have:=val_lt (dig_limbs n);rwa [val_limbs] at this
theorem L_le {n k:Nat}(h:n<4294967296^k):L n≤k:=limbs_len_of h
theorem L_mono {a b:Nat}(h:a≤b):L a≤L b:=L_le (Nat.lt_of_le_of_lt h (L_lt b))
theorem L_zero:L 0=0:=by unfold L;rw[limbs_zero];rfl
theorem L_pos {n:Nat}(h:n≠0):0<L n:=by unfold L;rw[limbs_pos h];simp
theorem L_low {n:Nat}(h:n≠0):4294967296^(L n-1)≤n:=by
 rcases Nat.lt_or_ge n (4294967296^(L n-1)) with q | q
 ·have:=L_le q;have:=L_pos h;omega
 ·exact q
theorem L_lt_of {a b:Nat}(h:L a<L b):a<b:=by
 rcases Nat.lt_or_ge a b with q | q
 ·exact q
 ·have:=L_mono q;omega
theorem L_add (a b:Nat):L (a+b)≤max (L a) (L b)+1:=by
 apply L_le
 have h1:=L_lt a
 have h2:=L_lt b
 have h3:4294967296^L a≤4294967296^max (L a) (L b):=Nat.pow_le_pow_right (by omega) (Nat.le_max_left _ _)
 have h4:4294967296^L b≤4294967296^max (L a) (L b):=Nat.pow_le_pow_right (by omega) (Nat.le_max_right _ _)
 rw[Nat.pow_succ];omega
theorem L_mul (a b:Nat):L (a*b)≤L a+L b:=by
 apply L_le
 rw[Nat.pow_add]
 exact Nat.mul_lt_mul'' (L_lt a) (L_lt b)
theorem L_sub (a b:Nat):L (a-b)≤L a:=L_mono (Nat.sub_le _ _)
theorem L_div (a b:Nat):L (a / b)≤L a:=L_mono (Nat.div_le_self _ _)
theorem L_mod (a b:Nat):L (a%b)≤L a:=L_mono (Nat.mod_le _ _)
theorem L_two_pow (k:Nat):L (2^k)≤k / 32+1:=by
 apply L_le
 rw[show (4294967296:Nat)=2^32 from rfl,← Nat.pow_mul]
 exact Nat.pow_lt_pow_right (by omega) (by omega)
theorem L_shl (a k:Nat):L (a*2^k)≤L a+k / 32+1:=by
 have:=L_mul a (2^k);have:=L_two_pow k;omega
def cmpN (a b:Nat):Int:=if a<b then -1 else if b<a then 1 else 0
theorem cmpN_lt {a b:Nat}(h:a<b):cmpN a b=-1:=if_pos h
theorem cmpN_gt {a b:Nat}(h:b<a):cmpN a b=1:=by unfold cmpN;rw[if_neg (by omega),if_pos h]
theorem cmpN_eq {a b:Nat}(h:a=b):cmpN a b=0:=by unfold cmpN;rw[if_neg (by omega),if_neg (by omega)]
theorem cut_lim {l:List Nat}(h:Dig l):List.take ((((limbs (val l)).length:Int))-0).toNat (List.drop 0 (U l))=lim (val l):=by
 rw[Int.sub_zero,Int.toNat_natCast]
 show List.take _ (List.drop 0 (U l))=_
 rw[List.drop_zero,U_take,take_limbs h];rfl
theorem at_split (l:List Nat)(i:Nat)(h:i<l.length):val l=val (l.take i)+4294967296^i*(l.getD i 0+4294967296*val (l.drop (i+1))):=by
 have e:l=l.take i ++ (l.getD i 0::l.drop (i+1)):=by
  rw[show l.getD i 0=l[i] by simp [List.getD_eq_getElem?_getD,h]]
  simp
 have h2:=congrArg val e
 rw[val_append,val,List.length_take,Nat.min_eq_left (by omega)] at h2
 exact h2
theorem cmp_lt {a b:Nat}{i:Nat}(h1:i<L a)(h2:i<L b)(h3:(limbs a).drop (i+1)=(limbs b).drop (i+1))(h4:gi (limbs a) i<gi (limbs b) i):a<b:=by
 have ea:=at_split (limbs a) i h1
 have eb:=at_split (limbs b) i h2
 rw[val_limbs] at ea eb
 rw[gi_eq,gi_eq] at h4
 have h5:=val_lt (dig_take (dig_limbs a) i)
 rw[List.length_take,Nat.min_eq_left (show i≤(limbs a).length by unfold L at h1;omega)] at h5
 rw[h3] at ea
 generalize val ((limbs b).drop (i+1))=r at ea eb
 generalize (limbs a).getD i 0=x at ea h4
 generalize (limbs b).getD i 0=y at eb h4
 have:4294967296^i*(x+4294967296*r)+4294967296^i≤4294967296^i*(y+4294967296*r):=by
  rw[← Nat.mul_succ]
  exact Nat.mul_le_mul_left _ (by omega)
 omega
theorem cmp_step {a b:Nat}{i:Nat}(h1:i<L a)(h2:i<L b)(h3:(limbs a).drop (i+1)=(limbs b).drop (i+1))(h4:gi (limbs a) i=gi (limbs b) i):(limbs a).drop i=(limbs b).drop i:=by
 unfold L at h1 h2
 rw[List.drop_eq_getElem_cons h1,List.drop_eq_getElem_cons h2,h3]
 rw[gi_eq,gi_eq,List.getD_eq_getElem?_getD,List.getD_eq_getElem?_getD,List.getElem?_eq_getElem h1,List.getElem?_eq_getElem h2] at h4
 simp at h4
 rw[show (limbs a)[i]=(limbs b)[i] by omega]
theorem limbs_ext {a b:Nat}(h:(limbs a).drop 0=(limbs b).drop 0):a=b:=by
 have:=congrArg val h
 simpa [val_limbs] using this
end Go.Proofs.YtkkbddkpggjgpaaGreatDoor
namespace Go.Proofs.YtkkbddkpggjgpaaGreatDoor
theorem U_setI (l:List Nat)(i:Nat)(d:Int)(h:0≤d):List.set (U l) i (.int .u32 d)=U (l.set i d.toNat):=by
 rw[← U_set,Int.toNat_of_nonneg h]
theorem gi_out {l:List Nat}{i:Nat}(h:l.length≤i):gi l i=0:=by
 rw[gi_eq,List.getD_eq_getElem?_getD,List.getElem?_eq_none h];rfl
theorem take_succ_val (l:List Nat)(i:Nat):val (l.take (i+1))=val (l.take i)+4294967296^i*l.getD i 0:=by
 by_cases h:i<l.length
 ·rw[List.take_succ_eq_append_getElem h,val_append,List.length_take,Nat.min_eq_left (by omega),List.getD_eq_getElem?_getD,List.getElem?_eq_getElem h]
  simp [val]
 ·rw[List.take_of_length_le (by omega),List.take_of_length_le (by omega),List.getD_eq_getElem?_getD,List.getElem?_eq_none (by omega)]
  simp
theorem set_take_ge (l:List Nat){i j:Nat}(d:Nat)(h:i≤j):(l.set j d).take i=l.take i:=by
 rw[List.take_set_of_le h]
theorem set_getD (l:List Nat){i:Nat}(d:Nat)(h:i<l.length):(l.set i d).getD i 0=d:=by
 simp [List.getD_eq_getElem?_getD,h]
theorem set_getD_ne (l:List Nat){i j:Nat}(d:Nat)(h:i≠j):(l.set i d).getD j 0=l.getD j 0:=by
 simp [List.getD_eq_getElem?_getD,List.getElem?_set_ne h]
theorem set_val (l:List Nat){i:Nat}(d:Nat)(h:i<l.length):val ((l.set i d).take (i+1))=val (l.take i)+4294967296^i*d:=by
 rw[take_succ_val,set_take_ge _ _ (Nat.le_refl _),set_getD _ _ h]
theorem val_all (l:List Nat){n:Nat}(h:l.length≤n):val (l.take n)=val l:=by rw[List.take_of_length_le h]
theorem val_lim (n:Nat){k:Nat}(h:L n≤k):val ((limbs n).take k)=n:=by rw[val_all _ h,val_limbs]
theorem fin_lim {c:List V}{l:List Nat}{n:Nat}(hc:c=U l)(hD:Dig l)(hn:val l=n) :
  List.take ((((limbs (val l)).length:Int))-0).toNat (List.drop 0 c)=lim n:=by
 subst hc;subst hn;exact cut_lim hD
theorem setU (l:List Nat){k k':Nat}{w:Int}{d:Nat}(hk:k=k')(hw:w=(d:Int)):List.set (U l) k (.int .u32 w)=U (l.set k' d):=by
 subst hk;subst hw;exact U_set l k d
theorem tkU {c:List V}{l:List Nat}{n:Nat}(h:c=U l)(hn:l.length≤n):List.take n (List.drop 0 c)=U l:=by
 subst h;rw[List.drop_zero,List.take_of_length_le (by rw[U_len];exact hn)]
theorem U_prim (l:List Nat):(U l).all isPrim=true:=by
 rw[List.all_eq_true]
 intro x hx
 obtain⟨d,_,rfl⟩:=List.mem_map.1 hx
 rfl
theorem cut_self (n:Nat):List.take (((L n:Int))-0).toNat (List.drop 0 (lim n))=lim n:=by
 have h:=cut_lim (dig_limbs n)
 rw[val_limbs] at h
 exact h
theorem fdiv_B (s:Int):Int.fdiv s (2^32)=s / 4294967296:=by
 rw[Int.fdiv_eq_ediv_of_nonneg _ (by decide)];rfl
def AddInv (a b:Nat)(i c:Int)(out:List Nat):Prop :=
 0≤i∧i≤L a∧0≤c∧c≤1∧out.length=L a+1∧Dig out ∧
 val (out.take i.toNat)+4294967296^i.toNat*c.toNat=val ((limbs a).take i.toNat)+val ((limbs b).take i.toNat)
theorem add_init (a b:Nat):AddInv a b 0 0 (List.replicate (L a+1) 0):=⟨by omega,by omega,by omega,by omega,by simp,dig_rep _,by simp [val]⟩
theorem add_next {a b:Nat}{i c s:Int}{out:List Nat}(h:AddInv a b i c out)(hi:i<L a)(hs:s=c+gi (limbs a) i.toNat+gi (limbs b) i.toNat) :
  AddInv a b (i+1) (Int.fdiv s (2^32)) (out.set i.toNat (IntKind.wrap .u32 s).toNat):=by
 obtain⟨h0,h1,h2,h3,h4,h5,h6⟩:=h
 have ga:=gi_lt (dig_limbs a) i.toNat
 have gb:=gi_lt (dig_limbs b) i.toNat
 have na:=gi_nonneg (limbs a) i.toNat
 have nb:=gi_nonneg (limbs b) i.toNat
 rw[fdiv_B,wrap_u32]
 refine⟨by omega,by omega,by omega,by omega,by simpa using h4,dig_set h5 (by omega) _,?_⟩
 rw[show (i+1).toNat=i.toNat+1 by omega,set_val _ _ (by omega),take_succ_val,take_succ_val,Nat.pow_succ]
 rw[gi_eq] at ga gb na nb hs
 rw[gi_eq] at hs
 generalize (limbs a).getD i.toNat 0=x at *
 generalize (limbs b).getD i.toNat 0=y at *
 generalize 4294967296^i.toNat=p at *
 have e:(s%4294967296).toNat+4294967296*(s / 4294967296).toNat=c.toNat+x+y:=by omega
 have:p*(s%4294967296).toNat+p*4294967296*(s / 4294967296).toNat=p*c.toNat+p*x+p*y:=by
  rw[Nat.mul_assoc,← Nat.mul_add,e,Nat.mul_add,Nat.mul_add]
 omega
theorem add_end {a b:Nat}{c:Int}{out:List Nat}(hb:L b≤L a)(h:AddInv a b (L a:Int) c out) :
  Dig (out.set (L a) c.toNat)∧(out.set (L a) c.toNat).length=L a+1∧val (out.set (L a) c.toNat)=a+b:=by
 obtain⟨h0,h1,h2,h3,h4,h5,h6⟩:=h
 refine⟨dig_set h5 (by omega) _,by simpa using h4,?_⟩
 rw[Int.toNat_natCast,val_lim a (Nat.le_refl _),val_lim b hb] at h6
 rw[← h6,← val_all (out.set (L a) c.toNat) (n:=L a+1) (by simp;omega),set_val _ _ (by omega)]
def SubInv (a b:Nat)(i c:Int)(out:List Nat):Prop :=
 0≤i∧i≤L a∧0≤c∧c≤1∧out.length=L a∧Dig out ∧
 val (out.take i.toNat)+val ((limbs b).take i.toNat)=val ((limbs a).take i.toNat)+4294967296^i.toNat*c.toNat
theorem sub_init (a b:Nat):SubInv a b 0 0 (List.replicate (L a) 0):=⟨by omega,by omega,by omega,by omega,by simp,dig_rep _,by simp [val]⟩
theorem sub_next {a b:Nat}{i c y:Int}{out:List Nat}(h:SubInv a b i c out)(hi:i<L a)(hy:y=gi (limbs b) i.toNat) :
  SubInv a b (i+1) (if gi (limbs a) i.toNat<y+c then 1 else 0) (out.set i.toNat ((gi (limbs a) i.toNat-y-c)%4294967296).toNat):=by
 obtain⟨h0,h1,h2,h3,h4,h5,h6⟩:=h
 have ga:=gi_lt (dig_limbs a) i.toNat
 have gb:=gi_lt (dig_limbs b) i.toNat
 have na:=gi_nonneg (limbs a) i.toNat
 have nb:=gi_nonneg (limbs b) i.toNat
 subst hy
 refine⟨by omega,by omega,by split<;>omega,by split<;>omega,by simpa using h4,dig_set h5 (by omega) _,?_⟩
 rw[show (i+1).toNat=i.toNat+1 by omega,set_val _ _ (by omega),take_succ_val,take_succ_val,Nat.pow_succ]
 rw[gi_eq] at ga gb na nb
 rw[gi_eq,gi_eq]
 generalize (limbs a).getD i.toNat 0=x at *
 generalize (limbs b).getD i.toNat 0=y at *
 generalize 4294967296^i.toNat=p at *
 generalize hk:(if (x:Int)<y+c then (1:Int) else 0)=k
 have e:(((x:Int)-y-c)%4294967296).toNat+y+c.toNat=x+4294967296*k.toNat:=by subst hk;split<;>omega
 have e2:p*(((x:Int)-y-c)%4294967296).toNat+p*y+p*c.toNat=p*x+p*4294967296*k.toNat:=by
  rw[Nat.mul_assoc,← Nat.mul_add,← Nat.mul_add,e,Nat.mul_add]
 omega
theorem sub_end {a b:Nat}{c:Int}{out:List Nat}(hab:b≤a)(h:SubInv a b (L a:Int) c out) :
  Dig out∧out.length=L a∧val out=a-b:=by
 obtain⟨h0,h1,h2,h3,h4,h5,h6⟩:=h
 refine⟨h5,h4,?_⟩
 rw[Int.toNat_natCast,val_lim a (Nat.le_refl _),val_lim b (L_mono hab),val_all out (by omega)] at h6
 have:=val_lt h5
 rw[h4] at this
 rcases (show c=0∨c=1 by omega) with rfl | rfl
 ·simp at h6;omega
 ·simp at h6;omega
theorem ofInt32 {a:Int}(h:0≤a):(BitVec.ofInt 32 a).toNat=a.toNat%4294967296:=by
 obtain⟨n,rfl⟩:=Int.eq_ofNat_of_zero_le h
 rw[BitVec.ofInt_natCast,BitVec.toNat_ofNat,Int.toNat_natCast]
theorem wAnd_nat {a b:Nat}(ha:a<4294967296)(hb:b<4294967296):wAnd .u32 (a:Int) (b:Int)=((a &&& b:Nat):Int):=by
 have hx:a &&& b<2^32:=Nat.and_lt_two_pow _ (by omega)
 show IntKind.wrap .u32 ((BitVec.ofInt 32 (a:Int) &&& BitVec.ofInt 32 (b:Int)).toNat:Int)=_
 rw[BitVec.toNat_and,ofInt32 (by omega),ofInt32 (by omega),wrap_u32,Int.toNat_natCast,Int.toNat_natCast,Nat.mod_eq_of_lt ha,Nat.mod_eq_of_lt hb]
 omega
theorem wOr_nat {a b:Nat}(ha:a<4294967296)(hb:b<4294967296):wOr .u32 (a:Int) (b:Int)=((a ||| b:Nat):Int):=by
 have hx:a ||| b<2^32:=Nat.or_lt_two_pow (by omega) (by omega)
 show IntKind.wrap .u32 ((BitVec.ofInt 32 (a:Int) ||| BitVec.ofInt 32 (b:Int)).toNat:Int)=_
 rw[BitVec.toNat_or,ofInt32 (by omega),ofInt32 (by omega),wrap_u32,Int.toNat_natCast,Int.toNat_natCast,Nat.mod_eq_of_lt ha,Nat.mod_eq_of_lt hb]
 omega
theorem wXor_nat {a b:Nat}(ha:a<4294967296)(hb:b<4294967296):wXor .u32 (a:Int) (b:Int)=((a ^^^ b:Nat):Int):=by
 have hx:a ^^^ b<2^32:=Nat.xor_lt_two_pow (by omega) (by omega)
 show IntKind.wrap .u32 ((BitVec.ofInt 32 (a:Int) ^^^ BitVec.ofInt 32 (b:Int)).toNat:Int)=_
 rw[BitVec.toNat_xor,ofInt32 (by omega),ofInt32 (by omega),wrap_u32,Int.toNat_natCast,Int.toNat_natCast,Nat.mod_eq_of_lt ha,Nat.mod_eq_of_lt hb]
 omega
theorem sub32_top (x y d:Nat)(hx:x<4294967296)(hy:y<4294967296)(hd:d<4294967296) :
  Int.fdiv (wOr .u32 (wAnd .u32 (wXor .u32 4294967295 x) y) (wAnd .u32 (wXor .u32 4294967295 (wXor .u32 x y)) d)) (2^31) =
   ((((1 ^^^ (x / 2147483648)) &&& (y / 2147483648)) ||| ((1 ^^^ ((x / 2147483648) ^^^ (y / 2147483648))) &&& (d / 2147483648)):Nat):Int):=by
 have l1:4294967295 ^^^ x<4294967296:=Nat.xor_lt_two_pow (n:=32) (by omega) (by omega)
 have l2:x ^^^ y<4294967296:=Nat.xor_lt_two_pow (n:=32) (by omega) (by omega)
 have l3:4294967295 ^^^ (x ^^^ y)<4294967296:=Nat.xor_lt_two_pow (n:=32) (by omega) (by omega)
 have l4:(4294967295 ^^^ x) &&& y<4294967296:=Nat.and_lt_two_pow (n:=32) _ (by omega)
 have l5:(4294967295 ^^^ (x ^^^ y)) &&& d<4294967296:=Nat.and_lt_two_pow (n:=32) _ (by omega)
 have c:(4294967295:Int)=((4294967295:Nat):Int):=rfl
 rw[c,wXor_nat (by omega) hx,wXor_nat hx hy,wXor_nat (by omega) l2,wAnd_nat l1 hy,wAnd_nat l3 hd,wOr_nat l4 l5]
 rw[Int.fdiv_eq_ediv_of_nonneg _ (by decide)]
 have key:∀ n:Nat,((n:Int) / (2:Int)^31)=((n >>> 31:Nat):Int):=fun n=>by rw[Nat.shiftRight_eq_div_pow];omega
 rw[key,Nat.shiftRight_or_distrib,Nat.shiftRight_and_distrib,Nat.shiftRight_and_distrib,Nat.shiftRight_xor_distrib,Nat.shiftRight_xor_distrib,Nat.shiftRight_xor_distrib]
 simp only [Nat.shiftRight_eq_div_pow]
theorem sub32_eq {x y b:Int}(h:0≤x∧x<4294967296∧0≤y∧y<4294967296∧0≤b∧b≤1) :
  Int.fdiv (wOr .u32 (wAnd .u32 (wXor .u32 4294967295 x) y) (wAnd .u32 (wXor .u32 4294967295 (wXor .u32 x y)) (IntKind.wrap .u32 (IntKind.wrap .u32 (x-y)-b)))) (2^31)=if x<y+b then 1 else 0:=by
 obtain⟨h0,h1,h2,h3,h4,h5⟩:=h
 obtain⟨x,rfl⟩:=Int.eq_ofNat_of_zero_le h0
 obtain⟨y,rfl⟩:=Int.eq_ofNat_of_zero_le h2
 rw[wrap_u32,wrap_u32]
 generalize hd:(((x:Int)-y)%4294967296-b)%4294967296=dd
 have hdd:0≤dd∧dd<4294967296:=by omega
 obtain⟨d,rfl⟩:=Int.eq_ofNat_of_zero_le hdd.1
 rw[sub32_top x y d (by omega) (by omega) (by omega)]
 have hx:x / 2147483648=0∨x / 2147483648=1:=by omega
 have hy:y / 2147483648=0∨y / 2147483648=1:=by omega
 have hz:d / 2147483648=0∨d / 2147483648=1:=by omega
 rcases hx with ex | ex<;>rcases hy with ey | ey<;>rcases hz with ez | ez<;>rw[ex,ey,ez]<;>simp<;>omega
end Go.Proofs.YtkkbddkpggjgpaaGreatDoor

namespace Go.Proofs.YtkkbddkpggjgpaaGreatDoor
theorem hP:Tryz.prog.follows .mixedOrders=true:=by kernel_rfl
def tab32:List Int:=[0,1,28,2,29,14,24,3,30,22,20,15,25,17,4,8,31,27,13,23,21,19,16,7,26,12,18,6,11,5,10,9]
def Amb (w:World):Prop:=∀ i v,tab32[i]?=some v→w.cell? ⟨0,i,none⟩=some (.int .u8 v)
theorem hAmb:Stable Amb:=by
 intro w w' h hb i v hi
 have h1:=h i v hi
 have hlt:0<w.heap.size:=by
  rcases Nat.lt_or_ge 0 w.heap.size with q | q
  ·exact q
  ·simp [World.cell?,Array.getElem?_eq_none q] at h1
 rw[cell_of_block (hb.block _ hlt)]
 exact h1
end Go.Proofs.YtkkbddkpggjgpaaGreatDoor
