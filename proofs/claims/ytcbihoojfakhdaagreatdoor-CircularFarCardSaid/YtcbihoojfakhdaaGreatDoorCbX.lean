/-
  Lower layers: what functions of the program compute, and zyt facts. Conditions: as the theorems say.
-/
import Derived.Test.YtcbihoojfakhdaaGreatDoorCbW
set_option linter.unusedVariables false
set_option linter.unusedSimpArgs false
namespace Go.Proofs.YtcbihoojfakhdaaGreatDoor
theorem rM{a b c:Rat}(h:a≤b)(k:0≤c):a*c≤b*c:=Rat.mul_le_mul_of_nonneg_right h k
open Go.RowKit
set_option maxRecDepth 100000
set_option maxHeartbeats 4000000
theorem zwu (m ee n_ f fi qr n1 n2 l1 l2 g1 g2:Int)(ta tb ca cb x1 x2 x3 x4:Int→Int)(c0:∀ k:Int,fi-2≤k→k≤fi+8→Impl Tryz.prog Amb 28 [(sV n1 n2),(.int .i64 (iMax k ((0:Int)-k)))] (sV (ta k) (tb k)))(c1:∀ k:Int,fi-2≤k→k≤fi+8→k<0→Impl Tryz.prog Amb 99 [(sV (ta k) (tb k))] (sV (ca k) (cb k)))(c2:∀ k:Int,fi-2≤k→k≤fi+8→0≤k→Impl Tryz.prog Amb 96 [(zV (tb k)),(zV l1)] (.int .i64 (x1 k)))(c3:∀ k:Int,fi-2≤k→k≤fi+8→0≤k→Impl Tryz.prog Amb 96 [(zV (ta k)),(zV g2)] (.int .i64 (x2 k)))(c4:∀ k:Int,fi-2≤k→k≤fi+8→0≤k→Impl Tryz.prog Amb 96 [(zV (ta k)),(zV l2)] (.int .i64 (x3 k)))(c5:∀ k:Int,fi-2≤k→k≤fi+8→0≤k→Impl Tryz.prog Amb 96 [(zV (tb k)),(zV g1)] (.int .i64 (x4 k)))(c6:∀ k:Int,fi-2≤k→k≤fi+8→k<0→Impl Tryz.prog Amb 96 [(zV (cb k)),(zV l1)] (.int .i64 (x1 k)))(c7:∀ k:Int,fi-2≤k→k≤fi+8→k<0→Impl Tryz.prog Amb 96 [(zV (ca k)),(zV g2)] (.int .i64 (x2 k)))(c8:∀ k:Int,fi-2≤k→k≤fi+8→k<0→Impl Tryz.prog Amb 96 [(zV (ca k)),(zV l2)] (.int .i64 (x3 k)))(c9:∀ k:Int,fi-2≤k→k≤fi+8→k<0→Impl Tryz.prog Amb 96 [(zV (cb k)),(zV g1)] (.int .i64 (x4 k)))(cf:-4294967200≤fi∧fi≤4294967200)(hM:qf (pmB x1 x2) (fi-2) 11≠[])(hD:qf (pdB x1 x2 x3 x4) (fi-2) 11≠[])(x0:(Nat × Int)⊕((Nat × Int × List V × Nat)⊕(Nat × Int × List V × Nat × List V × Nat)))(hI:r17_quC_I m ee n_ f fi qr n1 n2 l1 l2 g1 g2 ta tb ca cb x1 x2 x3 x4 x0):LoopOk Tryz.prog Amb (loopN Tryz.f143 0) (r17_quC_mk m ee n_ f fi qr n1 n2 l1 l2 g1 g2 ta tb ca cb x1 x2 x3 x4 x0) (fun e st_=>∃ y,r17_quC_J m ee n_ f fi qr n1 n2 l1 l2 g1 g2 ta tb ca cb x1 x2 x3 x4 y∧r17_quC_ex m ee n_ f fi qr n1 n2 l1 l2 g1 g2 ta tb ca cb x1 x2 x3 x4 y=(e,st_)) :=
 z6m hP hAmb ⟨[7,8,9,13,15,16,17],6,[]⟩ (r17_quC_mk m ee n_ f fi qr n1 n2 l1 l2 g1 g2 ta tb ca cb x1 x2 x3 x4) (r17_quC_I m ee n_ f fi qr n1 n2 l1 l2 g1 g2 ta tb ca cb x1 x2 x3 x4) (r17_quC_mu m ee n_ f fi qr n1 n2 l1 l2 g1 g2 ta tb ca cb x1 x2 x3 x4) (r17_quC_ex m ee n_ f fi qr n1 n2 l1 l2 g1 g2 ta tb ca cb x1 x2 x3 x4) (r17_quC_J m ee n_ f fi qr n1 n2 l1 l2 g1 g2 ta tb ca cb x1 x2 x3 x4) x0 hI (Sum.elim (fun (n,k)=>.lit<|.yes<|.lit<|.yes<|.lits 2<|.yes<|.lits 2<|.call (sV (ta k) (tb k))<|.lits 2<|.both (.lits 2<|.call (sV (ca k) (cb k))<|.lits 4<|.call (.int .i64 (x1 k))<|.lit<|.both (.lits 8<|.yes<|.fin3 ⟨[7,8,9,13,15,16,17],[0,1,2,3,4,5]⟩) (.lits 7<|.call (.int .i64 (x2 k))<|.lits 3<|.both (.lit<|.yes<|.fin3 ⟨[7,8,9,13,15,16,17],[0,1,2,3,4,5]⟩) (.lits 5<|.call (.int .i64 (x3 k))<|.lit<|.both (.lits 7<|.call (.int .i64 (x4 k))<|.lits 3<|.both (.lits 3<|.yes<|.fin3 ⟨[7,8,9,13,15,16,17],[0,1,2,3,4,5,8,10]⟩) (.lit<|.yes<|.fin3 ⟨[7,8,9,13,15,16,17],[0,1,2,3,4,5,8]⟩)) (.lits 8<|.yes<|.fin3 ⟨[7,8,9,13,15,16,17],[0,1,2,3,4,5,8]⟩)))) (.lits 3<|.call (.int .i64 (x1 k))<|.lit<|.both (.lits 8<|.yes<|.fin3 ⟨[7,8,9,13,15,16,17],[0,1,2,3,4,5]⟩) (.lits 7<|.call (.int .i64 (x2 k))<|.lits 3<|.both (.lit<|.yes<|.fin3 ⟨[7,8,9,13,15,16,17],[0,1,2,3,4,5]⟩) (.lits 5<|.call (.int .i64 (x3 k))<|.lit<|.both (.lits 7<|.call (.int .i64 (x4 k))<|.lits 3<|.both (.lits 3<|.yes<|.fin3 ⟨[7,8,9,13,15,16,17],[0,1,2,3,4,5,8,10]⟩) (.lit<|.yes<|.fin3 ⟨[7,8,9,13,15,16,17],[0,1,2,3,4,5,8]⟩)) (.lits 8<|.yes<|.fin3 ⟨[7,8,9,13,15,16,17],[0,1,2,3,4,5,8]⟩))))) (Sum.elim (fun (n,k,o1,n1_)=>.lit<|.yes<|.lit<|.yes<|.lits 2<|.yes<|.lits 2<|.call (sV (ta k) (tb k))<|.lits 2<|.both (.lits 2<|.call (sV (ca k) (cb k))<|.lits 4<|.call (.int .i64 (x1 k))<|.lit<|.both (.lits 8<|.yes<|.fin3 ⟨[7,8,9,13,15,16,17],[0,1,2,3,4,5,6]⟩) (.lits 7<|.call (.int .i64 (x2 k))<|.lits 3<|.both (.lit<|.yes<|.fin3 ⟨[7,8,9,13,15,16,17],[0,1,2,3,4,5,6]⟩) (.yes<|.lits 3<|.call (.int .i64 (x3 k))<|.lit<|.both (.lits 7<|.call (.int .i64 (x4 k))<|.lits 3<|.both (.lits 3<|.yes<|.fin3 ⟨[7,8,9,13,15,16,17],[0,1,2,3,4,5,9,11]⟩) (.lit<|.yes<|.fin3 ⟨[7,8,9,13,15,16,17],[0,1,2,3,4,5,9]⟩)) (.lits 8<|.yes<|.fin3 ⟨[7,8,9,13,15,16,17],[0,1,2,3,4,5,9]⟩)))) (.lits 3<|.call (.int .i64 (x1 k))<|.lit<|.both (.lits 8<|.yes<|.fin3 ⟨[7,8,9,13,15,16,17],[0,1,2,3,4,5,6]⟩) (.lits 7<|.call (.int .i64 (x2 k))<|.lits 3<|.both (.lit<|.yes<|.fin3 ⟨[7,8,9,13,15,16,17],[0,1,2,3,4,5,6]⟩) (.yes<|.lits 3<|.call (.int .i64 (x3 k))<|.lit<|.both (.lits 7<|.call (.int .i64 (x4 k))<|.lits 3<|.both (.lits 3<|.yes<|.fin3 ⟨[7,8,9,13,15,16,17],[0,1,2,3,4,5,9,11]⟩) (.lit<|.yes<|.fin3 ⟨[7,8,9,13,15,16,17],[0,1,2,3,4,5,9]⟩)) (.lits 8<|.yes<|.fin3 ⟨[7,8,9,13,15,16,17],[0,1,2,3,4,5,9]⟩))))) (fun (n,k,o1,n1_,o2,n2_)=>.lit<|.yes<|.lit<|.both (.lits 2<|.yes<|.lits 2<|.call (sV (ta k) (tb k))<|.lits 2<|.both (.lits 2<|.call (sV (ca k) (cb k))<|.lits 4<|.call (.int .i64 (x1 k))<|.lit<|.both (.lits 8<|.yes<|.fin3 ⟨[7,8,9,13,15,16,17],[0,1,2,3,4,5,6,7]⟩) (.lits 7<|.call (.int .i64 (x2 k))<|.lits 3<|.both (.lit<|.yes<|.fin3 ⟨[7,8,9,13,15,16,17],[0,1,2,3,4,5,6,7]⟩) (.yes<|.lits 3<|.call (.int .i64 (x3 k))<|.lit<|.both (.lits 7<|.call (.int .i64 (x4 k))<|.lits 3<|.both (.yes<|.lit<|.yes<|.fin3 ⟨[7,8,9,13,15,16,17],[0,1,2,3,4,5,10,12]⟩) (.lit<|.yes<|.fin3 ⟨[7,8,9,13,15,16,17],[0,1,2,3,4,5,10,7]⟩)) (.lits 8<|.yes<|.fin3 ⟨[7,8,9,13,15,16,17],[0,1,2,3,4,5,10,7]⟩)))) (.lits 3<|.call (.int .i64 (x1 k))<|.lit<|.both (.lits 8<|.yes<|.fin3 ⟨[7,8,9,13,15,16,17],[0,1,2,3,4,5,6,7]⟩) (.lits 7<|.call (.int .i64 (x2 k))<|.lits 3<|.both (.lit<|.yes<|.fin3 ⟨[7,8,9,13,15,16,17],[0,1,2,3,4,5,6,7]⟩) (.yes<|.lits 3<|.call (.int .i64 (x3 k))<|.lit<|.both (.lits 7<|.call (.int .i64 (x4 k))<|.lits 3<|.both (.yes<|.lit<|.yes<|.fin3 ⟨[7,8,9,13,15,16,17],[0,1,2,3,4,5,10,12]⟩) (.lit<|.yes<|.fin3 ⟨[7,8,9,13,15,16,17],[0,1,2,3,4,5,10,7]⟩)) (.lits 8<|.yes<|.fin3 ⟨[7,8,9,13,15,16,17],[0,1,2,3,4,5,10,7]⟩))))) (.fin3 ⟨[15,16],[0,1,2,3,4,5,6,7]⟩)))) (by
  rintro (⟨n,k⟩ | ⟨n,k,o1,n1_⟩ | ⟨n,k,o1,n1_,o2,n2_⟩) hI
  ·skip
   have hI:(n≤11∧k=fi-2+(n:Int))∧qf (pmB x1 x2) (fi-2) n = []:=hI
   obtain⟨hk,h1⟩:=hI
   have h2:k=fi-2+(n:Int):=hk.2
   have h3:=hk.1
   have nn1:n≠11:=fun z=>hM (z ▸ h1)
   exact z6d (aI True.intro (aI (z7s oO:(fits .i64 (fi+8))=true) (aI (z7g oO:(iLe k (fi+8))=true) (aI (z7s oO:(fits .i64 ((0:Int)-k))=true) (aI (c0 k oO oO ) (aI (fun (h101:(iLt k 0)=true)=>have _gh101:=z73 h101;aI (c1 k oO oO oO ) (aI (c6 k oO oO oO ) (aI (fun (h102:(iLt (x1 k) 0)=true)=>have _gh102:=z73 h102;aI (z7s oO:(fits .i64 (k+1))=true) (aI tT ((z6j (Sum.inl ((n+1),(k+1))) (show ((n+1)≤11∧(k+1)=fi-2+((n+1):Int))∧qf (pmB x1 x2) (fi-2) (n+1) = [] from ⟨⟨by omega,by omega⟩,(zwj h2 oO).trans h1⟩) (show 11-(n+1)<11-n by omega):r17_quC_N m ee n_ f fi qr n1 n2 l1 l2 g1 g2 ta tb ca cb x1 x2 x3 x4 (Sum.inl (n,k)) .normal (r17_quC_mk m ee n_ f fi qr n1 n2 l1 l2 g1 g2 ta tb ca cb x1 x2 x3 x4 (Sum.inl ((n+1),(k+1)))))))) (fun (h103:(iLt (x1 k) 0)=false)=>have _gh103:=z74 h103;aI (c7 k oO oO oO ) (aI (fun (h104:(iGt (x2 k) 0)=true)=>have _gh104:=z77 h104;aI (z7s oO:(fits .i64 (k+1))=true) (aI tT ((z6j (Sum.inl ((n+1),(k+1))) (show ((n+1)≤11∧(k+1)=fi-2+((n+1):Int))∧qf (pmB x1 x2) (fi-2) (n+1) = [] from ⟨⟨by omega,by omega⟩,(zwj h2 oO).trans h1⟩) (show 11-(n+1)<11-n by omega):r17_quC_N m ee n_ f fi qr n1 n2 l1 l2 g1 g2 ta tb ca cb x1 x2 x3 x4 (Sum.inl (n,k)) .normal (r17_quC_mk m ee n_ f fi qr n1 n2 l1 l2 g1 g2 ta tb ca cb x1 x2 x3 x4 (Sum.inl ((n+1),(k+1)))))))) (fun (h105:(iGt (x2 k) 0)=false)=>have _gh105:=z78 h105;aI (c8 k oO oO oO ) (aI (fun (h106:(iGe (x3 k) 0)=true)=>have _gh106:=z79 h106;aI (c9 k oO oO oO ) (aI (fun (h107:(iLe (x4 k) 0)=true)=>have _gh107:=z75 h107;aI (z7s oO:(fits .i64 (k+1))=true) (aI tT ((z6j (Sum.inr (Sum.inr ((n+1),(k+1),[(V.int .i64 k)],1,[(V.int .i64 k)],1))) (show ((n+1)≤11∧(k+1)=fi-2+((n+1):Int))∧[(V.int .i64 k)]=ivs (qf (pmB x1 x2) (fi-2) (n+1))∧1=(qf (pmB x1 x2) (fi-2) (n+1)).length∧[(V.int .i64 k)]=ivs (qf (pdB x1 x2 x3 x4) (fi-2) (n+1))∧1=(qf (pdB x1 x2 x3 x4) (fi-2) (n+1)).length from ⟨⟨by omega,by omega⟩,(by rw[zwk h2 oO,h1];rfl),(by rw[zwk h2 oO,h1];rfl),(by rw[zwm h2 oO,zwp h1];rfl),(by rw[zwm h2 oO,zwp h1];rfl)⟩) (show 11-(n+1)<11-n by omega):r17_quC_N m ee n_ f fi qr n1 n2 l1 l2 g1 g2 ta tb ca cb x1 x2 x3 x4 (Sum.inl (n,k)) .normal (r17_quC_mk m ee n_ f fi qr n1 n2 l1 l2 g1 g2 ta tb ca cb x1 x2 x3 x4 (Sum.inr (Sum.inr ((n+1),(k+1),[(V.int .i64 k)],1,[(V.int .i64 k)],1)))))))) (fun (h108:(iLe (x4 k) 0)=false)=>have _gh108:=z76 h108;aI (z7s oO:(fits .i64 (k+1))=true) (aI tT ((z6j (Sum.inr (Sum.inl ((n+1),(k+1),[(V.int .i64 k)],1))) (show ((n+1)≤11∧(k+1)=fi-2+((n+1):Int))∧[(V.int .i64 k)]=ivs (qf (pmB x1 x2) (fi-2) (n+1))∧1=(qf (pmB x1 x2) (fi-2) (n+1)).length∧qf (pdB x1 x2 x3 x4) (fi-2) (n+1) = [] from ⟨⟨by omega,by omega⟩,(by rw[zwk h2 oO,h1];rfl),(by rw[zwk h2 oO,h1];rfl),(zwl h2 oO).trans (zwp h1)⟩) (show 11-(n+1)<11-n by omega):r17_quC_N m ee n_ f fi qr n1 n2 l1 l2 g1 g2 ta tb ca cb x1 x2 x3 x4 (Sum.inl (n,k)) .normal (r17_quC_mk m ee n_ f fi qr n1 n2 l1 l2 g1 g2 ta tb ca cb x1 x2 x3 x4 (Sum.inr (Sum.inl ((n+1),(k+1),[(V.int .i64 k)],1)))))))))) (fun (h109:(iGe (x3 k) 0)=false)=>have _gh109:=z7a h109;aI (z7s oO:(fits .i64 (k+1))=true) (aI tT ((z6j (Sum.inr (Sum.inl ((n+1),(k+1),[(V.int .i64 k)],1))) (show ((n+1)≤11∧(k+1)=fi-2+((n+1):Int))∧[(V.int .i64 k)]=ivs (qf (pmB x1 x2) (fi-2) (n+1))∧1=(qf (pmB x1 x2) (fi-2) (n+1)).length∧qf (pdB x1 x2 x3 x4) (fi-2) (n+1) = [] from ⟨⟨by omega,by omega⟩,(by rw[zwk h2 oO,h1];rfl),(by rw[zwk h2 oO,h1];rfl),(zwl h2 oO).trans (zwp h1)⟩) (show 11-(n+1)<11-n by omega):r17_quC_N m ee n_ f fi qr n1 n2 l1 l2 g1 g2 ta tb ca cb x1 x2 x3 x4 (Sum.inl (n,k)) .normal (r17_quC_mk m ee n_ f fi qr n1 n2 l1 l2 g1 g2 ta tb ca cb x1 x2 x3 x4 (Sum.inr (Sum.inl ((n+1),(k+1),[(V.int .i64 k)],1))))))))))))))) (fun (h110:(iLt k 0)=false)=>have _gh110:=z74 h110;aI (c2 k oO oO oO ) (aI (fun (h111:(iLt (x1 k) 0)=true)=>have _gh111:=z73 h111;aI (z7s oO:(fits .i64 (k+1))=true) (aI tT ((z6j (Sum.inl ((n+1),(k+1))) (show ((n+1)≤11∧(k+1)=fi-2+((n+1):Int))∧qf (pmB x1 x2) (fi-2) (n+1) = [] from ⟨⟨by omega,by omega⟩,(zwj h2 oO).trans h1⟩) (show 11-(n+1)<11-n by omega):r17_quC_N m ee n_ f fi qr n1 n2 l1 l2 g1 g2 ta tb ca cb x1 x2 x3 x4 (Sum.inl (n,k)) .normal (r17_quC_mk m ee n_ f fi qr n1 n2 l1 l2 g1 g2 ta tb ca cb x1 x2 x3 x4 (Sum.inl ((n+1),(k+1)))))))) (fun (h112:(iLt (x1 k) 0)=false)=>have _gh112:=z74 h112;aI (c3 k oO oO oO ) (aI (fun (h113:(iGt (x2 k) 0)=true)=>have _gh113:=z77 h113;aI (z7s oO:(fits .i64 (k+1))=true) (aI tT ((z6j (Sum.inl ((n+1),(k+1))) (show ((n+1)≤11∧(k+1)=fi-2+((n+1):Int))∧qf (pmB x1 x2) (fi-2) (n+1) = [] from ⟨⟨by omega,by omega⟩,(zwj h2 oO).trans h1⟩) (show 11-(n+1)<11-n by omega):r17_quC_N m ee n_ f fi qr n1 n2 l1 l2 g1 g2 ta tb ca cb x1 x2 x3 x4 (Sum.inl (n,k)) .normal (r17_quC_mk m ee n_ f fi qr n1 n2 l1 l2 g1 g2 ta tb ca cb x1 x2 x3 x4 (Sum.inl ((n+1),(k+1)))))))) (fun (h114:(iGt (x2 k) 0)=false)=>have _gh114:=z78 h114;aI (c4 k oO oO oO ) (aI (fun (h115:(iGe (x3 k) 0)=true)=>have _gh115:=z79 h115;aI (c5 k oO oO oO ) (aI (fun (h116:(iLe (x4 k) 0)=true)=>have _gh116:=z75 h116;aI (z7s oO:(fits .i64 (k+1))=true) (aI tT ((z6j (Sum.inr (Sum.inr ((n+1),(k+1),[(V.int .i64 k)],1,[(V.int .i64 k)],1))) (show ((n+1)≤11∧(k+1)=fi-2+((n+1):Int))∧[(V.int .i64 k)]=ivs (qf (pmB x1 x2) (fi-2) (n+1))∧1=(qf (pmB x1 x2) (fi-2) (n+1)).length∧[(V.int .i64 k)]=ivs (qf (pdB x1 x2 x3 x4) (fi-2) (n+1))∧1=(qf (pdB x1 x2 x3 x4) (fi-2) (n+1)).length from ⟨⟨by omega,by omega⟩,(by rw[zwk h2 oO,h1];rfl),(by rw[zwk h2 oO,h1];rfl),(by rw[zwm h2 oO,zwp h1];rfl),(by rw[zwm h2 oO,zwp h1];rfl)⟩) (show 11-(n+1)<11-n by omega):r17_quC_N m ee n_ f fi qr n1 n2 l1 l2 g1 g2 ta tb ca cb x1 x2 x3 x4 (Sum.inl (n,k)) .normal (r17_quC_mk m ee n_ f fi qr n1 n2 l1 l2 g1 g2 ta tb ca cb x1 x2 x3 x4 (Sum.inr (Sum.inr ((n+1),(k+1),[(V.int .i64 k)],1,[(V.int .i64 k)],1)))))))) (fun (h117:(iLe (x4 k) 0)=false)=>have _gh117:=z76 h117;aI (z7s oO:(fits .i64 (k+1))=true) (aI tT ((z6j (Sum.inr (Sum.inl ((n+1),(k+1),[(V.int .i64 k)],1))) (show ((n+1)≤11∧(k+1)=fi-2+((n+1):Int))∧[(V.int .i64 k)]=ivs (qf (pmB x1 x2) (fi-2) (n+1))∧1=(qf (pmB x1 x2) (fi-2) (n+1)).length∧qf (pdB x1 x2 x3 x4) (fi-2) (n+1) = [] from ⟨⟨by omega,by omega⟩,(by rw[zwk h2 oO,h1];rfl),(by rw[zwk h2 oO,h1];rfl),(zwl h2 oO).trans (zwp h1)⟩) (show 11-(n+1)<11-n by omega):r17_quC_N m ee n_ f fi qr n1 n2 l1 l2 g1 g2 ta tb ca cb x1 x2 x3 x4 (Sum.inl (n,k)) .normal (r17_quC_mk m ee n_ f fi qr n1 n2 l1 l2 g1 g2 ta tb ca cb x1 x2 x3 x4 (Sum.inr (Sum.inl ((n+1),(k+1),[(V.int .i64 k)],1)))))))))) (fun (h118:(iGe (x3 k) 0)=false)=>have _gh118:=z7a h118;aI (z7s oO:(fits .i64 (k+1))=true) (aI tT ((z6j (Sum.inr (Sum.inl ((n+1),(k+1),[(V.int .i64 k)],1))) (show ((n+1)≤11∧(k+1)=fi-2+((n+1):Int))∧[(V.int .i64 k)]=ivs (qf (pmB x1 x2) (fi-2) (n+1))∧1=(qf (pmB x1 x2) (fi-2) (n+1)).length∧qf (pdB x1 x2 x3 x4) (fi-2) (n+1) = [] from ⟨⟨by omega,by omega⟩,(by rw[zwk h2 oO,h1];rfl),(by rw[zwk h2 oO,h1];rfl),(zwl h2 oO).trans (zwp h1)⟩) (show 11-(n+1)<11-n by omega):r17_quC_N m ee n_ f fi qr n1 n2 l1 l2 g1 g2 ta tb ca cb x1 x2 x3 x4 (Sum.inl (n,k)) .normal (r17_quC_mk m ee n_ f fi qr n1 n2 l1 l2 g1 g2 ta tb ca cb x1 x2 x3 x4 (Sum.inr (Sum.inl ((n+1),(k+1),[(V.int .i64 k)],1)))))))))))))))))))) (by kernel_rfl)
  ·skip
   have hI:(n≤11∧k=fi-2+(n:Int))∧o1=ivs (qf (pmB x1 x2) (fi-2) n)∧n1_=(qf (pmB x1 x2) (fi-2) n).length∧qf (pdB x1 x2 x3 x4) (fi-2) n = []:=hI
   obtain⟨hk,h1⟩:=hI
   have h2:k=fi-2+(n:Int):=hk.2
   have h3:=hk.1
   have d1:=h1.1
   have d2:=h1.2.1
   have d3:=h1.2.2
   have oc1:o1.all isCell=true:=by rw[d1];exact zwc _
   have ol1:o1.length=n1_:=by rw[d1,zwd,d2]
   have qm:=zwh (pmB x1 x2) (fi-2) n
   have nn1:n≠11:=fun z=>hD (z ▸ d3)
   exact z6d (aI True.intro (aI (z7s oO:(fits .i64 (fi+8))=true) (aI (z7g oO:(iLe k (fi+8))=true) (aI (z7s oO:(fits .i64 ((0:Int)-k))=true) (aI (c0 k oO oO ) (aI (fun (h101:(iLt k 0)=true)=>have _gh101:=z73 h101;aI (c1 k oO oO oO ) (aI (c6 k oO oO oO ) (aI (fun (h102:(iLt (x1 k) 0)=true)=>have _gh102:=z73 h102;aI (z7s oO:(fits .i64 (k+1))=true) (aI tT ((z6j (Sum.inr (Sum.inl ((n+1),(k+1),o1,n1_))) (show ((n+1)≤11∧(k+1)=fi-2+((n+1):Int))∧o1=ivs (qf (pmB x1 x2) (fi-2) (n+1))∧n1_=(qf (pmB x1 x2) (fi-2) (n+1)).length∧qf (pdB x1 x2 x3 x4) (fi-2) (n+1) = [] from ⟨⟨by omega,by omega⟩,(by rw[zwj h2 oO];exact d1),(by rw[zwj h2 oO];exact d2),(zwl h2 oO).trans (d3)⟩) (show 11-(n+1)<11-n by omega):r17_quC_N m ee n_ f fi qr n1 n2 l1 l2 g1 g2 ta tb ca cb x1 x2 x3 x4 (Sum.inr (Sum.inl (n,k,o1,n1_))) .normal (r17_quC_mk m ee n_ f fi qr n1 n2 l1 l2 g1 g2 ta tb ca cb x1 x2 x3 x4 (Sum.inr (Sum.inl ((n+1),(k+1),o1,n1_)))))))) (fun (h103:(iLt (x1 k) 0)=false)=>have _gh103:=z74 h103;aI (c7 k oO oO oO ) (aI (fun (h104:(iGt (x2 k) 0)=true)=>have _gh104:=z77 h104;aI (z7s oO:(fits .i64 (k+1))=true) (aI tT ((z6j (Sum.inr (Sum.inl ((n+1),(k+1),o1,n1_))) (show ((n+1)≤11∧(k+1)=fi-2+((n+1):Int))∧o1=ivs (qf (pmB x1 x2) (fi-2) (n+1))∧n1_=(qf (pmB x1 x2) (fi-2) (n+1)).length∧qf (pdB x1 x2 x3 x4) (fi-2) (n+1) = [] from ⟨⟨by omega,by omega⟩,(by rw[zwj h2 oO];exact d1),(by rw[zwj h2 oO];exact d2),(zwl h2 oO).trans (d3)⟩) (show 11-(n+1)<11-n by omega):r17_quC_N m ee n_ f fi qr n1 n2 l1 l2 g1 g2 ta tb ca cb x1 x2 x3 x4 (Sum.inr (Sum.inl (n,k,o1,n1_))) .normal (r17_quC_mk m ee n_ f fi qr n1 n2 l1 l2 g1 g2 ta tb ca cb x1 x2 x3 x4 (Sum.inr (Sum.inl ((n+1),(k+1),o1,n1_)))))))) (fun (h105:(iGt (x2 k) 0)=false)=>have _gh105:=z78 h105;aI (z7r (z7r (z7r (rfl) rfl) (z7y oO)) (by first | rfl | (simp<;>omega) | (rw[z8g];simp)):(true && true && Nat.ble (n1_+1) 1073741824 && Nat.beq o1.length n1_)=true) (aI (c8 k oO oO oO ) (aI (fun (h106:(iGe (x3 k) 0)=true)=>have _gh106:=z79 h106;aI (c9 k oO oO oO ) (aI (fun (h107:(iLe (x4 k) 0)=true)=>have _gh107:=z75 h107;aI (z7s oO:(fits .i64 (k+1))=true) (aI tT ((z6j (Sum.inr (Sum.inr ((n+1),(k+1),(o1 ++ [(V.int .i64 k)]),(n1_+1),[(V.int .i64 k)],1))) (show ((n+1)≤11∧(k+1)=fi-2+((n+1):Int))∧(o1 ++ [(V.int .i64 k)])=ivs (qf (pmB x1 x2) (fi-2) (n+1))∧(n1_+1)=(qf (pmB x1 x2) (fi-2) (n+1)).length∧[(V.int .i64 k)]=ivs (qf (pdB x1 x2 x3 x4) (fi-2) (n+1))∧1=(qf (pdB x1 x2 x3 x4) (fi-2) (n+1)).length from ⟨⟨by omega,by omega⟩,(by rw[zwk h2 oO,zwe,← d1]),(by rw[zwk h2 oO,List.length_append,← d2];rfl),(by rw[zwm h2 oO,d3];rfl),(by rw[zwm h2 oO,d3];rfl)⟩) (show 11-(n+1)<11-n by omega):r17_quC_N m ee n_ f fi qr n1 n2 l1 l2 g1 g2 ta tb ca cb x1 x2 x3 x4 (Sum.inr (Sum.inl (n,k,o1,n1_))) .normal (r17_quC_mk m ee n_ f fi qr n1 n2 l1 l2 g1 g2 ta tb ca cb x1 x2 x3 x4 (Sum.inr (Sum.inr ((n+1),(k+1),(o1 ++ [(V.int .i64 k)]),(n1_+1),[(V.int .i64 k)],1)))))))) (fun (h108:(iLe (x4 k) 0)=false)=>have _gh108:=z76 h108;aI (z7s oO:(fits .i64 (k+1))=true) (aI tT ((z6j (Sum.inr (Sum.inl ((n+1),(k+1),(o1 ++ [(V.int .i64 k)]),(n1_+1)))) (show ((n+1)≤11∧(k+1)=fi-2+((n+1):Int))∧(o1 ++ [(V.int .i64 k)])=ivs (qf (pmB x1 x2) (fi-2) (n+1))∧(n1_+1)=(qf (pmB x1 x2) (fi-2) (n+1)).length∧qf (pdB x1 x2 x3 x4) (fi-2) (n+1) = [] from ⟨⟨by omega,by omega⟩,(by rw[zwk h2 oO,zwe,← d1]),(by rw[zwk h2 oO,List.length_append,← d2];rfl),(zwl h2 oO).trans (d3)⟩) (show 11-(n+1)<11-n by omega):r17_quC_N m ee n_ f fi qr n1 n2 l1 l2 g1 g2 ta tb ca cb x1 x2 x3 x4 (Sum.inr (Sum.inl (n,k,o1,n1_))) .normal (r17_quC_mk m ee n_ f fi qr n1 n2 l1 l2 g1 g2 ta tb ca cb x1 x2 x3 x4 (Sum.inr (Sum.inl ((n+1),(k+1),(o1 ++ [(V.int .i64 k)]),(n1_+1))))))))))) (fun (h109:(iGe (x3 k) 0)=false)=>have _gh109:=z7a h109;aI (z7s oO:(fits .i64 (k+1))=true) (aI tT ((z6j (Sum.inr (Sum.inl ((n+1),(k+1),(o1 ++ [(V.int .i64 k)]),(n1_+1)))) (show ((n+1)≤11∧(k+1)=fi-2+((n+1):Int))∧(o1 ++ [(V.int .i64 k)])=ivs (qf (pmB x1 x2) (fi-2) (n+1))∧(n1_+1)=(qf (pmB x1 x2) (fi-2) (n+1)).length∧qf (pdB x1 x2 x3 x4) (fi-2) (n+1) = [] from ⟨⟨by omega,by omega⟩,(by rw[zwk h2 oO,zwe,← d1]),(by rw[zwk h2 oO,List.length_append,← d2];rfl),(zwl h2 oO).trans (d3)⟩) (show 11-(n+1)<11-n by omega):r17_quC_N m ee n_ f fi qr n1 n2 l1 l2 g1 g2 ta tb ca cb x1 x2 x3 x4 (Sum.inr (Sum.inl (n,k,o1,n1_))) .normal (r17_quC_mk m ee n_ f fi qr n1 n2 l1 l2 g1 g2 ta tb ca cb x1 x2 x3 x4 (Sum.inr (Sum.inl ((n+1),(k+1),(o1 ++ [(V.int .i64 k)]),(n1_+1))))))))))))))))) (fun (h110:(iLt k 0)=false)=>have _gh110:=z74 h110;aI (c2 k oO oO oO ) (aI (fun (h111:(iLt (x1 k) 0)=true)=>have _gh111:=z73 h111;aI (z7s oO:(fits .i64 (k+1))=true) (aI tT ((z6j (Sum.inr (Sum.inl ((n+1),(k+1),o1,n1_))) (show ((n+1)≤11∧(k+1)=fi-2+((n+1):Int))∧o1=ivs (qf (pmB x1 x2) (fi-2) (n+1))∧n1_=(qf (pmB x1 x2) (fi-2) (n+1)).length∧qf (pdB x1 x2 x3 x4) (fi-2) (n+1) = [] from ⟨⟨by omega,by omega⟩,(by rw[zwj h2 oO];exact d1),(by rw[zwj h2 oO];exact d2),(zwl h2 oO).trans (d3)⟩) (show 11-(n+1)<11-n by omega):r17_quC_N m ee n_ f fi qr n1 n2 l1 l2 g1 g2 ta tb ca cb x1 x2 x3 x4 (Sum.inr (Sum.inl (n,k,o1,n1_))) .normal (r17_quC_mk m ee n_ f fi qr n1 n2 l1 l2 g1 g2 ta tb ca cb x1 x2 x3 x4 (Sum.inr (Sum.inl ((n+1),(k+1),o1,n1_)))))))) (fun (h112:(iLt (x1 k) 0)=false)=>have _gh112:=z74 h112;aI (c3 k oO oO oO ) (aI (fun (h113:(iGt (x2 k) 0)=true)=>have _gh113:=z77 h113;aI (z7s oO:(fits .i64 (k+1))=true) (aI tT ((z6j (Sum.inr (Sum.inl ((n+1),(k+1),o1,n1_))) (show ((n+1)≤11∧(k+1)=fi-2+((n+1):Int))∧o1=ivs (qf (pmB x1 x2) (fi-2) (n+1))∧n1_=(qf (pmB x1 x2) (fi-2) (n+1)).length∧qf (pdB x1 x2 x3 x4) (fi-2) (n+1) = [] from ⟨⟨by omega,by omega⟩,(by rw[zwj h2 oO];exact d1),(by rw[zwj h2 oO];exact d2),(zwl h2 oO).trans (d3)⟩) (show 11-(n+1)<11-n by omega):r17_quC_N m ee n_ f fi qr n1 n2 l1 l2 g1 g2 ta tb ca cb x1 x2 x3 x4 (Sum.inr (Sum.inl (n,k,o1,n1_))) .normal (r17_quC_mk m ee n_ f fi qr n1 n2 l1 l2 g1 g2 ta tb ca cb x1 x2 x3 x4 (Sum.inr (Sum.inl ((n+1),(k+1),o1,n1_)))))))) (fun (h114:(iGt (x2 k) 0)=false)=>have _gh114:=z78 h114;aI (z7r (z7r (z7r (rfl) rfl) (z7y oO)) (by first | rfl | (simp<;>omega) | (rw[z8g];simp)):(true && true && Nat.ble (n1_+1) 1073741824 && Nat.beq o1.length n1_)=true) (aI (c4 k oO oO oO ) (aI (fun (h115:(iGe (x3 k) 0)=true)=>have _gh115:=z79 h115;aI (c5 k oO oO oO ) (aI (fun (h116:(iLe (x4 k) 0)=true)=>have _gh116:=z75 h116;aI (z7s oO:(fits .i64 (k+1))=true) (aI tT ((z6j (Sum.inr (Sum.inr ((n+1),(k+1),(o1 ++ [(V.int .i64 k)]),(n1_+1),[(V.int .i64 k)],1))) (show ((n+1)≤11∧(k+1)=fi-2+((n+1):Int))∧(o1 ++ [(V.int .i64 k)])=ivs (qf (pmB x1 x2) (fi-2) (n+1))∧(n1_+1)=(qf (pmB x1 x2) (fi-2) (n+1)).length∧[(V.int .i64 k)]=ivs (qf (pdB x1 x2 x3 x4) (fi-2) (n+1))∧1=(qf (pdB x1 x2 x3 x4) (fi-2) (n+1)).length from ⟨⟨by omega,by omega⟩,(by rw[zwk h2 oO,zwe,← d1]),(by rw[zwk h2 oO,List.length_append,← d2];rfl),(by rw[zwm h2 oO,d3];rfl),(by rw[zwm h2 oO,d3];rfl)⟩) (show 11-(n+1)<11-n by omega):r17_quC_N m ee n_ f fi qr n1 n2 l1 l2 g1 g2 ta tb ca cb x1 x2 x3 x4 (Sum.inr (Sum.inl (n,k,o1,n1_))) .normal (r17_quC_mk m ee n_ f fi qr n1 n2 l1 l2 g1 g2 ta tb ca cb x1 x2 x3 x4 (Sum.inr (Sum.inr ((n+1),(k+1),(o1 ++ [(V.int .i64 k)]),(n1_+1),[(V.int .i64 k)],1)))))))) (fun (h117:(iLe (x4 k) 0)=false)=>have _gh117:=z76 h117;aI (z7s oO:(fits .i64 (k+1))=true) (aI tT ((z6j (Sum.inr (Sum.inl ((n+1),(k+1),(o1 ++ [(V.int .i64 k)]),(n1_+1)))) (show ((n+1)≤11∧(k+1)=fi-2+((n+1):Int))∧(o1 ++ [(V.int .i64 k)])=ivs (qf (pmB x1 x2) (fi-2) (n+1))∧(n1_+1)=(qf (pmB x1 x2) (fi-2) (n+1)).length∧qf (pdB x1 x2 x3 x4) (fi-2) (n+1) = [] from ⟨⟨by omega,by omega⟩,(by rw[zwk h2 oO,zwe,← d1]),(by rw[zwk h2 oO,List.length_append,← d2];rfl),(zwl h2 oO).trans (d3)⟩) (show 11-(n+1)<11-n by omega):r17_quC_N m ee n_ f fi qr n1 n2 l1 l2 g1 g2 ta tb ca cb x1 x2 x3 x4 (Sum.inr (Sum.inl (n,k,o1,n1_))) .normal (r17_quC_mk m ee n_ f fi qr n1 n2 l1 l2 g1 g2 ta tb ca cb x1 x2 x3 x4 (Sum.inr (Sum.inl ((n+1),(k+1),(o1 ++ [(V.int .i64 k)]),(n1_+1))))))))))) (fun (h118:(iGe (x3 k) 0)=false)=>have _gh118:=z7a h118;aI (z7s oO:(fits .i64 (k+1))=true) (aI tT ((z6j (Sum.inr (Sum.inl ((n+1),(k+1),(o1 ++ [(V.int .i64 k)]),(n1_+1)))) (show ((n+1)≤11∧(k+1)=fi-2+((n+1):Int))∧(o1 ++ [(V.int .i64 k)])=ivs (qf (pmB x1 x2) (fi-2) (n+1))∧(n1_+1)=(qf (pmB x1 x2) (fi-2) (n+1)).length∧qf (pdB x1 x2 x3 x4) (fi-2) (n+1) = [] from ⟨⟨by omega,by omega⟩,(by rw[zwk h2 oO,zwe,← d1]),(by rw[zwk h2 oO,List.length_append,← d2];rfl),(zwl h2 oO).trans (d3)⟩) (show 11-(n+1)<11-n by omega):r17_quC_N m ee n_ f fi qr n1 n2 l1 l2 g1 g2 ta tb ca cb x1 x2 x3 x4 (Sum.inr (Sum.inl (n,k,o1,n1_))) .normal (r17_quC_mk m ee n_ f fi qr n1 n2 l1 l2 g1 g2 ta tb ca cb x1 x2 x3 x4 (Sum.inr (Sum.inl ((n+1),(k+1),(o1 ++ [(V.int .i64 k)]),(n1_+1)))))))))))))))))))))) (by kernel_rfl)
  ·skip
   have hI:(n≤11∧k=fi-2+(n:Int))∧o1=ivs (qf (pmB x1 x2) (fi-2) n)∧n1_=(qf (pmB x1 x2) (fi-2) n).length∧o2=ivs (qf (pdB x1 x2 x3 x4) (fi-2) n)∧n2_=(qf (pdB x1 x2 x3 x4) (fi-2) n).length:=hI
   obtain⟨hk,h1⟩:=hI
   have h2:k=fi-2+(n:Int):=hk.2
   have h3:=hk.1
   have d1:=h1.1
   have d2:=h1.2.1
   have d3:=h1.2.2.1
   have d4:=h1.2.2.2
   have oc1:o1.all isCell=true:=by rw[d1];exact zwc _
   have ol1:o1.length=n1_:=by rw[d1,zwd,d2]
   have oc2:o2.all isCell=true:=by rw[d3];exact zwc _
   have ol2:o2.length=n2_:=by rw[d3,zwd,d4]
   have qm:=zwh (pmB x1 x2) (fi-2) n
   have qd:=zwh (pdB x1 x2 x3 x4) (fi-2) n
   exact z6d (aI True.intro (aI (z7s oO:(fits .i64 (fi+8))=true) (aI (fun (h101:(iLe k (fi+8))=true)=>have _gh101:=z75 h101;aI (z7s oO:(fits .i64 ((0:Int)-k))=true) (aI (c0 k oO oO ) (aI (fun (h102:(iLt k 0)=true)=>have _gh102:=z73 h102;aI (c1 k oO oO oO ) (aI (c6 k oO oO oO ) (aI (fun (h103:(iLt (x1 k) 0)=true)=>have _gh103:=z73 h103;aI (z7s oO:(fits .i64 (k+1))=true) (aI tT ((z6j (Sum.inr (Sum.inr ((n+1),(k+1),o1,n1_,o2,n2_))) (show ((n+1)≤11∧(k+1)=fi-2+((n+1):Int))∧o1=ivs (qf (pmB x1 x2) (fi-2) (n+1))∧n1_=(qf (pmB x1 x2) (fi-2) (n+1)).length∧o2=ivs (qf (pdB x1 x2 x3 x4) (fi-2) (n+1))∧n2_=(qf (pdB x1 x2 x3 x4) (fi-2) (n+1)).length from ⟨⟨by omega,by omega⟩,(by rw[zwj h2 oO];exact d1),(by rw[zwj h2 oO];exact d2),(by rw[zwl h2 oO];exact d3),(by rw[zwl h2 oO];exact d4)⟩) (show 11-(n+1)<11-n by omega):r17_quC_N m ee n_ f fi qr n1 n2 l1 l2 g1 g2 ta tb ca cb x1 x2 x3 x4 (Sum.inr (Sum.inr (n,k,o1,n1_,o2,n2_))) .normal (r17_quC_mk m ee n_ f fi qr n1 n2 l1 l2 g1 g2 ta tb ca cb x1 x2 x3 x4 (Sum.inr (Sum.inr ((n+1),(k+1),o1,n1_,o2,n2_)))))))) (fun (h104:(iLt (x1 k) 0)=false)=>have _gh104:=z74 h104;aI (c7 k oO oO oO ) (aI (fun (h105:(iGt (x2 k) 0)=true)=>have _gh105:=z77 h105;aI (z7s oO:(fits .i64 (k+1))=true) (aI tT ((z6j (Sum.inr (Sum.inr ((n+1),(k+1),o1,n1_,o2,n2_))) (show ((n+1)≤11∧(k+1)=fi-2+((n+1):Int))∧o1=ivs (qf (pmB x1 x2) (fi-2) (n+1))∧n1_=(qf (pmB x1 x2) (fi-2) (n+1)).length∧o2=ivs (qf (pdB x1 x2 x3 x4) (fi-2) (n+1))∧n2_=(qf (pdB x1 x2 x3 x4) (fi-2) (n+1)).length from ⟨⟨by omega,by omega⟩,(by rw[zwj h2 oO];exact d1),(by rw[zwj h2 oO];exact d2),(by rw[zwl h2 oO];exact d3),(by rw[zwl h2 oO];exact d4)⟩) (show 11-(n+1)<11-n by omega):r17_quC_N m ee n_ f fi qr n1 n2 l1 l2 g1 g2 ta tb ca cb x1 x2 x3 x4 (Sum.inr (Sum.inr (n,k,o1,n1_,o2,n2_))) .normal (r17_quC_mk m ee n_ f fi qr n1 n2 l1 l2 g1 g2 ta tb ca cb x1 x2 x3 x4 (Sum.inr (Sum.inr ((n+1),(k+1),o1,n1_,o2,n2_)))))))) (fun (h106:(iGt (x2 k) 0)=false)=>have _gh106:=z78 h106;aI (z7r (z7r (z7r (rfl) rfl) (z7y oO)) (by first | rfl | (simp<;>omega) | (rw[z8g];simp)):(true && true && Nat.ble (n1_+1) 1073741824 && Nat.beq o1.length n1_)=true) (aI (c8 k oO oO oO ) (aI (fun (h107:(iGe (x3 k) 0)=true)=>have _gh107:=z79 h107;aI (c9 k oO oO oO ) (aI (fun (h108:(iLe (x4 k) 0)=true)=>have _gh108:=z75 h108;aI (z7r (z7r (z7r (rfl) rfl) (z7y oO)) (by first | rfl | (simp<;>omega) | (rw[z8g];simp)):(true && true && Nat.ble (n2_+1) 1073741824 && Nat.beq o2.length n2_)=true) (aI (z7s oO:(fits .i64 (k+1))=true) (aI tT ((z6j (Sum.inr (Sum.inr ((n+1),(k+1),(o1 ++ [(V.int .i64 k)]),(n1_+1),(o2 ++ [(V.int .i64 k)]),(n2_+1)))) (show ((n+1)≤11∧(k+1)=fi-2+((n+1):Int))∧(o1 ++ [(V.int .i64 k)])=ivs (qf (pmB x1 x2) (fi-2) (n+1))∧(n1_+1)=(qf (pmB x1 x2) (fi-2) (n+1)).length∧(o2 ++ [(V.int .i64 k)])=ivs (qf (pdB x1 x2 x3 x4) (fi-2) (n+1))∧(n2_+1)=(qf (pdB x1 x2 x3 x4) (fi-2) (n+1)).length from ⟨⟨by omega,by omega⟩,(by rw[zwk h2 oO,zwe,← d1]),(by rw[zwk h2 oO,List.length_append,← d2];rfl),(by rw[zwm h2 oO,zwe,← d3]),(by rw[zwm h2 oO,List.length_append,← d4];rfl)⟩) (show 11-(n+1)<11-n by omega):r17_quC_N m ee n_ f fi qr n1 n2 l1 l2 g1 g2 ta tb ca cb x1 x2 x3 x4 (Sum.inr (Sum.inr (n,k,o1,n1_,o2,n2_))) .normal (r17_quC_mk m ee n_ f fi qr n1 n2 l1 l2 g1 g2 ta tb ca cb x1 x2 x3 x4 (Sum.inr (Sum.inr ((n+1),(k+1),(o1 ++ [(V.int .i64 k)]),(n1_+1),(o2 ++ [(V.int .i64 k)]),(n2_+1)))))))))) (fun (h109:(iLe (x4 k) 0)=false)=>have _gh109:=z76 h109;aI (z7s oO:(fits .i64 (k+1))=true) (aI tT ((z6j (Sum.inr (Sum.inr ((n+1),(k+1),(o1 ++ [(V.int .i64 k)]),(n1_+1),o2,n2_))) (show ((n+1)≤11∧(k+1)=fi-2+((n+1):Int))∧(o1 ++ [(V.int .i64 k)])=ivs (qf (pmB x1 x2) (fi-2) (n+1))∧(n1_+1)=(qf (pmB x1 x2) (fi-2) (n+1)).length∧o2=ivs (qf (pdB x1 x2 x3 x4) (fi-2) (n+1))∧n2_=(qf (pdB x1 x2 x3 x4) (fi-2) (n+1)).length from ⟨⟨by omega,by omega⟩,(by rw[zwk h2 oO,zwe,← d1]),(by rw[zwk h2 oO,List.length_append,← d2];rfl),(by rw[zwl h2 oO];exact d3),(by rw[zwl h2 oO];exact d4)⟩) (show 11-(n+1)<11-n by omega):r17_quC_N m ee n_ f fi qr n1 n2 l1 l2 g1 g2 ta tb ca cb x1 x2 x3 x4 (Sum.inr (Sum.inr (n,k,o1,n1_,o2,n2_))) .normal (r17_quC_mk m ee n_ f fi qr n1 n2 l1 l2 g1 g2 ta tb ca cb x1 x2 x3 x4 (Sum.inr (Sum.inr ((n+1),(k+1),(o1 ++ [(V.int .i64 k)]),(n1_+1),o2,n2_)))))))))) (fun (h110:(iGe (x3 k) 0)=false)=>have _gh110:=z7a h110;aI (z7s oO:(fits .i64 (k+1))=true) (aI tT ((z6j (Sum.inr (Sum.inr ((n+1),(k+1),(o1 ++ [(V.int .i64 k)]),(n1_+1),o2,n2_))) (show ((n+1)≤11∧(k+1)=fi-2+((n+1):Int))∧(o1 ++ [(V.int .i64 k)])=ivs (qf (pmB x1 x2) (fi-2) (n+1))∧(n1_+1)=(qf (pmB x1 x2) (fi-2) (n+1)).length∧o2=ivs (qf (pdB x1 x2 x3 x4) (fi-2) (n+1))∧n2_=(qf (pdB x1 x2 x3 x4) (fi-2) (n+1)).length from ⟨⟨by omega,by omega⟩,(by rw[zwk h2 oO,zwe,← d1]),(by rw[zwk h2 oO,List.length_append,← d2];rfl),(by rw[zwl h2 oO];exact d3),(by rw[zwl h2 oO];exact d4)⟩) (show 11-(n+1)<11-n by omega):r17_quC_N m ee n_ f fi qr n1 n2 l1 l2 g1 g2 ta tb ca cb x1 x2 x3 x4 (Sum.inr (Sum.inr (n,k,o1,n1_,o2,n2_))) .normal (r17_quC_mk m ee n_ f fi qr n1 n2 l1 l2 g1 g2 ta tb ca cb x1 x2 x3 x4 (Sum.inr (Sum.inr ((n+1),(k+1),(o1 ++ [(V.int .i64 k)]),(n1_+1),o2,n2_)))))))))))))))) (fun (h111:(iLt k 0)=false)=>have _gh111:=z74 h111;aI (c2 k oO oO oO ) (aI (fun (h112:(iLt (x1 k) 0)=true)=>have _gh112:=z73 h112;aI (z7s oO:(fits .i64 (k+1))=true) (aI tT ((z6j (Sum.inr (Sum.inr ((n+1),(k+1),o1,n1_,o2,n2_))) (show ((n+1)≤11∧(k+1)=fi-2+((n+1):Int))∧o1=ivs (qf (pmB x1 x2) (fi-2) (n+1))∧n1_=(qf (pmB x1 x2) (fi-2) (n+1)).length∧o2=ivs (qf (pdB x1 x2 x3 x4) (fi-2) (n+1))∧n2_=(qf (pdB x1 x2 x3 x4) (fi-2) (n+1)).length from ⟨⟨by omega,by omega⟩,(by rw[zwj h2 oO];exact d1),(by rw[zwj h2 oO];exact d2),(by rw[zwl h2 oO];exact d3),(by rw[zwl h2 oO];exact d4)⟩) (show 11-(n+1)<11-n by omega):r17_quC_N m ee n_ f fi qr n1 n2 l1 l2 g1 g2 ta tb ca cb x1 x2 x3 x4 (Sum.inr (Sum.inr (n,k,o1,n1_,o2,n2_))) .normal (r17_quC_mk m ee n_ f fi qr n1 n2 l1 l2 g1 g2 ta tb ca cb x1 x2 x3 x4 (Sum.inr (Sum.inr ((n+1),(k+1),o1,n1_,o2,n2_)))))))) (fun (h113:(iLt (x1 k) 0)=false)=>have _gh113:=z74 h113;aI (c3 k oO oO oO ) (aI (fun (h114:(iGt (x2 k) 0)=true)=>have _gh114:=z77 h114;aI (z7s oO:(fits .i64 (k+1))=true) (aI tT ((z6j (Sum.inr (Sum.inr ((n+1),(k+1),o1,n1_,o2,n2_))) (show ((n+1)≤11∧(k+1)=fi-2+((n+1):Int))∧o1=ivs (qf (pmB x1 x2) (fi-2) (n+1))∧n1_=(qf (pmB x1 x2) (fi-2) (n+1)).length∧o2=ivs (qf (pdB x1 x2 x3 x4) (fi-2) (n+1))∧n2_=(qf (pdB x1 x2 x3 x4) (fi-2) (n+1)).length from ⟨⟨by omega,by omega⟩,(by rw[zwj h2 oO];exact d1),(by rw[zwj h2 oO];exact d2),(by rw[zwl h2 oO];exact d3),(by rw[zwl h2 oO];exact d4)⟩) (show 11-(n+1)<11-n by omega):r17_quC_N m ee n_ f fi qr n1 n2 l1 l2 g1 g2 ta tb ca cb x1 x2 x3 x4 (Sum.inr (Sum.inr (n,k,o1,n1_,o2,n2_))) .normal (r17_quC_mk m ee n_ f fi qr n1 n2 l1 l2 g1 g2 ta tb ca cb x1 x2 x3 x4 (Sum.inr (Sum.inr ((n+1),(k+1),o1,n1_,o2,n2_)))))))) (fun (h115:(iGt (x2 k) 0)=false)=>have _gh115:=z78 h115;aI (z7r (z7r (z7r (rfl) rfl) (z7y oO)) (by first | rfl | (simp<;>omega) | (rw[z8g];simp)):(true && true && Nat.ble (n1_+1) 1073741824 && Nat.beq o1.length n1_)=true) (aI (c4 k oO oO oO ) (aI (fun (h116:(iGe (x3 k) 0)=true)=>have _gh116:=z79 h116;aI (c5 k oO oO oO ) (aI (fun (h117:(iLe (x4 k) 0)=true)=>have _gh117:=z75 h117;aI (z7r (z7r (z7r (rfl) rfl) (z7y oO)) (by first | rfl | (simp<;>omega) | (rw[z8g];simp)):(true && true && Nat.ble (n2_+1) 1073741824 && Nat.beq o2.length n2_)=true) (aI (z7s oO:(fits .i64 (k+1))=true) (aI tT ((z6j (Sum.inr (Sum.inr ((n+1),(k+1),(o1 ++ [(V.int .i64 k)]),(n1_+1),(o2 ++ [(V.int .i64 k)]),(n2_+1)))) (show ((n+1)≤11∧(k+1)=fi-2+((n+1):Int))∧(o1 ++ [(V.int .i64 k)])=ivs (qf (pmB x1 x2) (fi-2) (n+1))∧(n1_+1)=(qf (pmB x1 x2) (fi-2) (n+1)).length∧(o2 ++ [(V.int .i64 k)])=ivs (qf (pdB x1 x2 x3 x4) (fi-2) (n+1))∧(n2_+1)=(qf (pdB x1 x2 x3 x4) (fi-2) (n+1)).length from ⟨⟨by omega,by omega⟩,(by rw[zwk h2 oO,zwe,← d1]),(by rw[zwk h2 oO,List.length_append,← d2];rfl),(by rw[zwm h2 oO,zwe,← d3]),(by rw[zwm h2 oO,List.length_append,← d4];rfl)⟩) (show 11-(n+1)<11-n by omega):r17_quC_N m ee n_ f fi qr n1 n2 l1 l2 g1 g2 ta tb ca cb x1 x2 x3 x4 (Sum.inr (Sum.inr (n,k,o1,n1_,o2,n2_))) .normal (r17_quC_mk m ee n_ f fi qr n1 n2 l1 l2 g1 g2 ta tb ca cb x1 x2 x3 x4 (Sum.inr (Sum.inr ((n+1),(k+1),(o1 ++ [(V.int .i64 k)]),(n1_+1),(o2 ++ [(V.int .i64 k)]),(n2_+1)))))))))) (fun (h118:(iLe (x4 k) 0)=false)=>have _gh118:=z76 h118;aI (z7s oO:(fits .i64 (k+1))=true) (aI tT ((z6j (Sum.inr (Sum.inr ((n+1),(k+1),(o1 ++ [(V.int .i64 k)]),(n1_+1),o2,n2_))) (show ((n+1)≤11∧(k+1)=fi-2+((n+1):Int))∧(o1 ++ [(V.int .i64 k)])=ivs (qf (pmB x1 x2) (fi-2) (n+1))∧(n1_+1)=(qf (pmB x1 x2) (fi-2) (n+1)).length∧o2=ivs (qf (pdB x1 x2 x3 x4) (fi-2) (n+1))∧n2_=(qf (pdB x1 x2 x3 x4) (fi-2) (n+1)).length from ⟨⟨by omega,by omega⟩,(by rw[zwk h2 oO,zwe,← d1]),(by rw[zwk h2 oO,List.length_append,← d2];rfl),(by rw[zwl h2 oO];exact d3),(by rw[zwl h2 oO];exact d4)⟩) (show 11-(n+1)<11-n by omega):r17_quC_N m ee n_ f fi qr n1 n2 l1 l2 g1 g2 ta tb ca cb x1 x2 x3 x4 (Sum.inr (Sum.inr (n,k,o1,n1_,o2,n2_))) .normal (r17_quC_mk m ee n_ f fi qr n1 n2 l1 l2 g1 g2 ta tb ca cb x1 x2 x3 x4 (Sum.inr (Sum.inr ((n+1),(k+1),(o1 ++ [(V.int .i64 k)]),(n1_+1),o2,n2_)))))))))) (fun (h119:(iGe (x3 k) 0)=false)=>have _gh119:=z7a h119;aI (z7s oO:(fits .i64 (k+1))=true) (aI tT ((z6j (Sum.inr (Sum.inr ((n+1),(k+1),(o1 ++ [(V.int .i64 k)]),(n1_+1),o2,n2_))) (show ((n+1)≤11∧(k+1)=fi-2+((n+1):Int))∧(o1 ++ [(V.int .i64 k)])=ivs (qf (pmB x1 x2) (fi-2) (n+1))∧(n1_+1)=(qf (pmB x1 x2) (fi-2) (n+1)).length∧o2=ivs (qf (pdB x1 x2 x3 x4) (fi-2) (n+1))∧n2_=(qf (pdB x1 x2 x3 x4) (fi-2) (n+1)).length from ⟨⟨by omega,by omega⟩,(by rw[zwk h2 oO,zwe,← d1]),(by rw[zwk h2 oO,List.length_append,← d2];rfl),(by rw[zwl h2 oO];exact d3),(by rw[zwl h2 oO];exact d4)⟩) (show 11-(n+1)<11-n by omega):r17_quC_N m ee n_ f fi qr n1 n2 l1 l2 g1 g2 ta tb ca cb x1 x2 x3 x4 (Sum.inr (Sum.inr (n,k,o1,n1_,o2,n2_))) .normal (r17_quC_mk m ee n_ f fi qr n1 n2 l1 l2 g1 g2 ta tb ca cb x1 x2 x3 x4 (Sum.inr (Sum.inr ((n+1),(k+1),(o1 ++ [(V.int .i64 k)]),(n1_+1),o2,n2_)))))))))))))))))) (fun (h120:(iLe k (fi+8))=false)=>have _gh120:=z76 h120;aI tT ((z6k 0 ((r17_quC_ex m ee n_ f fi qr n1 n2 l1 l2 g1 g2 ta tb ca cb x1 x2 x3 x4 (o1,n1_,o2,n2_)).2) (o1,n1_,o2,n2_) (show o1=ivs (qf (pmB x1 x2) (fi-2) 11)∧n1_=(qf (pmB x1 x2) (fi-2) 11).length∧o2=ivs (qf (pdB x1 x2 x3 x4) (fi-2) 11)∧n2_=(qf (pdB x1 x2 x3 x4) (fi-2) 11).length from (by rw[show n=11 by omega] at d1 d2 d3 d4;exact⟨d1,d2,d3,d4⟩)) rfl:r17_quC_N m ee n_ f fi qr n1 n2 l1 l2 g1 g2 ta tb ca cb x1 x2 x3 x4 (Sum.inr (Sum.inr (n,k,o1,n1_,o2,n2_))) (.exit 0) ((r17_quC_ex m ee n_ f fi qr n1 n2 l1 l2 g1 g2 ta tb ca cb x1 x2 x3 x4 (o1,n1_,o2,n2_)).2))))))) (by kernel_rfl))
theorem zwv (m ee n_ f w p1 p2 n1 n2 l1 l2 g1 g2 fi qr:Int)(ta:Int→Int)(tb:Int→Int)(ca:Int→Int)(cb:Int→Int)(x1:Int→Int)(x2:Int→Int)(x3:Int→Int)(x4:Int→Int)(c0:0≤w∧w≤4000)(c1:Impl Tryz.prog Amb 30 [(.int .i64 (w+80))] (sV p1 p2))(c2:Impl Tryz.prog Amb 29 [(sV p1 p2),(.int .i64 2)] (sV n1 n2))(c3:Impl Tryz.prog Amb 45 [(yV m ee),(.int .i64 (w+80))] (sV l1 l2))(c4:Impl Tryz.prog Amb 45 [(yV n_ f),(.int .i64 (w+80))] (sV g1 g2))(c5:Impl Tryz.prog Amb 168 [(zV l1),(zV n1)] (.tup [(zV fi),(zV qr),(.bool true)]))(c6:-4294967200≤fi∧fi≤4294967200)(c7:∀ k:Int,fi-2≤k→k≤fi+8→Impl Tryz.prog Amb 28 [(sV n1 n2),(.int .i64 (iMax k ((0:Int)-k)))] (sV (ta k) (tb k)))(c8:∀ k:Int,fi-2≤k→k≤fi+8→k<0→Impl Tryz.prog Amb 99 [(sV (ta k) (tb k))] (sV (ca k) (cb k)))(c9:∀ k:Int,fi-2≤k→k≤fi+8→0≤k→Impl Tryz.prog Amb 96 [(zV (tb k)),(zV l1)] (.int .i64 (x1 k)))(c10:∀ k:Int,fi-2≤k→k≤fi+8→0≤k→Impl Tryz.prog Amb 96 [(zV (ta k)),(zV g2)] (.int .i64 (x2 k)))(c11:∀ k:Int,fi-2≤k→k≤fi+8→0≤k→Impl Tryz.prog Amb 96 [(zV (ta k)),(zV l2)] (.int .i64 (x3 k)))(c12:∀ k:Int,fi-2≤k→k≤fi+8→0≤k→Impl Tryz.prog Amb 96 [(zV (tb k)),(zV g1)] (.int .i64 (x4 k)))(c13:∀ k:Int,fi-2≤k→k≤fi+8→k<0→Impl Tryz.prog Amb 96 [(zV (cb k)),(zV l1)] (.int .i64 (x1 k)))(c14:∀ k:Int,fi-2≤k→k≤fi+8→k<0→Impl Tryz.prog Amb 96 [(zV (ca k)),(zV g2)] (.int .i64 (x2 k)))(c15:∀ k:Int,fi-2≤k→k≤fi+8→k<0→Impl Tryz.prog Amb 96 [(zV (ca k)),(zV l2)] (.int .i64 (x3 k)))(c16:∀ k:Int,fi-2≤k→k≤fi+8→k<0→Impl Tryz.prog Amb 96 [(zV (cb k)),(zV g1)] (.int .i64 (x4 k)))(c17:qf (pmB x1 x2) (fi-2) 11≠[])(c18:qf (pdB x1 x2 x3 x4) (fi-2) 11≠[]):Impl Tryz.prog Amb 143 [(wV m ee n_ f),(.int .i64 w)] (.tup [(.sl 1 (ivs (qf (pmB x1 x2) (fi-2) 11))),(.sl 1 (ivs (qf (pdB x1 x2 x3 x4) (fi-2) 11)))]):=by
 have hM:=c17
 have hD:=c18
 exact z6e hP hAmb Tryz.func143 (by kernel_rfl) (.lit<|.yes<|.lit<|.call (sV p1 p2)<|.lit<|.call (sV n1 n2)<|.lits 3<|.call (sV l1 l2)<|.lits 2<|.call (sV g1 g2)<|.lits 3<|.call (.tup [(zV fi),(zV qr),(.bool true)])<|.lits 4<|.call (.tup [(.int .i64 fi),(.bool true)])<|.lit<|.yes<|.loop ⟨[7,8,9,13,15,16,17],6,[]⟩ ((r17_quC_mk m ee n_ f fi qr n1 n2 l1 l2 g1 g2 ta tb ca cb x1 x2 x3 x4 (Sum.inl (0,(fi-2))))) (List V × Nat × List V × Nat) (r17_quC_ex m ee n_ f fi qr n1 n2 l1 l2 g1 g2 ta tb ca cb x1 x2 x3 x4) (r17_quC_J m ee n_ f fi qr n1 n2 l1 l2 g1 g2 ta tb ca cb x1 x2 x3 x4) (fun y=>.yes<|.ret))
  (z6d (aI True.intro (aI (z7s oS:(fits .i64 (w+80))=true) (aI (c1 ) (aI (c2 ) (aI (c3 ) (aI (c4 ) (aI (c5 ) (aI (zwb fi oS) (aI (z7s oS:(fits .i64 (fi-2))=true) (aI tT (aI (rfl:(r17_quC_mk m ee n_ f fi qr n1 n2 l1 l2 g1 g2 ta tb ca cb x1 x2 x3 x4 (Sum.inl (0,(fi-2))))=(r17_quC_mk m ee n_ f fi qr n1 n2 l1 l2 g1 g2 ta tb ca cb x1 x2 x3 x4 (Sum.inl (0,(fi-2))))) (aI (zwu m ee n_ f fi qr n1 n2 l1 l2 g1 g2 ta tb ca cb x1 x2 x3 x4 c7 c8 c9 c10 c11 c12 c13 c14 c15 c16 c6 hM hD (Sum.inl (0,(fi-2))) (show (0≤11∧(fi-2)=fi-2+(0:Int))∧qf (pmB x1 x2) (fi-2) 0 = [] from ⟨⟨by omega,by omega⟩,rfl⟩)) (fun y (hJ:r17_quC_J m ee n_ f fi qr n1 n2 l1 l2 g1 g2 ta tb ca cb x1 x2 x3 x4 y)=>have hJ:y.1=ivs (qf (pmB x1 x2) (fi-2) 11)∧y.2.1=(qf (pmB x1 x2) (fi-2) 11).length∧y.2.2.1=ivs (qf (pdB x1 x2 x3 x4) (fi-2) 11)∧y.2.2.2=(qf (pdB x1 x2 x3 x4) (fi-2) 11).length:=hJ;have hY:=hJ;have ly:y.1.length=y.2.1:=(by rw[hY.1,zwd,hY.2.1]);have lz:y.2.2.1.length=y.2.2.2:=(by rw[hY.2.2.1,zwd,hY.2.2.2]);aI (zwg oS oS:((true && Nat.ble (0+y.2.1) y.1.length) && ((true && Nat.ble (0+y.2.2.2) y.2.2.1.length) && true))=true) (by rw[hY.1,hY.2.1,hY.2.2.1,hY.2.2.2,zwf,zwf];exact z5w _:vsub (.tup [(.sl 1 (List.take y.2.1 (List.drop 0 y.1))),(.sl 1 (List.take y.2.2.2 (List.drop 0 y.2.2.1)))]) (.tup [(.sl 1 (ivs (qf (pmB x1 x2) (fi-2) 11))),(.sl 1 (ivs (qf (pdB x1 x2 x3 x4) (fi-2) 11)))]))))))))))))))) (by kernel_rfl))

end Go.Proofs.YtcbihoojfakhdaaGreatDoor

namespace Go.Proofs.YtcbihoojfakhdaaGreatDoor
open Go.RowKit
set_option maxRecDepth 100000
set_option maxHeartbeats 4000000
def tstQ (x k:Int):Bool:=iEq (wRem ((wRem (x-k) 4)+4) 4) 0
def inL (l:List Int)(k:Int):Bool:=l.any fun x=>tstQ x k
theorem zww (l:List Int):∀ j,j<l.length→nth (ivs l) j .unk=V.int .i64 (nth l j 0):=by
 induction l with
 | nil=>intro j h;exact absurd h (by simp)
 | cons x l ih =>
  intro j h
  cases j with
  | zero=>rfl
  | succ j=>exact ih j (by simpa using h)
theorem zwx {l:List Int}{j:Nat}(h:j<l.length):(Nat.blt j (ivs l).length && isIntK .i64 (nth (ivs l) j .unk))=true:=by
 rw[zww l j h,zwd]
 exact z7r (Nat.ble_eq ▸ h) rfl
theorem zwy {l:List Int}{j:Nat}(h:j<l.length):intV (nth (ivs l) j .unk)=nth l j 0:=by rw[zww l j h];rfl
theorem zwz {l:List Int}:∀ {j:Nat},j<l.length→nth l j 0∈l:=by
 induction l with
 | nil=>intro j h;exact absurd h (by simp)
 | cons x l ih =>
  intro j h
  cases j with
  | zero=>exact List.mem_cons_self
  | succ j=>exact List.mem_cons_of_mem _ (ih (by simpa using h))
theorem zx0 {l:List Int}:∀ {j:Nat},j<l.length→l.take (j+1)=l.take j ++ [nth l j 0]:=by
 induction l with
 | nil=>intro j h;exact absurd h (by simp)
 | cons x l ih =>
  intro j h
  cases j with
  | zero=>simp [nth]
  | succ j =>
   rw[List.take_succ_cons,ih (by simpa using h)]
   rfl
theorem zx1 {l:List Int}{k:Int}{j:Nat}(h:j<l.length)(h1:inL (l.take j) k=false)(h2:tstQ (intV (nth (ivs l) j .unk)) k=false):inL (l.take (j+1)) k=false:=by
 rw[zwy h] at h2
 rw[zx0 h]
 unfold inL at *
 rw[List.any_append,h1]
 simp [h2]
theorem zx2 {l:List Int}{k:Int}{j:Nat}(h:j<l.length)(h2:tstQ (intV (nth (ivs l) j .unk)) k=true):inL l k=true:=by
 rw[zwy h] at h2
 unfold inL
 exact List.any_eq_true.2 ⟨_,zwz h,h2⟩
theorem zx3 {l:List Int}{k:Int}{j:Nat}(h:¬ j<l.length)(h1:inL (l.take j) k=false):inL l k=false:=by
 rw[List.take_of_length_le oO] at h1
 exact h1
theorem zx4 {l:List Int}(hb:∀ x∈l,-10000000000≤x∧x≤10000000000){j:Nat}(h:j<l.length):-10000000000≤intV (nth (ivs l) j .unk)∧intV (nth (ivs l) j .unk)≤10000000000:=by
 rw[zwy h];exact hb _ (zwz h)
def r17_in_0_mk (l:List Int)(k:Int)(x:Nat × Int):St:=⟨mkS 21 [(1,(.val (.int .i64 k))),(7,(.val (.sl 1 (ivs l)))),(8,(.val (.int .i64 ((ivs l).length:Int)))),(9,(.val (.int .i64 x.2)))],[]⟩
def r17_in_0_I (l:List Int)(k:Int)(x:Nat × Int):Prop:=(x.2=(x.1:Int)∧x.1≤l.length)∧inL (l.take x.1) k=false
def r17_in_0_mu (l:List Int)(_:Int)(x:Nat × Int):Nat:=l.length-x.1
def r17_in_0_ex (_:List Int)(_:Int)(y:(Nat)⊕(Nat)):Ex × St:=Sum.elim (fun (y:Nat)=>(.ret,⟨mkS 21 [(4,(.val (.bool true)))],[]⟩)) (fun (y:Nat)=>(.exit 0,⟨mkS 21 [],[]⟩)) y
def r17_in_0_J (l:List Int)(k:Int)(y:(Nat)⊕(Nat)):Prop:=Sum.elim (fun (y:Nat)=>inL l k=true) (fun (y:Nat)=>inL l k=false) y
abbrev r17_in_0_N (l:List Int)(k:Int):=NX (r17_in_0_mk l k) (r17_in_0_I l k) (r17_in_0_mu l k) (r17_in_0_ex l k) (r17_in_0_J l k)
theorem zx5 (l:List Int)(k:Int)(c0:∀ x∈l,-10000000000≤x∧x≤10000000000)(c1:-100≤k∧k≤100)(c2:l.length≤1000)(x0:Nat × Int)(hI:r17_in_0_I l k x0):LoopOk Tryz.prog Amb (loopN Tryz.f144 0) (r17_in_0_mk l k x0) (fun e st_=>∃ y,r17_in_0_J l k y∧r17_in_0_ex l k y=(e,st_)) :=
 z6m hP hAmb ⟨[1,7,8,9],0,[]⟩ (r17_in_0_mk l k) (r17_in_0_I l k) (r17_in_0_mu l k) (r17_in_0_ex l k) (r17_in_0_J l k) x0 hI (fun (i,ii)=>.lit<|.both (.yes<|.yes<|.lit<|.yes<|.lits 2<|.yes<|.lits 2<|.both (.fin2 ⟨[4],0,[]⟩) (.lit<|.yes<|.fin2 ⟨[1,7,8,9],0,[]⟩)) (.fin2 ⟨[],0,[]⟩)) (by
  rintro ⟨i,ii⟩ hI
  have hI:(ii=(i:Int)∧i≤l.length)∧inL (l.take i) k=false:=hI
  obtain⟨hk,h1⟩:=hI
  have hl:=zwd l
  have it:ii.toNat=i:=by omega
  have hx:=fun (h:ii.toNat<l.length)=>zx4 c0 h
  have w1:=zo3 (v:=intV (nth (ivs l) ii.toNat .unk)-k) (n:=4) oO
  have hn:=fun (h:i<l.length) (q:tstQ (intV (nth (ivs l) ii.toNat .unk)) k=false)=>zx1 (j:=i) h h1 (it ▸ q)
  have hy:=fun (h:i<l.length) (q:tstQ (intV (nth (ivs l) ii.toNat .unk)) k=true)=>zx2 (j:=i) h (it ▸ q)
  exact z6d (aI True.intro (aI (fun (h101:(iLt ii ((ivs l).length:Int))=true)=>have _gh101:=z73 h101;aI (z7o (by first | omega | (have:=hx oO;omega)):(inB ii ((ivs l).length))=true) (aI (zwx oO:(Nat.blt ii.toNat (ivs l).length && isIntK .i64 (nth (ivs l) ii.toNat .unk))=true) (aI (z7s (by first | omega | (have:=hx oO;omega)):(fits .i64 ((intV (nth (ivs l) ii.toNat .unk))-k))=true) (aI (z7s (by first | omega | (have:=hx oO;omega)):(fits .i64 ((wRem ((intV (nth (ivs l) ii.toNat .unk))-k) (4:Int))+4))=true) (aI (fun (h102:(iEq (wRem ((wRem ((intV (nth (ivs l) ii.toNat .unk))-k) (4:Int))+4) (4:Int)) 0)=true)=>have _gh102:=z7b h102;aI tT ((z6l ((r17_in_0_ex l k (Sum.inl i)).2) (Sum.inl i) (show inL l k=true from hy oO (by assumption)) rfl:r17_in_0_N l k (i,ii) .ret ((r17_in_0_ex l k (Sum.inl i)).2)))) (fun (h103:(iEq (wRem ((wRem ((intV (nth (ivs l) ii.toNat .unk))-k) (4:Int))+4) (4:Int)) 0)=false)=>have _gh103:=z7c h103;aI (z7s (by first | omega | (have:=hx oO;omega)):(fits .i64 (ii+1))=true) (aI tT ((z6j ((i+1),(ii+1)) (show ((ii+1)=((i+1):Int)∧(i+1)≤l.length)∧inL (l.take (i+1)) k=false from ⟨⟨by omega,by omega⟩,hn oO (by assumption)⟩) (show l.length-(i+1)<l.length-i by omega):r17_in_0_N l k (i,ii) .normal (r17_in_0_mk l k ((i+1),(ii+1)))))))))))) (fun (h104:(iLt ii ((ivs l).length:Int))=false)=>have _gh104:=z74 h104;aI tT ((z6k 0 ((r17_in_0_ex l k (Sum.inr i)).2) (Sum.inr i) (show inL l k=false from zx3 (j:=i) oO h1) rfl:r17_in_0_N l k (i,ii) (.exit 0) ((r17_in_0_ex l k (Sum.inr i)).2)))))) (by kernel_rfl))
theorem zx6 (l:List Int)(k:Int)(c0:∀ x∈l,-10000000000≤x∧x≤10000000000)(c1:-100≤k∧k≤100)(c2:l.length≤1000):Impl Tryz.prog Amb 144 [(.sl 1 (ivs l)),(.int .i64 k)] (.bool (inL l k)):=by
 exact z6e hP hAmb Tryz.func144 (by kernel_rfl) (.loop2 ⟨[1,7,8,9],0,[]⟩ ((r17_in_0_mk l k (0,0))) (Nat) (Nat) (r17_in_0_ex l k) (r17_in_0_J l k) (fun y=>.lit<|.ret) (fun y=>.lit<|.ret))
  (z6d (aI True.intro (aI tT (aI (rfl:(r17_in_0_mk l k (0,0))=(r17_in_0_mk l k (0,0))) (aI (zx5 l k c0 c1 c2 (0,0) (show (0=(0:Int)∧0≤l.length)∧inL (l.take 0) k=false from ⟨⟨by omega,by omega⟩,rfl⟩)) (aI (fun (y:Nat) (hJ:r17_in_0_J l k (.inl y))=>have hJ:inL l k=true:=hJ;have hY:=hJ;(z5x (congrArg V.bool hY.symm):vsub (.bool true) (.bool (inL l k)))) (fun (y:Nat) (hJ:r17_in_0_J l k (.inr y))=>have hJ:inL l k=false:=hJ;have hY:=hJ;(z5x (congrArg V.bool hY.symm):vsub (.bool false) (.bool (inL l k))))))))) (by kernel_rfl))
def r17_inN_0_mk (k x:Int):St:=⟨mkS 21 [(1,(.val (.int .i64 k))),(7,(.val .nil)),(8,(.val (.int .i64 0))),(9,(.val (.int .i64 0)))],[]⟩
def r17_inN_0_I (_ x:Int):Prop:=x=x
def r17_inN_0_mu (_ x:Int):Nat:=0
def r17_inN_0_ex (_ y:Int):Ex × St:=(.exit 0,⟨mkS 21 [],[]⟩)
def r17_inN_0_J (_ y:Int):Prop:=y=y
theorem zx7 (k:Int)  (x0:Int) (hI:r17_inN_0_I k x0):LoopOk Tryz.prog Amb (loopN Tryz.f144 0) (r17_inN_0_mk k x0) (fun e st_=>∃ y,r17_inN_0_J k y∧r17_inN_0_ex k y=(e,st_)) :=
 z6m hP hAmb ⟨[1,7,8,9],0,[]⟩ (r17_inN_0_mk k) (r17_inN_0_I k) (r17_inN_0_mu k) (r17_inN_0_ex k) (r17_inN_0_J k) x0 hI (fun ii=>.lits 2<|.fin2 ⟨[],0,[]⟩) (by
  rintro ii hI
  have hI:ii=ii:=hI
  have h1:=hI
  exact z6d (aI True.intro (aI tT ((z6k 0 ((r17_inN_0_ex k ii).2) ii (show ii=ii from rfl) rfl:NX (r17_inN_0_mk k) (r17_inN_0_I k) (r17_inN_0_mu k) (r17_inN_0_ex k) (r17_inN_0_J k) ii (.exit 0) ((r17_inN_0_ex k ii).2))))) (by kernel_rfl))
theorem zx8 (k:Int):Impl Tryz.prog Amb 144 [.nil,(.int .i64 k)] (.bool false):=by
 exact z6e hP hAmb Tryz.func144 (by kernel_rfl) (.loop ⟨[1,7,8,9],0,[]⟩ ((r17_inN_0_mk k (0:Int))) (Int) (r17_inN_0_ex k) (r17_inN_0_J k) (fun y=>.lit<|.ret))
  (z6d (aI True.intro (aI tT (aI (rfl:(r17_inN_0_mk k (0:Int))=(r17_inN_0_mk k (0:Int))) (aI (zx7 k (0:Int) (show (0:Int)=(0:Int) from rfl)) (fun y (hJ:r17_inN_0_J k y)=>have hJ:y=y:=hJ;(z5w (.bool false))))))) (by kernel_rfl))
theorem zx9 (m e n f p g q h:Int)(c0:L (m).natAbs≤8192)(c1:L (n).natAbs≤8192)(c2:(-65536:Int)≤e∧e≤65536)(c3:(-65536:Int)≤f∧f≤65536)(c4:L (p).natAbs≤8192)(c5:L (q).natAbs≤8192)(c6:(-65536:Int)≤g∧g≤65536)(c7:(-65536:Int)≤h∧h≤65536):Impl Tryz.prog Amb 141 [(wV m e n f),(wV p g q h)] (wV (if 0<cmpD m e p g then p else m) (if 0<cmpD m e p g then g else e) (if 0<cmpD n f q h then q else n) (if 0<cmpD n f q h then h else f)):=by
 exact z6e hP hAmb Tryz.func141 (by kernel_rfl) (.lits 3<|.call (.int .i64 (cmpD m e p g))<|.lit<|.both (.lits 5<|.call (.int .i64 (cmpD n f q h))<|.lit<|.both (.lits 5<|.ret) (.lits 3<|.ret)) (.lits 3<|.call (.int .i64 (cmpD n f q h))<|.lit<|.both (.lits 5<|.ret) (.lits 3<|.ret)))
  (z6d (aI True.intro (aI (zj7 m e p g oO oO oO oO) (have f9:=zi9 m e p g;aI (fun (h1:(iGt (cmpD m e p g) 0)=true)=>have _gh1:=z77 h1;aI (zj7 n f q h oO oO oO oO) (have f4:=zi9 n f q h;aI (fun (h2:(iGt (cmpD n f q h) 0)=true)=>have _gh2:=z77 h2;(by rw[if_pos oO,if_pos oO,if_pos oO,if_pos oO];exact z5w _:vsub (wV p g q h) (wV (if 0<cmpD m e p g then p else m) (if 0<cmpD m e p g then g else e) (if 0<cmpD n f q h then q else n) (if 0<cmpD n f q h then h else f)))) (fun (h3:(iGt (cmpD n f q h) 0)=false)=>have _gh3:=z78 h3;(by rw[if_pos oO,if_pos oO,if_neg oO,if_neg oO];exact z5w _:vsub (wV p g n f) (wV (if 0<cmpD m e p g then p else m) (if 0<cmpD m e p g then g else e) (if 0<cmpD n f q h then q else n) (if 0<cmpD n f q h then h else f)))))) (fun (h5:(iGt (cmpD m e p g) 0)=false)=>have _gh5:=z78 h5;aI (zj7 n f q h oO oO oO oO) (have f8:=zi9 n f q h;aI (fun (h6:(iGt (cmpD n f q h) 0)=true)=>have _gh6:=z77 h6;(by rw[if_neg oO,if_neg oO,if_pos oO,if_pos oO];exact z5w _:vsub (wV m e q h) (wV (if 0<cmpD m e p g then p else m) (if 0<cmpD m e p g then g else e) (if 0<cmpD n f q h then q else n) (if 0<cmpD n f q h then h else f)))) (fun (h7:(iGt (cmpD n f q h) 0)=false)=>have _gh7:=z78 h7;(by rw[if_neg oO,if_neg oO,if_neg oO,if_neg oO];exact z5w _:vsub (wV m e n f) (wV (if 0<cmpD m e p g then p else m) (if 0<cmpD m e p g then g else e) (if 0<cmpD n f q h then q else n) (if 0<cmpD n f q h then h else f))))))))) (by kernel_rfl))
theorem zxa (m e n f p g q h:Int)(c0:L (m).natAbs≤8192)(c1:L (n).natAbs≤8192)(c2:(-65536:Int)≤e∧e≤65536)(c3:(-65536:Int)≤f∧f≤65536)(c4:L (p).natAbs≤8192)(c5:L (q).natAbs≤8192)(c6:(-65536:Int)≤g∧g≤65536)(c7:(-65536:Int)≤h∧h≤65536):Impl Tryz.prog Amb 142 [(wV m e n f),(wV p g q h)] (wV (if cmpD m e p g<0 then p else m) (if cmpD m e p g<0 then g else e) (if cmpD n f q h<0 then q else n) (if cmpD n f q h<0 then h else f)):=by
 exact z6e hP hAmb Tryz.func142 (by kernel_rfl) (.lits 3<|.call (.int .i64 (cmpD m e p g))<|.lit<|.both (.lits 5<|.call (.int .i64 (cmpD n f q h))<|.lit<|.both (.lits 5<|.ret) (.lits 3<|.ret)) (.lits 3<|.call (.int .i64 (cmpD n f q h))<|.lit<|.both (.lits 5<|.ret) (.lits 3<|.ret)))
  (z6d (aI True.intro (aI (zj7 m e p g oO oO oO oO) (have f9:=zi9 m e p g;aI (fun (h1:(iLt (cmpD m e p g) 0)=true)=>have _gh1:=z73 h1;aI (zj7 n f q h oO oO oO oO) (have f4:=zi9 n f q h;aI (fun (h2:(iLt (cmpD n f q h) 0)=true)=>have _gh2:=z73 h2;(by rw[if_pos oO,if_pos oO,if_pos oO,if_pos oO];exact z5w _:vsub (wV p g q h) (wV (if cmpD m e p g<0 then p else m) (if cmpD m e p g<0 then g else e) (if cmpD n f q h<0 then q else n) (if cmpD n f q h<0 then h else f)))) (fun (h3:(iLt (cmpD n f q h) 0)=false)=>have _gh3:=z74 h3;(by rw[if_pos oO,if_pos oO,if_neg oO,if_neg oO];exact z5w _:vsub (wV p g n f) (wV (if cmpD m e p g<0 then p else m) (if cmpD m e p g<0 then g else e) (if cmpD n f q h<0 then q else n) (if cmpD n f q h<0 then h else f)))))) (fun (h5:(iLt (cmpD m e p g) 0)=false)=>have _gh5:=z74 h5;aI (zj7 n f q h oO oO oO oO) (have f8:=zi9 n f q h;aI (fun (h6:(iLt (cmpD n f q h) 0)=true)=>have _gh6:=z73 h6;(by rw[if_neg oO,if_neg oO,if_pos oO,if_pos oO];exact z5w _:vsub (wV m e q h) (wV (if cmpD m e p g<0 then p else m) (if cmpD m e p g<0 then g else e) (if cmpD n f q h<0 then q else n) (if cmpD n f q h<0 then h else f)))) (fun (h7:(iLt (cmpD n f q h) 0)=false)=>have _gh7:=z74 h7;(by rw[if_neg oO,if_neg oO,if_neg oO,if_neg oO];exact z5w _:vsub (wV m e n f) (wV (if cmpD m e p g<0 then p else m) (if cmpD m e p g<0 then g else e) (if cmpD n f q h<0 then q else n) (if cmpD n f q h<0 then h else f))))))))) (by kernel_rfl))
theorem zxb (m ee n f w sa sb sc sd ca cb cc cd ta tb tc td da db dc dd la lb lc ld ga gb gc gd:Int)(mv:V)(dv_:V)(i1:Bool)(i2:Bool)(i3:Bool)(i4:Bool)(c0:Impl Tryz.prog Amb 140 [(yV m ee),(.int .i64 w)] (.tup [(wV sa sb sc sd),(wV ca cb cc cd)]))(c1:Impl Tryz.prog Amb 140 [(yV n f),(.int .i64 w)] (.tup [(wV ta tb tc td),(wV da db dc dd)]))(c2:Impl Tryz.prog Amb 141 [(wV sa sb sc sd),(wV ta tb tc td)] (wV la lb lc ld))(c3:Impl Tryz.prog Amb 142 [(wV sa sb sc sd),(wV ta tb tc td)] (wV ga gb gc gd))(c4:Impl Tryz.prog Amb 143 [(wV m ee n f),(.int .i64 w)] (.tup [mv,dv_]))(c5:Impl Tryz.prog Amb 17 [(.int .i64 1)] (yV (1:Int) 0))(c6:Impl Tryz.prog Amb 17 [(.int .i64 (-1))] (yV (-1:Int) 0))(c7:Impl Tryz.prog Amb 144 [mv,(.int .i64 1)] (.bool i1))(c8:Impl Tryz.prog Amb 144 [dv_,(.int .i64 1)] (.bool i2))(c9:Impl Tryz.prog Amb 144 [mv,(.int .i64 3)] (.bool i3))(c10:Impl Tryz.prog Amb 144 [dv_,(.int .i64 3)] (.bool i4)):Impl Tryz.prog Amb 79 [(wV m ee n f),(.int .i64 w),(.bool false)] (.tup [(wV (cond i3 (-1) la) (cond i3 0 lb) (cond i4 (-1) lc) (cond i4 0 ld)),(wV (cond i2 1 ga) (cond i2 0 gb) (cond i1 1 gc) (cond i1 0 gd))]):=by
 exact z6e hP hAmb Tryz.func79 (by kernel_rfl) (.lits 2<|.call (.tup [(wV sa sb sc sd),(wV ca cb cc cd)])<|.lits 4<|.call (.tup [(wV ta tb tc td),(wV da db dc dd)])<|.lits 6<|.call (wV la lb lc ld)<|.lits 3<|.call (wV ga gb gc gd)<|.lits 2<|.call (.tup [mv,dv_])<|.lit<|.call (yV (1:Int) 0)<|.lit<|.call (yV (-1:Int) 0)<|.lits 3<|.call (.bool i1)<|.both (.lits 3<|.call (.bool i2)<|.both (.lits 3<|.yes<|.lit<|.call (.bool i3)<|.both (.lits 3<|.yes<|.lit<|.call (.bool i4)<|.both (.lits 7<|.ret) (.lits 5<|.ret)) (.lit<|.yes<|.lit<|.call (.bool i4)<|.both (.lits 7<|.ret) (.lits 5<|.ret))) (.lit<|.yes<|.lit<|.call (.bool i3)<|.both (.lits 3<|.yes<|.lit<|.call (.bool i4)<|.both (.lits 7<|.ret) (.lits 5<|.ret)) (.lit<|.yes<|.lit<|.call (.bool i4)<|.both (.lits 7<|.ret) (.lits 5<|.ret)))) (.lit<|.call (.bool i2)<|.both (.lits 3<|.yes<|.lit<|.call (.bool i3)<|.both (.lits 3<|.yes<|.lit<|.call (.bool i4)<|.both (.lits 7<|.ret) (.lits 5<|.ret)) (.lit<|.yes<|.lit<|.call (.bool i4)<|.both (.lits 7<|.ret) (.lits 5<|.ret))) (.lit<|.yes<|.lit<|.call (.bool i3)<|.both (.lits 3<|.yes<|.lit<|.call (.bool i4)<|.both (.lits 7<|.ret) (.lits 5<|.ret)) (.lit<|.yes<|.lit<|.call (.bool i4)<|.both (.lits 7<|.ret) (.lits 5<|.ret)))))
  (z6d (aI True.intro (aI (c0 ) (aI (c1 ) (aI (c2 ) (aI (c3 ) (aI (c4 ) (aI (c5 ) (aI (c6 ) (aI (c7 ) (aI (fun (h1:i1=true)=>aI (c8 ) (aI (fun (h2:i2=true)=>aI tT (aI (c9 ) (aI (fun (h3:i3=true)=>aI tT (aI (c10 ) (aI (fun (h4:i4=true)=>(by simp only [*,cond_true,cond_false];exact z5w _:vsub (.tup [(wV (-1:Int) 0 (-1:Int) 0),(wV (1:Int) 0 (1:Int) 0)]) (.tup [(wV (cond i3 (-1) la) (cond i3 0 lb) (cond i4 (-1) lc) (cond i4 0 ld)),(wV (cond i2 1 ga) (cond i2 0 gb) (cond i1 1 gc) (cond i1 0 gd))]))) (fun (h5:i4=false)=>(by simp only [*,cond_true,cond_false];exact z5w _:vsub (.tup [(wV (-1:Int) 0 lc ld),(wV (1:Int) 0 (1:Int) 0)]) (.tup [(wV (cond i3 (-1) la) (cond i3 0 lb) (cond i4 (-1) lc) (cond i4 0 ld)),(wV (cond i2 1 ga) (cond i2 0 gb) (cond i1 1 gc) (cond i1 0 gd))])))))) (fun (h6:i3=false)=>aI tT (aI (c10 ) (aI (fun (h7:i4=true)=>(by simp only [*,cond_true,cond_false];exact z5w _:vsub (.tup [(wV la lb (-1:Int) 0),(wV (1:Int) 0 (1:Int) 0)]) (.tup [(wV (cond i3 (-1) la) (cond i3 0 lb) (cond i4 (-1) lc) (cond i4 0 ld)),(wV (cond i2 1 ga) (cond i2 0 gb) (cond i1 1 gc) (cond i1 0 gd))]))) (fun (h8:i4=false)=>(by simp only [*,cond_true,cond_false];exact z5w _:vsub (.tup [(wV la lb lc ld),(wV (1:Int) 0 (1:Int) 0)]) (.tup [(wV (cond i3 (-1) la) (cond i3 0 lb) (cond i4 (-1) lc) (cond i4 0 ld)),(wV (cond i2 1 ga) (cond i2 0 gb) (cond i1 1 gc) (cond i1 0 gd))]))))))))) (fun (h9:i2=false)=>aI tT (aI (c9 ) (aI (fun (h10:i3=true)=>aI tT (aI (c10 ) (aI (fun (h11:i4=true)=>(by simp only [*,cond_true,cond_false];exact z5w _:vsub (.tup [(wV (-1:Int) 0 (-1:Int) 0),(wV ga gb (1:Int) 0)]) (.tup [(wV (cond i3 (-1) la) (cond i3 0 lb) (cond i4 (-1) lc) (cond i4 0 ld)),(wV (cond i2 1 ga) (cond i2 0 gb) (cond i1 1 gc) (cond i1 0 gd))]))) (fun (h12:i4=false)=>(by simp only [*,cond_true,cond_false];exact z5w _:vsub (.tup [(wV (-1:Int) 0 lc ld),(wV ga gb (1:Int) 0)]) (.tup [(wV (cond i3 (-1) la) (cond i3 0 lb) (cond i4 (-1) lc) (cond i4 0 ld)),(wV (cond i2 1 ga) (cond i2 0 gb) (cond i1 1 gc) (cond i1 0 gd))])))))) (fun (h13:i3=false)=>aI tT (aI (c10 ) (aI (fun (h14:i4=true)=>(by simp only [*,cond_true,cond_false];exact z5w _:vsub (.tup [(wV la lb (-1:Int) 0),(wV ga gb (1:Int) 0)]) (.tup [(wV (cond i3 (-1) la) (cond i3 0 lb) (cond i4 (-1) lc) (cond i4 0 ld)),(wV (cond i2 1 ga) (cond i2 0 gb) (cond i1 1 gc) (cond i1 0 gd))]))) (fun (h15:i4=false)=>(by simp only [*,cond_true,cond_false];exact z5w _:vsub (.tup [(wV la lb lc ld),(wV ga gb (1:Int) 0)]) (.tup [(wV (cond i3 (-1) la) (cond i3 0 lb) (cond i4 (-1) lc) (cond i4 0 ld)),(wV (cond i2 1 ga) (cond i2 0 gb) (cond i1 1 gc) (cond i1 0 gd))]))))))))))) (fun (h16:i1=false)=>aI (c8 ) (aI (fun (h17:i2=true)=>aI tT (aI (c9 ) (aI (fun (h18:i3=true)=>aI tT (aI (c10 ) (aI (fun (h19:i4=true)=>(by simp only [*,cond_true,cond_false];exact z5w _:vsub (.tup [(wV (-1:Int) 0 (-1:Int) 0),(wV (1:Int) 0 gc gd)]) (.tup [(wV (cond i3 (-1) la) (cond i3 0 lb) (cond i4 (-1) lc) (cond i4 0 ld)),(wV (cond i2 1 ga) (cond i2 0 gb) (cond i1 1 gc) (cond i1 0 gd))]))) (fun (h20:i4=false)=>(by simp only [*,cond_true,cond_false];exact z5w _:vsub (.tup [(wV (-1:Int) 0 lc ld),(wV (1:Int) 0 gc gd)]) (.tup [(wV (cond i3 (-1) la) (cond i3 0 lb) (cond i4 (-1) lc) (cond i4 0 ld)),(wV (cond i2 1 ga) (cond i2 0 gb) (cond i1 1 gc) (cond i1 0 gd))])))))) (fun (h21:i3=false)=>aI tT (aI (c10 ) (aI (fun (h22:i4=true)=>(by simp only [*,cond_true,cond_false];exact z5w _:vsub (.tup [(wV la lb (-1:Int) 0),(wV (1:Int) 0 gc gd)]) (.tup [(wV (cond i3 (-1) la) (cond i3 0 lb) (cond i4 (-1) lc) (cond i4 0 ld)),(wV (cond i2 1 ga) (cond i2 0 gb) (cond i1 1 gc) (cond i1 0 gd))]))) (fun (h23:i4=false)=>(by simp only [*,cond_true,cond_false];exact z5w _:vsub (.tup [(wV la lb lc ld),(wV (1:Int) 0 gc gd)]) (.tup [(wV (cond i3 (-1) la) (cond i3 0 lb) (cond i4 (-1) lc) (cond i4 0 ld)),(wV (cond i2 1 ga) (cond i2 0 gb) (cond i1 1 gc) (cond i1 0 gd))]))))))))) (fun (h24:i2=false)=>aI tT (aI (c9 ) (aI (fun (h25:i3=true)=>aI tT (aI (c10 ) (aI (fun (h26:i4=true)=>(by simp only [*,cond_true,cond_false];exact z5w _:vsub (.tup [(wV (-1:Int) 0 (-1:Int) 0),(wV ga gb gc gd)]) (.tup [(wV (cond i3 (-1) la) (cond i3 0 lb) (cond i4 (-1) lc) (cond i4 0 ld)),(wV (cond i2 1 ga) (cond i2 0 gb) (cond i1 1 gc) (cond i1 0 gd))]))) (fun (h27:i4=false)=>(by simp only [*,cond_true,cond_false];exact z5w _:vsub (.tup [(wV (-1:Int) 0 lc ld),(wV ga gb gc gd)]) (.tup [(wV (cond i3 (-1) la) (cond i3 0 lb) (cond i4 (-1) lc) (cond i4 0 ld)),(wV (cond i2 1 ga) (cond i2 0 gb) (cond i1 1 gc) (cond i1 0 gd))])))))) (fun (h28:i3=false)=>aI tT (aI (c10 ) (aI (fun (h29:i4=true)=>(by simp only [*,cond_true,cond_false];exact z5w _:vsub (.tup [(wV la lb (-1:Int) 0),(wV ga gb gc gd)]) (.tup [(wV (cond i3 (-1) la) (cond i3 0 lb) (cond i4 (-1) lc) (cond i4 0 ld)),(wV (cond i2 1 ga) (cond i2 0 gb) (cond i1 1 gc) (cond i1 0 gd))]))) (fun (h30:i4=false)=>(by simp only [*,cond_true,cond_false];exact z5w _:vsub (.tup [(wV la lb lc ld),(wV ga gb gc gd)]) (.tup [(wV (cond i3 (-1) la) (cond i3 0 lb) (cond i4 (-1) lc) (cond i4 0 ld)),(wV (cond i2 1 ga) (cond i2 0 gb) (cond i1 1 gc) (cond i1 0 gd))]))))))))))))))))))))) (by kernel_rfl))
theorem zxc (m ee n f w sa sb sc sd ca cb cc cd ta tb tc td da db dc dd la lb lc ld ga gb gc gd:Int)(mv:V)(dv_:V)(i1:Bool)(i2:Bool)(i3:Bool)(i4:Bool)(c0:Impl Tryz.prog Amb 140 [(yV m ee),(.int .i64 w)] (.tup [(wV sa sb sc sd),(wV ca cb cc cd)]))(c1:Impl Tryz.prog Amb 140 [(yV n f),(.int .i64 w)] (.tup [(wV ta tb tc td),(wV da db dc dd)]))(c2:Impl Tryz.prog Amb 141 [(wV ca cb cc cd),(wV da db dc dd)] (wV la lb lc ld))(c3:Impl Tryz.prog Amb 142 [(wV ca cb cc cd),(wV da db dc dd)] (wV ga gb gc gd))(c4:Impl Tryz.prog Amb 143 [(wV m ee n f),(.int .i64 w)] (.tup [mv,dv_]))(c5:Impl Tryz.prog Amb 17 [(.int .i64 1)] (yV (1:Int) 0))(c6:Impl Tryz.prog Amb 17 [(.int .i64 (-1))] (yV (-1:Int) 0))(c7:Impl Tryz.prog Amb 144 [mv,(.int .i64 0)] (.bool i1))(c8:Impl Tryz.prog Amb 144 [dv_,(.int .i64 0)] (.bool i2))(c9:Impl Tryz.prog Amb 144 [mv,(.int .i64 2)] (.bool i3))(c10:Impl Tryz.prog Amb 144 [dv_,(.int .i64 2)] (.bool i4)):Impl Tryz.prog Amb 79 [(wV m ee n f),(.int .i64 w),(.bool true)] (.tup [(wV (cond i3 (-1) la) (cond i3 0 lb) (cond i4 (-1) lc) (cond i4 0 ld)),(wV (cond i2 1 ga) (cond i2 0 gb) (cond i1 1 gc) (cond i1 0 gd))]):=by
 exact z6e hP hAmb Tryz.func79 (by kernel_rfl) (.lits 2<|.call (.tup [(wV sa sb sc sd),(wV ca cb cc cd)])<|.lits 4<|.call (.tup [(wV ta tb tc td),(wV da db dc dd)])<|.lits 10<|.call (wV la lb lc ld)<|.lits 3<|.call (wV ga gb gc gd)<|.lits 2<|.call (.tup [mv,dv_])<|.lit<|.call (yV (1:Int) 0)<|.lit<|.call (yV (-1:Int) 0)<|.lits 3<|.call (.bool i1)<|.both (.lits 3<|.call (.bool i2)<|.both (.lits 3<|.yes<|.lit<|.call (.bool i3)<|.both (.lits 3<|.yes<|.lit<|.call (.bool i4)<|.both (.lits 7<|.ret) (.lits 5<|.ret)) (.lit<|.yes<|.lit<|.call (.bool i4)<|.both (.lits 7<|.ret) (.lits 5<|.ret))) (.lit<|.yes<|.lit<|.call (.bool i3)<|.both (.lits 3<|.yes<|.lit<|.call (.bool i4)<|.both (.lits 7<|.ret) (.lits 5<|.ret)) (.lit<|.yes<|.lit<|.call (.bool i4)<|.both (.lits 7<|.ret) (.lits 5<|.ret)))) (.lit<|.call (.bool i2)<|.both (.lits 3<|.yes<|.lit<|.call (.bool i3)<|.both (.lits 3<|.yes<|.lit<|.call (.bool i4)<|.both (.lits 7<|.ret) (.lits 5<|.ret)) (.lit<|.yes<|.lit<|.call (.bool i4)<|.both (.lits 7<|.ret) (.lits 5<|.ret))) (.lit<|.yes<|.lit<|.call (.bool i3)<|.both (.lits 3<|.yes<|.lit<|.call (.bool i4)<|.both (.lits 7<|.ret) (.lits 5<|.ret)) (.lit<|.yes<|.lit<|.call (.bool i4)<|.both (.lits 7<|.ret) (.lits 5<|.ret)))))
  (z6d (aI True.intro (aI (c0 ) (aI (c1 ) (aI (c2 ) (aI (c3 ) (aI (c4 ) (aI (c5 ) (aI (c6 ) (aI (c7 ) (aI (fun (h1:i1=true)=>aI (c8 ) (aI (fun (h2:i2=true)=>aI tT (aI (c9 ) (aI (fun (h3:i3=true)=>aI tT (aI (c10 ) (aI (fun (h4:i4=true)=>(by simp only [*,cond_true,cond_false];exact z5w _:vsub (.tup [(wV (-1:Int) 0 (-1:Int) 0),(wV (1:Int) 0 (1:Int) 0)]) (.tup [(wV (cond i3 (-1) la) (cond i3 0 lb) (cond i4 (-1) lc) (cond i4 0 ld)),(wV (cond i2 1 ga) (cond i2 0 gb) (cond i1 1 gc) (cond i1 0 gd))]))) (fun (h5:i4=false)=>(by simp only [*,cond_true,cond_false];exact z5w _:vsub (.tup [(wV (-1:Int) 0 lc ld),(wV (1:Int) 0 (1:Int) 0)]) (.tup [(wV (cond i3 (-1) la) (cond i3 0 lb) (cond i4 (-1) lc) (cond i4 0 ld)),(wV (cond i2 1 ga) (cond i2 0 gb) (cond i1 1 gc) (cond i1 0 gd))])))))) (fun (h6:i3=false)=>aI tT (aI (c10 ) (aI (fun (h7:i4=true)=>(by simp only [*,cond_true,cond_false];exact z5w _:vsub (.tup [(wV la lb (-1:Int) 0),(wV (1:Int) 0 (1:Int) 0)]) (.tup [(wV (cond i3 (-1) la) (cond i3 0 lb) (cond i4 (-1) lc) (cond i4 0 ld)),(wV (cond i2 1 ga) (cond i2 0 gb) (cond i1 1 gc) (cond i1 0 gd))]))) (fun (h8:i4=false)=>(by simp only [*,cond_true,cond_false];exact z5w _:vsub (.tup [(wV la lb lc ld),(wV (1:Int) 0 (1:Int) 0)]) (.tup [(wV (cond i3 (-1) la) (cond i3 0 lb) (cond i4 (-1) lc) (cond i4 0 ld)),(wV (cond i2 1 ga) (cond i2 0 gb) (cond i1 1 gc) (cond i1 0 gd))]))))))))) (fun (h9:i2=false)=>aI tT (aI (c9 ) (aI (fun (h10:i3=true)=>aI tT (aI (c10 ) (aI (fun (h11:i4=true)=>(by simp only [*,cond_true,cond_false];exact z5w _:vsub (.tup [(wV (-1:Int) 0 (-1:Int) 0),(wV ga gb (1:Int) 0)]) (.tup [(wV (cond i3 (-1) la) (cond i3 0 lb) (cond i4 (-1) lc) (cond i4 0 ld)),(wV (cond i2 1 ga) (cond i2 0 gb) (cond i1 1 gc) (cond i1 0 gd))]))) (fun (h12:i4=false)=>(by simp only [*,cond_true,cond_false];exact z5w _:vsub (.tup [(wV (-1:Int) 0 lc ld),(wV ga gb (1:Int) 0)]) (.tup [(wV (cond i3 (-1) la) (cond i3 0 lb) (cond i4 (-1) lc) (cond i4 0 ld)),(wV (cond i2 1 ga) (cond i2 0 gb) (cond i1 1 gc) (cond i1 0 gd))])))))) (fun (h13:i3=false)=>aI tT (aI (c10 ) (aI (fun (h14:i4=true)=>(by simp only [*,cond_true,cond_false];exact z5w _:vsub (.tup [(wV la lb (-1:Int) 0),(wV ga gb (1:Int) 0)]) (.tup [(wV (cond i3 (-1) la) (cond i3 0 lb) (cond i4 (-1) lc) (cond i4 0 ld)),(wV (cond i2 1 ga) (cond i2 0 gb) (cond i1 1 gc) (cond i1 0 gd))]))) (fun (h15:i4=false)=>(by simp only [*,cond_true,cond_false];exact z5w _:vsub (.tup [(wV la lb lc ld),(wV ga gb (1:Int) 0)]) (.tup [(wV (cond i3 (-1) la) (cond i3 0 lb) (cond i4 (-1) lc) (cond i4 0 ld)),(wV (cond i2 1 ga) (cond i2 0 gb) (cond i1 1 gc) (cond i1 0 gd))]))))))))))) (fun (h16:i1=false)=>aI (c8 ) (aI (fun (h17:i2=true)=>aI tT (aI (c9 ) (aI (fun (h18:i3=true)=>aI tT (aI (c10 ) (aI (fun (h19:i4=true)=>(by simp only [*,cond_true,cond_false];exact z5w _:vsub (.tup [(wV (-1:Int) 0 (-1:Int) 0),(wV (1:Int) 0 gc gd)]) (.tup [(wV (cond i3 (-1) la) (cond i3 0 lb) (cond i4 (-1) lc) (cond i4 0 ld)),(wV (cond i2 1 ga) (cond i2 0 gb) (cond i1 1 gc) (cond i1 0 gd))]))) (fun (h20:i4=false)=>(by simp only [*,cond_true,cond_false];exact z5w _:vsub (.tup [(wV (-1:Int) 0 lc ld),(wV (1:Int) 0 gc gd)]) (.tup [(wV (cond i3 (-1) la) (cond i3 0 lb) (cond i4 (-1) lc) (cond i4 0 ld)),(wV (cond i2 1 ga) (cond i2 0 gb) (cond i1 1 gc) (cond i1 0 gd))])))))) (fun (h21:i3=false)=>aI tT (aI (c10 ) (aI (fun (h22:i4=true)=>(by simp only [*,cond_true,cond_false];exact z5w _:vsub (.tup [(wV la lb (-1:Int) 0),(wV (1:Int) 0 gc gd)]) (.tup [(wV (cond i3 (-1) la) (cond i3 0 lb) (cond i4 (-1) lc) (cond i4 0 ld)),(wV (cond i2 1 ga) (cond i2 0 gb) (cond i1 1 gc) (cond i1 0 gd))]))) (fun (h23:i4=false)=>(by simp only [*,cond_true,cond_false];exact z5w _:vsub (.tup [(wV la lb lc ld),(wV (1:Int) 0 gc gd)]) (.tup [(wV (cond i3 (-1) la) (cond i3 0 lb) (cond i4 (-1) lc) (cond i4 0 ld)),(wV (cond i2 1 ga) (cond i2 0 gb) (cond i1 1 gc) (cond i1 0 gd))]))))))))) (fun (h24:i2=false)=>aI tT (aI (c9 ) (aI (fun (h25:i3=true)=>aI tT (aI (c10 ) (aI (fun (h26:i4=true)=>(by simp only [*,cond_true,cond_false];exact z5w _:vsub (.tup [(wV (-1:Int) 0 (-1:Int) 0),(wV ga gb gc gd)]) (.tup [(wV (cond i3 (-1) la) (cond i3 0 lb) (cond i4 (-1) lc) (cond i4 0 ld)),(wV (cond i2 1 ga) (cond i2 0 gb) (cond i1 1 gc) (cond i1 0 gd))]))) (fun (h27:i4=false)=>(by simp only [*,cond_true,cond_false];exact z5w _:vsub (.tup [(wV (-1:Int) 0 lc ld),(wV ga gb gc gd)]) (.tup [(wV (cond i3 (-1) la) (cond i3 0 lb) (cond i4 (-1) lc) (cond i4 0 ld)),(wV (cond i2 1 ga) (cond i2 0 gb) (cond i1 1 gc) (cond i1 0 gd))])))))) (fun (h28:i3=false)=>aI tT (aI (c10 ) (aI (fun (h29:i4=true)=>(by simp only [*,cond_true,cond_false];exact z5w _:vsub (.tup [(wV la lb (-1:Int) 0),(wV ga gb gc gd)]) (.tup [(wV (cond i3 (-1) la) (cond i3 0 lb) (cond i4 (-1) lc) (cond i4 0 ld)),(wV (cond i2 1 ga) (cond i2 0 gb) (cond i1 1 gc) (cond i1 0 gd))]))) (fun (h30:i4=false)=>(by simp only [*,cond_true,cond_false];exact z5w _:vsub (.tup [(wV la lb lc ld),(wV ga gb gc gd)]) (.tup [(wV (cond i3 (-1) la) (cond i3 0 lb) (cond i4 (-1) lc) (cond i4 0 ld)),(wV (cond i2 1 ga) (cond i2 0 gb) (cond i1 1 gc) (cond i1 0 gd))]))))))))))))))))))))) (by kernel_rfl))
theorem zxd (m ee n f w sa sb sc sd ka kb kc kd la lb lc ld ua ub uc ud pa pb pc pd qa qb qc qd:Int)(c0:Impl Tryz.prog Amb 34 [(wV m ee n f),(.int .i64 w)] (.tup [(wV sa sb sc sd),(.int .i64 0)]))(c1:Impl Tryz.prog Amb 35 [(wV m ee n f),(.int .i64 w)] (.tup [(wV ka kb kc kd),(.int .i64 0)]))(c2:Impl Tryz.prog Amb 42 [(wV sa sb sc sd)] (.bool true))(c3:Impl Tryz.prog Amb 42 [(wV ka kb kc kd)] (.bool true))(c4:Impl Tryz.prog Amb 79 [(wV m ee n f),(.int .i64 w),(.bool false)] (.tup [(wV la lb lc ld),(wV ua ub uc ud)]))(c5:Impl Tryz.prog Amb 79 [(wV m ee n f),(.int .i64 w),(.bool true)] (.tup [(wV pa pb pc pd),(wV qa qb qc qd)]))(c6:Impl Tryz.prog Amb 22 [(wV sa sb sc sd),(wV la lb lc ld),(wV ua ub uc ud),(.int .i64 w)] (.bool true))(c7:Impl Tryz.prog Amb 22 [(wV ka kb kc kd),(wV pa pb pc pd),(wV qa qb qc qd),(.int .i64 w)] (.bool true)):Impl Tryz.prog Amb 26 [(wV m ee n f),(.int .i64 w)] (.bool true):=by
 exact z6e hP hAmb Tryz.func26 (by kernel_rfl) (.lits 2<|.call (.tup [(wV sa sb sc sd),(.int .i64 0)])<|.lits 3<|.call (.tup [(wV ka kb kc kd),(.int .i64 0)])<|.lits 10<|.call (.bool true)<|.lits 7<|.call (.bool true)<|.lits 6<|.call (.tup [(wV la lb lc ld),(wV ua ub uc ud)])<|.lits 4<|.call (.tup [(wV pa pb pc pd),(wV qa qb qc qd)])<|.lits 6<|.call (.bool true)<|.lits 9<|.call (.bool true)<|.lits 2<|.ret)
  (z6d (aI True.intro (aI (c0 ) (aI (c1 ) (aI (c2 ) (aI (c3 ) (aI (c4 ) (aI (c5 ) (aI (c6 ) (aI (c7 ) ((z5w (.bool true)))))))))))) (by kernel_rfl))
end Go.Proofs.YtcbihoojfakhdaaGreatDoor

namespace Go.Proofs.YtcbihoojfakhdaaGreatDoor
open Go.RowKit
set_option maxRecDepth 100000
set_option maxHeartbeats 4000000
theorem zxe (x k:Int):tstQ x k=true↔(x-k)%4=0:=by
 have h:=zu7 (x-k) 0 (.inl rfl)
 rw[Int.add_zero,Int.add_zero] at h
 unfold tstQ
 rw[h]
 unfold iEq
 simp
theorem zxf (l:List Int)(x c:Int):inL (l ++ [x]) c=(inL l c || tstQ x c):=by unfold inL;rw[List.any_append];simp
theorem zxg {p:Int→Bool}{s c:Int}:∀ {n:Nat},inL (qf p s n) c=true↔∃ j:Nat,j<n∧p (s+j)=true∧(s+j-c)%4=0
 | 0=>⟨fun h=>(by cases h),fun ⟨j,h,_⟩=>absurd h oO⟩
 | n+1=>by
  have i:=zxg (p:=p) (s:=s) (c:=c) (n:=n)
  unfold qf
  split
  ·rename_i hp
   rw[zxf,Bool.or_eq_true,i,zxe]
   constructor
   ·rintro (⟨j,h1,h2⟩ | h)
    ·exact⟨j,by omega,h2⟩
    ·exact⟨n,by omega,hp,h⟩
   ·rintro ⟨j,h1,h2,h3⟩
    by_cases q:j=n
    ·subst q;exact .inr h3
    ·exact .inl ⟨j,by omega,h2,h3⟩
  ·rename_i hp
   rw[i]
   constructor
   ·rintro ⟨j,h1,h2⟩;exact⟨j,by omega,h2⟩
   ·rintro ⟨j,h1,h2,h3⟩
    by_cases q:j=n
    ·subst q;exact absurd h2 hp
    ·exact⟨j,by omega,h2,h3⟩
theorem zxh {p:Int→Bool}{s:Int}:∀ {n:Nat} {x:Int},x∈qf p s n→s≤x∧x<s+n
 | 0,x,h=>by cases h
 | n+1,x,h=>by
  unfold qf at h
  have c:((n+1:Nat):Int)=(n:Int)+1:=rfl
  split at h
  ·rcases List.mem_append.1 h with q | q
   ·have:=zxh q;omega
   ·have:=List.mem_singleton.1 q;omega
  ·have:=zxh h;omega
def kA (n1 n2 k:Int):Int:=if k<0 then -(n2*iMax k (0-k)) else n1*iMax k (0-k)
def kB (n1 n2 k:Int):Int:=if k<0 then -(n1*iMax k (0-k)) else n2*iMax k (0-k)
theorem zxi (k:Int):iMax k (0-k)=(k.natAbs:Int):=by unfold iMax;split<;>omega
theorem kAB {n1 n2 k:Int}{y:Rat}(h1:(n1:Rat)≤y)(h2:y≤(n2:Rat))(hw:n2-n1≤8194)(hk:-4294967296≤k∧k≤4294967296):((kA n1 n2 k:Int):Rat)≤(k:Rat)*y∧(k:Rat)*y≤((kB n1 n2 k:Int):Rat)∧kB n1 n2 k-kA n1 n2 k≤35200000000000:=by
 have w:(n2-n1)*(k.natAbs:Int)≤8194*4294967296:=Int.mul_le_mul hw oO oO oO
 rw[Int.sub_mul] at w
 unfold kA kB
 rw[zxi]
 by_cases q:k<0
 ·rw[if_pos q,if_pos q]
  have e:(k.natAbs:Int)=-k:=by omega
  rw[e] at w ⊢
  have k0:(0:Rat)≤-(k:Rat):=by rw[← Rat.intCast_neg];exact Rat.intCast_nonneg.2 oO
  have m1:=rM h1 k0
  have m2:=rM h2 k0
  simp only [Rat.intCast_neg,Rat.intCast_mul]
  refine⟨by grind,by grind,by omega⟩
 ·rw[if_neg q,if_neg q]
  have e:(k.natAbs:Int)=k:=by omega
  rw[e] at w ⊢
  have k0:(0:Rat)≤(k:Rat):=Rat.intCast_nonneg.2 oO
  have m1:=rM h1 k0
  have m2:=rM h2 k0
  simp only [Rat.intCast_mul]
  refine⟨by grind,by grind,by omega⟩
def Rp (a b:Rat)(w c:Int)(i:Bool):Prop :=
 (i=true→∃ k:Int,(k-c)%4=0∧a*((2^(w+8).toNat:Int):Rat)≤(k:Rat)*cQ*((2^(w+8).toNat:Int):Rat)+1∧(k:Rat)*cQ*((2^(w+8).toNat:Int):Rat)≤b*((2^(w+8).toNat:Int):Rat)+1) ∧
 (i=false→∀ k:Int,(k-c)%4=0→¬ (a≤(k:Rat)*cQ∧(k:Rat)*cQ≤b))
structure QtH (a b T:Rat) (n1 n2 l1 l2 g1 g2:Int):Prop where
 T0:1208925819614629174706176≤T
 c1:(n1:Rat)≤cQ*T
 c2:cQ*T≤(n2:Rat)
 cw:n2-n1≤8194
 a1:(l1:Rat)≤a*T
 a2:a*T≤(l1:Rat)+1
 b2:b*T≤(g2:Rat)
 b1:(g2:Rat)≤b*T+1
 ad:-4294967296≤a∧a≤4294967296
theorem fi_b {a b T:Rat}{n1 n2 l1 l2 g1 g2:Int}(h:QtH a b T n1 n2 l1 l2 g1 g2):0<n1∧(-3000000000≤Int.fdiv l1 n1∧Int.fdiv l1 n1≤3000000000)∧a≤((Int.fdiv l1 n1:Int):Rat)*cQ+2*cQ∧((Int.fdiv l1 n1:Int):Rat)*cQ≤a+cQ:=by
 have cb:=cQ_b
 have T0:0<T:=by have:=h.T0;grind
 have cwR:(n2:Rat)≤(n1:Rat)+8194:=by
  have:(n2:Rat)≤((n1+8194:Int):Rat):=Rat.intCast_le_intCast.2 (by have:=h.cw;omega)
  rw[Rat.intCast_add] at this;exact this
 have m1:=rM cb.1 (Rat.le_of_lt T0)
 have m2:=rM cb.2 (Rat.le_of_lt T0)
 rw[Rat.mul_assoc] at m1 m2
 have c1:=h.c1
 have c2:=h.c2
 have hT:=h.T0
 have N3:3*T≤2*(n1:Rat):=by grind
 have n0:0<n1:=Rat.intCast_pos.1 (show (0:Rat)<(n1:Rat) by grind)
 rw[Int.fdiv_eq_ediv_of_nonneg _ (Int.le_of_lt n0)]
 have f1:=Rat.intCast_le_intCast.2 (Int.ediv_mul_le l1 (show n1≠0 by omega))
 have f2':=Int.lt_ediv_add_one_mul_self l1 n0
 have f2:=Rat.intCast_le_intCast.2 (show l1+1≤(l1 / n1+1)*n1 by omega)
 generalize l1 / n1=q at *
 simp only [Rat.intCast_mul,Rat.intCast_add] at f1 f2
 have o1:((1:Int):Rat)=1:=rfl
 rw[o1] at f2
 have ad1:=rM h.ad.1 (Rat.le_of_lt T0)
 have ad2:=rM h.ad.2 (Rat.le_of_lt T0)
 have a1:=h.a1
 have a2:=h.a2
 have nR:(0:Rat)<(n1:Rat):=Rat.intCast_pos.2 n0
 have q1:q≤3000000000:=by
  refine Decidable.byContradiction fun hn=>?_
  have m:=rM (Rat.intCast_le_intCast.2 (show (3000000000:Int)≤q by omega)) (Rat.le_of_lt nR)
  have m:(3000000000:Rat)*(n1:Rat)≤(q:Rat)*(n1:Rat):=m
  clear f2' f2
  grind
 have q2:-3000000000≤q:=by
  refine Decidable.byContradiction fun hn=>?_
  have z:(q:Rat)+1≤-3000000000:=by
   have:=Rat.intCast_le_intCast.2 (show q+1≤-3000000000 by omega)
   rw[Rat.intCast_add] at this;exact this
  have m:=rM z (Rat.le_of_lt nR)
  clear f2' f1
  grind
 have qa:(q:Rat)≤3000000000:=Rat.intCast_le_intCast.2 q1
 have qb:-3000000000≤(q:Rat):=Rat.intCast_le_intCast.2 q2
 have mb:=zrp (p:=(q:Rat)) (P:=3000000000) (x:=cQ*T-(n1:Rat)) (a:=8194) qb qa (by grind) (by grind)
 have e1:(q:Rat)*(cQ*T-(n1:Rat))=(q:Rat)*(cQ*T)-(q:Rat)*(n1:Rat):=by grind
 rw[e1] at mb
 refine⟨n0,⟨q2,q1⟩,?_,?_⟩
 ·refine Rat.le_of_mul_le_mul_right (c:=T) ?_ T0
  have e2:((q:Rat)*cQ+2*cQ)*T=(q:Rat)*(cQ*T)+2*(cQ*T):=by grind
  have e3:((q:Rat)+1)*(n1:Rat)=(q:Rat)*(n1:Rat)+(n1:Rat):=by grind
  rw[e2]
  rw[e3] at f2
  clear f1 ad1 ad2 e1 e2 e3 f2' m1
  generalize (q:Rat)*(cQ*T)=x at *
  generalize (q:Rat)*(n1:Rat)=y at *
  generalize cQ*T=C at *
  generalize a*T=A at *
  grind
 ·refine Rat.le_of_mul_le_mul_right (c:=T) ?_ T0
  have e2:(q:Rat)*cQ*T=(q:Rat)*(cQ*T):=by grind
  have e3:(a+cQ)*T=a*T+cQ*T:=by grind
  rw[e2,e3]
  clear f2 ad1 ad2 e1 e2 e3 f2' m2
  generalize (q:Rat)*(cQ*T)=x at *
  generalize (q:Rat)*(n1:Rat)=y at *
  generalize cQ*T=C at *
  generalize a*T=A at *
  grind
theorem zxj {a b T:Rat}{n1 n2 l1 l2 g1 g2 w c:Int}{x1 x2:Int→Int}(h:QtH a b T n1 n2 l1 l2 g1 g2)(hT:T=((2^(w+8).toNat:Int):Rat)*4722366482869645213696)
  (h1:∀ k,x1 k=cmpI (kB n1 n2 k) l1) (h2:∀ k,x2 k=cmpI (kA n1 n2 k) g2):Rp a b w c (inL (qf (pmB x1 x2) (Int.fdiv l1 n1-2) 11) c):=by
 obtain⟨n0,⟨fb1,fb2⟩,fa1,fa2⟩:=fi_b h
 have cb:=cQ_b
 have c0:0≤cQ:=by grind
 have T0:0<T:=by have:=h.T0;grind
 have F0:(0:Rat)<((2^(w+8).toNat:Int):Rat):=Rat.intCast_pos.2 (zi5 _)
 generalize hfi:Int.fdiv l1 n1=fi at *
 have pm_iff:∀ k,pmB x1 x2 k=true↔l1≤kB n1 n2 k∧kA n1 n2 k≤g2:=fun k=>by
  have i1:=zgs (kB n1 n2 k) l1
  have i2:=zgs (kA n1 n2 k) g2
  unfold pmB
  rw[h1,h2,Bool.and_eq_true,decide_eq_true_eq,decide_eq_true_eq]
  omega
 constructor
 ·intro hi
  obtain⟨j,hj,hp,hc⟩:=zxg.1 hi
  obtain⟨p1,p2⟩:=(pm_iff _).1 hp
  have ab:=kAB (k:=fi-2+j) h.c1 h.c2 h.cw oO
  refine⟨fi-2+j,hc,?_,?_⟩
  ·have z:(l1:Rat)≤(((fi-2+(j:Int):Int)):Rat)*(cQ*T)+35200000000000:=by
    have u:=Rat.intCast_le_intCast.2 (show l1≤kA n1 n2 (fi-2+j)+35200000000000 by omega)
    rw[Rat.intCast_add] at u
    have u:(l1:Rat)≤((kA n1 n2 (fi-2+j):Int):Rat)+35200000000000:=u
    have:=ab.1
    grind
   have a2:=h.a2
   generalize (((fi-2+(j:Int):Int)):Rat)=k at *
   generalize ((2^(w+8).toNat:Int):Rat)=F at *
   have y:a*T≤k*(cQ*T)+35200000000001:=by grind
   rw[hT] at y
   refine Rat.le_of_mul_le_mul_right (c:=4722366482869645213696) ?_ (by decide)
   have e1:a*F*4722366482869645213696=a*(F*4722366482869645213696):=by grind
   have e2:(k*cQ*F+1)*4722366482869645213696=k*(cQ*(F*4722366482869645213696))+4722366482869645213696:=by grind
   rw[e1,e2]
   grind
  ·have z:(((fi-2+(j:Int):Int)):Rat)*(cQ*T)≤(g2:Rat)+35200000000000:=by
    have u:=Rat.intCast_le_intCast.2 (show kB n1 n2 (fi-2+j)≤g2+35200000000000 by omega)
    rw[Rat.intCast_add] at u
    have u:((kB n1 n2 (fi-2+j):Int):Rat)≤(g2:Rat)+35200000000000:=u
    have:=ab.2.1
    grind
   have b1:=h.b1
   generalize (((fi-2+(j:Int):Int)):Rat)=k at *
   generalize ((2^(w+8).toNat:Int):Rat)=F at *
   have y:k*(cQ*T)≤b*T+35200000000001:=by grind
   rw[hT] at y
   refine Rat.le_of_mul_le_mul_right (c:=4722366482869645213696) ?_ (by decide)
   have e1:(b*F+1)*4722366482869645213696=b*(F*4722366482869645213696)+4722366482869645213696:=by grind
   have e2:k*cQ*F*4722366482869645213696=k*(cQ*(F*4722366482869645213696)):=by grind
   rw[e1,e2]
   grind
 ·intro hi k hk hab
  -- k is at zpi fi-1
  have k1:fi-1≤k:=by
   refine Decidable.byContradiction fun hn=>?_
   have z:(k:Rat)+2≤(fi:Rat):=by
    have:=Rat.intCast_le_intCast.2 (show k+2≤fi by omega)
    rw[Rat.intCast_add] at this;exact this
   have m:=rM z c0
   grind
  have up:∀ k':Int,fi+2≤k'→a≤(k':Rat)*cQ:=fun k' h'=>by
   have z:(fi:Rat)+2≤(k':Rat):=by
    have:=Rat.intCast_le_intCast.2 h'
    rw[Rat.intCast_add] at this;exact this
   have m:=rM z c0
   grind
  have key:∀ k':Int,fi-2≤k'→k'≤fi+8→(k'-c)%4=0→a≤(k':Rat)*cQ→(k':Rat)*cQ≤b→False:=fun k' u1 u2 u3 u4 u5=>by
   have ab:=kAB (k:=k') h.c1 h.c2 h.cw oO
   have v1:=rM u4 (Rat.le_of_lt T0)
   have v2:=rM u5 (Rat.le_of_lt T0)
   rw[Rat.mul_assoc] at v1 v2
   have p:pmB x1 x2 k'=true:=(pm_iff _).2 ⟨Rat.intCast_le_intCast.1 (Rat.le_trans h.a1 (Rat.le_trans v1 ab.2.1)),Rat.intCast_le_intCast.1 (Rat.le_trans ab.1 (Rat.le_trans v2 h.b2))⟩
   have t:inL (qf (pmB x1 x2) (fi-2) 11) c=true:=zxg.2 ⟨(k'-(fi-2)).toNat,by omega,by rw[show fi-2+((k'-(fi-2)).toNat:Int)=k' by omega];exact p,by rw[show fi-2+((k'-(fi-2)).toNat:Int)=k' by omega];exact u3⟩
   rw[t] at hi
   cases hi
  by_cases hb:k≤fi+8
  ·exact key k oO hb hk hab.1 hab.2
  ·have le:(((fi+2+(k-(fi+2))%4:Int)):Rat)≤(k:Rat):=Rat.intCast_le_intCast.2 oO
   have m:=rM le c0
   exact key (fi+2+(k-(fi+2))%4) oO oO oO (up _ oO) (Rat.le_trans m hab.2)
theorem zxk {x1 x2 x3 x4:Int→Int}{s c:Int}{n:Nat}(h:inL (qf (pdB x1 x2 x3 x4) s n) c=true):inL (qf (pmB x1 x2) s n) c=true:=by
 obtain⟨j,h1,h2,h3⟩:=zxg.1 h
 unfold pdB at h2
 rw[Bool.and_eq_true] at h2
 exact zxg.2 ⟨j,h1,h2.1,h3⟩
theorem zxl {a b:Rat}{w c:Int}{g i:Bool}(hp:Tp a b w c g)(hr:Rp a b w c i):(g=false→i=false)∧(g=true→i=false→∃ k:Int,(k-c)%4=0 ∧
  ((0≤a-(k:Rat)*cQ∧(a-(k:Rat)*cQ)*((2^(w+8).toNat:Int):Rat)≤5)∨(0≤(k:Rat)*cQ-b∧((k:Rat)*cQ-b)*((2^(w+8).toNat:Int):Rat)≤5))):=by
 constructor
 ·intro hg
  cases i with
  | false=>rfl
  | true =>
   obtain⟨k,h1,h2,h3⟩:=hr.1 rfl
   rcases hp.2 hg k h1 with q | q
   ·exfalso;grind
   ·exfalso;grind
 ·intro hg hi
  obtain⟨k,h1,h2,h3⟩:=hp.1 hg
  have n:=hr.2 hi k h1
  refine⟨k,h1,?_⟩
  by_cases q:a≤(k:Rat)*cQ
  ·right
   have q2:¬ (k:Rat)*cQ≤b:=fun z=>n ⟨q,z⟩
   have e:((k:Rat)*cQ-b)*((2^(w+8).toNat:Int):Rat)=(k:Rat)*cQ*((2^(w+8).toNat:Int):Rat)-b*((2^(w+8).toNat:Int):Rat):=by grind
   refine⟨by grind,?_⟩
   rw[e];grind
  ·left
   have e:(a-(k:Rat)*cQ)*((2^(w+8).toNat:Int):Rat)=a*((2^(w+8).toNat:Int):Rat)-(k:Rat)*cQ*((2^(w+8).toNat:Int):Rat):=by grind
   refine⟨by grind,?_⟩
   rw[e];grind
theorem zxm {d u F:Rat}{k more:Int}(hm:more=0∨more=1)(hk:k.natAbs≤sM)(hF:256≤F)(u0:0≤u)(uF:u*F≤5)(hu:d-(k:Rat)*cQ=u∨d-(k:Rat)*cQ=-u) :
  ((k-(3-more))%4=0→∃ N,∀ K,N≤K→SC more d K*F≤-F+1+qerr sM*F)∧((k-(1-more))%4=0→∃ N,∀ K,N≤K→F-1-qerr sM*F≤SC more d K*F):=by
 have F0:0<F:=by grind
 have u1:u≤1:=by
  refine Rat.le_of_mul_le_mul_right (c:=F) ?_ F0
  grind
 have uu:u*u*F≤1:=by
  have m:=Rat.mul_le_mul_of_nonneg_left uF u0
  have m2:u*256≤5:=Rat.le_trans (Rat.mul_le_mul_of_nonneg_left hF u0) uF
  have e:u*u*F=u*(u*F):=by grind
  rw[e]
  grind
 obtain⟨N,h⟩:=zu5 d k more hm hk (by decide)
 have cs:∀ K,3≤K→1-u*u≤CS (d-(k:Rat)*cQ) K:=fun K hK=>by
  have s:=(zsy u0 u1 hK).1
  rcases hu with e | e
  ·rw[e];exact s
  ·rw[e,zsn];exact s
 constructor
 ·intro hc
  have j:(k+more)%4=3:=by omega
  refine⟨N+3,fun K hK=>?_⟩
  have a:=(h K oO).1
  have b:=cs K oO
  rw[j,zty] at a
  have m:=rM (show SC more d K≤-1+u*u+qerr sM by grind) (Rat.le_of_lt F0)
  grind
 ·intro hc
  have j:(k+more)%4=1:=by omega
  refine⟨N+3,fun K hK=>?_⟩
  have a:=(h K oO).2
  have b:=cs K oO
  rw[j,ztw] at a
  have m:=rM (show 1-u*u-qerr sM≤SC more d K by grind) (Rat.le_of_lt F0)
  grind
theorem zxn (more:Int)(d:Rat){e:Rat}(he:0<e):∃ N,∀ K,N≤K→-(1+e)≤SC more d K∧SC more d K≤1+e:=by
 obtain⟨N,h⟩:=zst d he
 refine⟨N,fun K hK=>?_⟩
 unfold SC
 split
 ·exact (h K hK).2
 ·exact (h K hK).1
theorem zxo {more:Int}{d:Rat}{s:Nat}{lo hi:Int}{g:Rat}(hg:2*g≤1)(h:EnE (SC more d) s lo hi g):lo≤2^s∧-(2^s)≤hi:=by
 have P:(0:Rat)<((2^s:Int):Rat):=Rat.intCast_pos.2 (zi5 s)
 have i0:=Rat.inv_pos.2 P
 have ie:=zrq P
 obtain⟨N,h⟩:=h
 obtain⟨M,o⟩:=zxn more d (Rat.mul_pos i0 (show (0:Rat)<1 / 4 from of_decide_eq_true (by kernel_rfl)))
 have h:=h (N+M) oO
 have o:=o (N+M) oO
 have m1:=rM o.1 (Rat.le_of_lt P)
 have m2:=rM o.2 (Rat.le_of_lt P)
 have e:(1+(((2^s:Int):Rat))⁻¹*(1 / 4))*((2^s:Int):Rat)=((2^s:Int):Rat)+1 / 4:=by grind
 rw[Rat.neg_mul,e] at m1
 rw[e] at m2
 constructor
 ·refine zs2 (X:=SC more d (N+M)*((2^s:Int):Rat)+g) (Y:=((2^s:Int):Rat)) h.1 Rat.le_refl ?_
  grind
 ·refine zs2 (X:=-((2^s:Int):Rat)) (Y:=SC more d (N+M)*((2^s:Int):Rat)-g) (by rw[Rat.intCast_neg];exact Rat.le_refl) (by have:=h.2;grind) ?_
  grind
end Go.Proofs.YtcbihoojfakhdaaGreatDoor



namespace Go.Proofs.YtcbihoojfakhdaaGreatDoor
theorem zxp {m e n f:Int}(h1:vdb m e=true)(h2:vdb n f=true)(he:-65536≤e∧e≤65536)(hf:-65536≤f∧f≤65536)(h:dv m e=dv n f):e=f∧m=n:=by
 have a:=zni h (by omega) (by omega)
 rw[(znl h1).1,(znl h1).2.1,(znl h2).1,(znl h2).2.1] at a
 exact⟨a.2.1,a.1⟩
end Go.Proofs.YtcbihoojfakhdaaGreatDoor
