/-
  Lower layers: what functions of the program compute, and plain facts. Conditions: as the theorems say.
-/
import Derived.Test.YtkkbddkpggjgpaaGreatDoorChecked
import Derived.Test.YtkkbddkpggjgpaaGreatDoorRows
import Derived.WalkKit
import Derived.ProofKit
import Derived.OpenShut
import Derived.Deep.DeepHandedRow
import Derived.Lib.LaidTab
import Derived.Lib.SmallJoins
import Derived.ChangeSlices
import Derived.Carry
import Derived.Test.YtkkbddkpggjgpaaGreatDoorCards
import Derived.Test.YtkkbddkpggjgpaaGreatDoorTie
import Derived.Test.YtkkbddkpggjgpaaGreatDoorPfV
set_option linter.unusedVariables false
set_option linter.unusedSimpArgs false
namespace Go.Proofs.YtkkbddkpggjgpaaGreatDoor
open Go.RowKit
set_option maxRecDepth 100000
set_option maxHeartbeats 2000000
theorem l16_RecipsBG (n w vy0a vy0b vy0c vy0d vx0a vx0b vx0c vx0d vz0a vz0b vz0c vz0d vt0a vt0b vt0c vt0d vy1a vy1b vy1c vy1d vx1a vx1b vx1c vx1d vz1a vz1b vz1c vz1d vt1a vt1b vt1c vt1d vy2a vy2b vy2c vy2d vx2a vx2b vx2c vx2d vz2a vz2b vz2c vz2d vt2a vt2b vt2c vt2d:Int)(qa:Rat)(qm0:Rat)(qt0:Rat)(qm1:Rat)(qt1:Rat)(qm2:Rat)(qt2:Rat)(c0:(-9223372036854775808:Int)≤n∧n≤9223372036854775807)(c1:(-9223372036854775808:Int)≤w∧w≤9223372036854775807)(c2:Impl Tryz.prog Amb 11 [] (.bool true))(c3:Impl Tryz.prog Amb 26 [(.int .i64 5),(.int .i64 (-1))] (.tup [(.agg [(.bool false),.nil,(.int .i64 0),(.bool false),.nil,(.int .i64 0)]),(.int .i64 1)]))(c4:Impl Tryz.prog Amb 26 [(.int .i64 5),(.int .i64 4097)] (.tup [(.agg [(.bool false),.nil,(.int .i64 0),(.bool false),.nil,(.int .i64 0)]),(.int .i64 1)]))(c5:n<2∨1000000<n)(c6:n%3≠2)(c7:Impl Tryz.prog Amb 26 [(.int .i64 n),(.int .i64 (w%120))] (.tup [(.agg [(.bool false),.nil,(.int .i64 0),(.bool false),.nil,(.int .i64 0)]),(.int .i64 1)]))(c8:Impl Tryz.prog Amb 27 [(.agg [(.bool false),.nil,(.int .i64 0),(.bool false),.nil,(.int .i64 0)]),(.agg [(.bool false),.nil,(.int .i64 0),(.bool false),.nil,(.int .i64 0)])] (.bool true))(c9:Impl Tryz.prog Amb 26 [(.int .i64 ((2:Int)+(n%300))),(.int .i64 (w%120))] (.tup [(wV vy1a vy1b vy1c vy1d),(.int .i64 0)]))(c10:Impl Tryz.prog Amb 29 [(.int .i64 1)] (.agg [(.bool (decide (qa.num<0))),(N qa.num.natAbs),(N qa.den)]))(c11:Impl Tryz.prog Amb 29 [(.int .i64 ((2:Int)+(n%300)))] (.agg [(.bool (decide (qm1.num<0))),(N qm1.num.natAbs),(N qm1.den)]))(c12:Impl Tryz.prog Amb 28 [(.agg [(.bool (decide (qa.num<0))),(N qa.num.natAbs),(N qa.den)]),(.agg [(.bool (decide (qm1.num<0))),(N qm1.num.natAbs),(N qm1.den)])] (.tup [(.agg [(.bool (decide (qt1.num<0))),(N qt1.num.natAbs),(N qt1.den)]),(.int .i64 0)]))(c13:Impl Tryz.prog Amb 30 [(.agg [(.bool (decide (qt1.num<0))),(N qt1.num.natAbs),(N qt1.den)]),(.int .i64 ((w%120)+20))] (.tup [(wV vx1a vx1b vx1c vx1d),(.int .i64 0)]))(c14:Impl Tryz.prog Amb 15 [(wV vx1a vx1b vx1c vx1d),(.int .i64 (w%120))] (.tup [(wV vz1a vz1b vz1c vz1d),(.int .i64 0)]))(c15:Impl Tryz.prog Amb 31 [(wV vy1a vy1b vy1c vy1d),(.int .i64 (w%120))] (.bool true))(c16:Impl Tryz.prog Amb 33 [(.int .i64 ((2:Int)+(n%300))),(.int .i64 (w%120))] (wV vt1a vt1b vt1c vt1d))(c17:Impl Tryz.prog Amb 32 [(wV vy1a vy1b vy1c vy1d),(wV vt1a vt1b vt1c vt1d)] (.bool true))(c18:Impl Tryz.prog Amb 21 [(wV vy1a vy1b vy1c vy1d),(wV vz1a vz1b vz1c vz1d)] (.int .i64 0))(c19:Impl Tryz.prog Amb 26 [(.int .i64 ((999999:Int)+(n%3))),(.int .i64 (w%120))] (.tup [(wV vy2a vy2b vy2c vy2d),(.int .i64 0)]))(c20:Impl Tryz.prog Amb 29 [(.int .i64 ((999999:Int)+(n%3)))] (.agg [(.bool (decide (qm2.num<0))),(N qm2.num.natAbs),(N qm2.den)]))(c21:Impl Tryz.prog Amb 28 [(.agg [(.bool (decide (qa.num<0))),(N qa.num.natAbs),(N qa.den)]),(.agg [(.bool (decide (qm2.num<0))),(N qm2.num.natAbs),(N qm2.den)])] (.tup [(.agg [(.bool (decide (qt2.num<0))),(N qt2.num.natAbs),(N qt2.den)]),(.int .i64 0)]))(c22:Impl Tryz.prog Amb 30 [(.agg [(.bool (decide (qt2.num<0))),(N qt2.num.natAbs),(N qt2.den)]),(.int .i64 ((w%120)+20))] (.tup [(wV vx2a vx2b vx2c vx2d),(.int .i64 0)]))(c23:Impl Tryz.prog Amb 15 [(wV vx2a vx2b vx2c vx2d),(.int .i64 (w%120))] (.tup [(wV vz2a vz2b vz2c vz2d),(.int .i64 0)]))(c24:Impl Tryz.prog Amb 31 [(wV vy2a vy2b vy2c vy2d),(.int .i64 (w%120))] (.bool true))(c25:Impl Tryz.prog Amb 33 [(.int .i64 ((999999:Int)+(n%3))),(.int .i64 (w%120))] (wV vt2a vt2b vt2c vt2d))(c26:Impl Tryz.prog Amb 32 [(wV vy2a vy2b vy2c vy2d),(wV vt2a vt2b vt2c vt2d)] (.bool true))(c27:Impl Tryz.prog Amb 21 [(wV vy2a vy2b vy2c vy2d),(wV vz2a vz2b vz2c vz2d)] (.int .i64 0)):Impl Tryz.prog Amb 7 [(.int .i64 n),(.int .i64 w)] (.bool true):=by
 have m1:=Int.emod_nonneg n (show (300:Int)≠0 by omega)
 have m2:=Int.emod_lt_of_pos n (show (0:Int)<300 by omega)
 have m3:=Int.emod_nonneg n (show (3:Int)≠0 by omega)
 have m4:=Int.emod_lt_of_pos n (show (0:Int)<3 by omega)
 exact impl_ob hP hAmb Tryz.func7 (by kernel_rfl) (.lit<|.call (.bool true)<|.lits 3<|.call (.int .i64 (w%120))<|.lit<|.call (.int .i64 (n%300))<|.lit<|.yes<|.lit<|.call (.int .i64 (n%3))<|.lit<|.yes<|.loop ⟨[5,31,32,33],1,[]⟩ ((l16_RecipsBG_0_mk n w vy0a vy0b vy0c vy0d vx0a vx0b vx0c vx0d vz0a vz0b vz0c vz0d vt0a vt0b vt0c vt0d vy1a vy1b vy1c vy1d vx1a vx1b vx1c vx1d vz1a vz1b vz1c vz1d vt1a vt1b vt1c vt1d vy2a vy2b vy2c vy2d vx2a vx2b vx2c vx2d vz2a vz2b vz2c vz2d vt2a vt2b vt2c vt2d qa qm0 qt0 qm1 qt1 qm2 qt2 (Sum.inl (0:Int)))) (Int) (l16_RecipsBG_0_ex n w vy0a vy0b vy0c vy0d vx0a vx0b vx0c vx0d vz0a vz0b vz0c vz0d vt0a vt0b vt0c vt0d vy1a vy1b vy1c vy1d vx1a vx1b vx1c vx1d vz1a vz1b vz1c vz1d vt1a vt1b vt1c vt1d vy2a vy2b vy2c vy2d vx2a vx2b vx2c vx2d vz2a vz2b vz2c vz2d vt2a vt2b vt2c vt2d qa qm0 qt0 qm1 qt1 qm2 qt2) (l16_RecipsBG_0_J n w vy0a vy0b vy0c vy0d vx0a vx0b vx0c vx0d vz0a vz0b vz0c vz0d vt0a vt0b vt0c vt0d vy1a vy1b vy1c vy1d vx1a vx1b vx1c vx1d vz1a vz1b vz1c vz1d vt1a vt1b vt1c vt1d vy2a vy2b vy2c vy2d vx2a vx2b vx2c vx2d vz2a vz2b vz2c vz2d vt2a vt2b vt2c vt2d qa qm0 qt0 qm1 qt1 qm2 qt2) (fun y=>.lit<|.call (.tup [(.agg [(.bool false),.nil,(.int .i64 0),(.bool false),.nil,(.int .i64 0)]),(.int .i64 1)])<|.lits 2<|.call (.tup [(.agg [(.bool false),.nil,(.int .i64 0),(.bool false),.nil,(.int .i64 0)]),(.int .i64 1)])<|.lits 7<|.ret))
  (cast_ob (aI True.intro (aI (c2 ) (aI (mill_Mod w 120 oS oS) (have f6:=Int.emod_lt_of_pos w (show (0:Int)<120 by first | omega | assumption);have f5:=Int.emod_nonneg w (show (120:Int)≠0 by first | omega | assumption);aI (mill_Mod n 300 oS oS) (have f4:=Int.emod_lt_of_pos n (show (0:Int)<300 by first | omega | assumption);have f3:=Int.emod_nonneg n (show (300:Int)≠0 by first | omega | assumption);aI (fits_i64 oS:(fits .i64 ((2:Int)+(n%300)))=true) (aI (mill_Mod n 3 oS oS) (have f2:=Int.emod_lt_of_pos n (show (0:Int)<3 by first | omega | assumption);have f1:=Int.emod_nonneg n (show (3:Int)≠0 by first | omega | assumption);aI (fits_i64 oS:(fits .i64 ((999999:Int)+(n%3)))=true) (aI tT (aI (rfl:(l16_RecipsBG_0_mk n w vy0a vy0b vy0c vy0d vx0a vx0b vx0c vx0d vz0a vz0b vz0c vz0d vt0a vt0b vt0c vt0d vy1a vy1b vy1c vy1d vx1a vx1b vx1c vx1d vz1a vz1b vz1c vz1d vt1a vt1b vt1c vt1d vy2a vy2b vy2c vy2d vx2a vx2b vx2c vx2d vz2a vz2b vz2c vz2d vt2a vt2b vt2c vt2d qa qm0 qt0 qm1 qt1 qm2 qt2 (Sum.inl (0:Int)))=(l16_RecipsBG_0_mk n w vy0a vy0b vy0c vy0d vx0a vx0b vx0c vx0d vz0a vz0b vz0c vz0d vt0a vt0b vt0c vt0d vy1a vy1b vy1c vy1d vx1a vx1b vx1c vx1d vz1a vz1b vz1c vz1d vt1a vt1b vt1c vt1d vy2a vy2b vy2c vy2d vx2a vx2b vx2c vx2d vz2a vz2b vz2c vz2d vt2a vt2b vt2c vt2d qa qm0 qt0 qm1 qt1 qm2 qt2 (Sum.inl (0:Int)))) (aI (l16_RecipsBG_0 n w vy0a vy0b vy0c vy0d vx0a vx0b vx0c vx0d vz0a vz0b vz0c vz0d vt0a vt0b vt0c vt0d vy1a vy1b vy1c vy1d vx1a vx1b vx1c vx1d vz1a vz1b vz1c vz1d vt1a vt1b vt1c vt1d vy2a vy2b vy2c vy2d vx2a vx2b vx2c vx2d vz2a vz2b vz2c vz2d vt2a vt2b vt2c vt2d qa qm0 qt0 qm1 qt1 qm2 qt2 c0 c1 c2 c3 c4 c5 c6 c7 c8 c9 c10 c11 c12 c13 c14 c15 c16 c17 c18 c19 c20 c21 c22 c23 c24 c25 c26 c27 (Sum.inl (0:Int)) (show (0:Int)=(0:Int) from rfl)) (fun y (hJ:l16_RecipsBG_0_J n w vy0a vy0b vy0c vy0d vx0a vx0b vx0c vx0d vz0a vz0b vz0c vz0d vt0a vt0b vt0c vt0d vy1a vy1b vy1c vy1d vx1a vx1b vx1c vx1d vz1a vz1b vz1c vz1d vt1a vt1b vt1c vt1d vy2a vy2b vy2c vy2d vx2a vx2b vx2c vx2d vz2a vz2b vz2c vz2d vt2a vt2b vt2c vt2d qa qm0 qt0 qm1 qt1 qm2 qt2 y)=>have hJ:y=y:=hJ;aI (c3 ) (aI (c4 ) ((vsub_refl (.bool true))))))))))))))) (by kernel_rfl))
def l16_RecipsBB_0_mk (n w _ _ _ _ _ _ _ _ _ _ _ _ _ _ _ _ _ _ _ _ _ _ _ _ _ _ _ _ _ _ _ _ _ _ _ _ _ _ _ _ _ _ _ _ _ _ _ _:Int)(_ _ _ _ _ _ _:Rat)(x:(Int)⊕((Int)⊕((Int)⊕(Int)))):St:=Sum.elim (fun (x:Int)=>⟨mkS 122 [(5,(.val (.int .i64 (w%120)))),(31,(.osl 0 0 3 1)),(32,(.val (.int .i64 3))),(33,(.val (.int .i64 0)))],[⟨true,false,[(V.int .i64 n),(V.int .i64 ((2:Int)+(n%300))),(V.int .i64 ((999999:Int)+(n%3)))]⟩]⟩) (fun (x:(Int)⊕((Int)⊕(Int)))=>Sum.elim (fun (x:Int)=>⟨mkS 122 [(5,(.val (.int .i64 (w%120)))),(31,(.osl 0 0 3 1)),(32,(.val (.int .i64 3))),(33,(.val (.int .i64 1)))],[⟨true,false,[(V.int .i64 n),(V.int .i64 ((2:Int)+(n%300))),(V.int .i64 ((999999:Int)+(n%3)))]⟩]⟩) (fun (x:(Int)⊕(Int))=>Sum.elim (fun (x:Int)=>⟨mkS 122 [(5,(.val (.int .i64 (w%120)))),(31,(.osl 0 0 3 1)),(32,(.val (.int .i64 3))),(33,(.val (.int .i64 2)))],[⟨true,false,[(V.int .i64 n),(V.int .i64 ((2:Int)+(n%300))),(V.int .i64 ((999999:Int)+(n%3)))]⟩]⟩) (fun (x:Int)=>⟨mkS 122 [(5,(.val (.int .i64 (w%120)))),(31,(.osl 0 0 3 1)),(32,(.val (.int .i64 3))),(33,(.val (.int .i64 3)))],[⟨true,false,[(V.int .i64 n),(V.int .i64 ((2:Int)+(n%300))),(V.int .i64 ((999999:Int)+(n%3)))]⟩]⟩) x) x) x
def l16_RecipsBB_0_I (_ _ _ _ _ _ _ _ _ _ _ _ _ _ _ _ _ _ _ _ _ _ _ _ _ _ _ _ _ _ _ _ _ _ _ _ _ _ _ _ _ _ _ _ _ _ _ _ _ _:Int)(_ _ _ _ _ _ _:Rat)(x:(Int)⊕((Int)⊕((Int)⊕(Int)))):Prop:=Sum.elim (fun (x:Int)=>x=x) (fun (x:(Int)⊕((Int)⊕(Int)))=>Sum.elim (fun (x:Int)=>x=x) (fun (x:(Int)⊕(Int))=>Sum.elim (fun (x:Int)=>x=x) (fun (x:Int)=>x=x) x) x) x
def l16_RecipsBB_0_mu (_ _ _ _ _ _ _ _ _ _ _ _ _ _ _ _ _ _ _ _ _ _ _ _ _ _ _ _ _ _ _ _ _ _ _ _ _ _ _ _ _ _ _ _ _ _ _ _ _ _:Int)(_ _ _ _ _ _ _:Rat)(x:(Int)⊕((Int)⊕((Int)⊕(Int)))):Nat:=Sum.elim (fun (x:Int)=>9-0) (fun (x:(Int)⊕((Int)⊕(Int)))=>Sum.elim (fun (x:Int)=>9-1) (fun (x:(Int)⊕(Int))=>Sum.elim (fun (x:Int)=>9-2) (fun (x:Int)=>9-3) x) x) x
def l16_RecipsBB_0_ex (_ _ _ _ _ _ _ _ _ _ _ _ _ _ _ _ _ _ _ _ _ _ _ _ _ _ _ _ _ _ _ _ _ _ _ _ _ _ _ _ _ _ _ _ _ _ _ _ _ _:Int)(_ _ _ _ _ _ _:Rat)(y:Int):Ex × St:=(.exit 0,⟨mkS 122 [],[]⟩)
def l16_RecipsBB_0_J (_ _ _ _ _ _ _ _ _ _ _ _ _ _ _ _ _ _ _ _ _ _ _ _ _ _ _ _ _ _ _ _ _ _ _ _ _ _ _ _ _ _ _ _ _ _ _ _ _ _:Int)(_ _ _ _ _ _ _:Rat)(y:Int):Prop:=y=y
abbrev l16_RecipsBB_0_N (n w vy0a vy0b vy0c vy0d vx0a vx0b vx0c vx0d vz0a vz0b vz0c vz0d vt0a vt0b vt0c vt0d vy1a vy1b vy1c vy1d vx1a vx1b vx1c vx1d vz1a vz1b vz1c vz1d vt1a vt1b vt1c vt1d vy2a vy2b vy2c vy2d vx2a vx2b vx2c vx2d vz2a vz2b vz2c vz2d vt2a vt2b vt2c vt2d:Int)(qa qm0 qt0 qm1 qt1 qm2 qt2:Rat):=NX (l16_RecipsBB_0_mk n w vy0a vy0b vy0c vy0d vx0a vx0b vx0c vx0d vz0a vz0b vz0c vz0d vt0a vt0b vt0c vt0d vy1a vy1b vy1c vy1d vx1a vx1b vx1c vx1d vz1a vz1b vz1c vz1d vt1a vt1b vt1c vt1d vy2a vy2b vy2c vy2d vx2a vx2b vx2c vx2d vz2a vz2b vz2c vz2d vt2a vt2b vt2c vt2d qa qm0 qt0 qm1 qt1 qm2 qt2) (l16_RecipsBB_0_I n w vy0a vy0b vy0c vy0d vx0a vx0b vx0c vx0d vz0a vz0b vz0c vz0d vt0a vt0b vt0c vt0d vy1a vy1b vy1c vy1d vx1a vx1b vx1c vx1d vz1a vz1b vz1c vz1d vt1a vt1b vt1c vt1d vy2a vy2b vy2c vy2d vx2a vx2b vx2c vx2d vz2a vz2b vz2c vz2d vt2a vt2b vt2c vt2d qa qm0 qt0 qm1 qt1 qm2 qt2) (l16_RecipsBB_0_mu n w vy0a vy0b vy0c vy0d vx0a vx0b vx0c vx0d vz0a vz0b vz0c vz0d vt0a vt0b vt0c vt0d vy1a vy1b vy1c vy1d vx1a vx1b vx1c vx1d vz1a vz1b vz1c vz1d vt1a vt1b vt1c vt1d vy2a vy2b vy2c vy2d vx2a vx2b vx2c vx2d vz2a vz2b vz2c vz2d vt2a vt2b vt2c vt2d qa qm0 qt0 qm1 qt1 qm2 qt2) (l16_RecipsBB_0_ex n w vy0a vy0b vy0c vy0d vx0a vx0b vx0c vx0d vz0a vz0b vz0c vz0d vt0a vt0b vt0c vt0d vy1a vy1b vy1c vy1d vx1a vx1b vx1c vx1d vz1a vz1b vz1c vz1d vt1a vt1b vt1c vt1d vy2a vy2b vy2c vy2d vx2a vx2b vx2c vx2d vz2a vz2b vz2c vz2d vt2a vt2b vt2c vt2d qa qm0 qt0 qm1 qt1 qm2 qt2) (l16_RecipsBB_0_J n w vy0a vy0b vy0c vy0d vx0a vx0b vx0c vx0d vz0a vz0b vz0c vz0d vt0a vt0b vt0c vt0d vy1a vy1b vy1c vy1d vx1a vx1b vx1c vx1d vz1a vz1b vz1c vz1d vt1a vt1b vt1c vt1d vy2a vy2b vy2c vy2d vx2a vx2b vx2c vx2d vz2a vz2b vz2c vz2d vt2a vt2b vt2c vt2d qa qm0 qt0 qm1 qt1 qm2 qt2)
theorem l16_RecipsBB_0 (n w vy0a vy0b vy0c vy0d vx0a vx0b vx0c vx0d vz0a vz0b vz0c vz0d vt0a vt0b vt0c vt0d vy1a vy1b vy1c vy1d vx1a vx1b vx1c vx1d vz1a vz1b vz1c vz1d vt1a vt1b vt1c vt1d vy2a vy2b vy2c vy2d vx2a vx2b vx2c vx2d vz2a vz2b vz2c vz2d vt2a vt2b vt2c vt2d:Int)(qa qm0 qt0 qm1 qt1 qm2 qt2:Rat)(c0:(-9223372036854775808:Int)≤n∧n≤9223372036854775807)(c1:(-9223372036854775808:Int)≤w∧w≤9223372036854775807)(c2:Impl Tryz.prog Amb 11 [] (.bool true))(c3:Impl Tryz.prog Amb 26 [(.int .i64 5),(.int .i64 (-1))] (.tup [(.agg [(.bool false),.nil,(.int .i64 0),(.bool false),.nil,(.int .i64 0)]),(.int .i64 1)]))(c4:Impl Tryz.prog Amb 26 [(.int .i64 5),(.int .i64 4097)] (.tup [(.agg [(.bool false),.nil,(.int .i64 0),(.bool false),.nil,(.int .i64 0)]),(.int .i64 1)]))(c5:n<2∨1000000<n)(c6:n%3=2)(c7:Impl Tryz.prog Amb 26 [(.int .i64 n),(.int .i64 (w%120))] (.tup [(.agg [(.bool false),.nil,(.int .i64 0),(.bool false),.nil,(.int .i64 0)]),(.int .i64 1)]))(c8:Impl Tryz.prog Amb 27 [(.agg [(.bool false),.nil,(.int .i64 0),(.bool false),.nil,(.int .i64 0)]),(.agg [(.bool false),.nil,(.int .i64 0),(.bool false),.nil,(.int .i64 0)])] (.bool true))(c9:Impl Tryz.prog Amb 26 [(.int .i64 ((2:Int)+(n%300))),(.int .i64 (w%120))] (.tup [(wV vy1a vy1b vy1c vy1d),(.int .i64 0)]))(c10:Impl Tryz.prog Amb 29 [(.int .i64 1)] (.agg [(.bool (decide (qa.num<0))),(N qa.num.natAbs),(N qa.den)]))(c11:Impl Tryz.prog Amb 29 [(.int .i64 ((2:Int)+(n%300)))] (.agg [(.bool (decide (qm1.num<0))),(N qm1.num.natAbs),(N qm1.den)]))(c12:Impl Tryz.prog Amb 28 [(.agg [(.bool (decide (qa.num<0))),(N qa.num.natAbs),(N qa.den)]),(.agg [(.bool (decide (qm1.num<0))),(N qm1.num.natAbs),(N qm1.den)])] (.tup [(.agg [(.bool (decide (qt1.num<0))),(N qt1.num.natAbs),(N qt1.den)]),(.int .i64 0)]))(c13:Impl Tryz.prog Amb 30 [(.agg [(.bool (decide (qt1.num<0))),(N qt1.num.natAbs),(N qt1.den)]),(.int .i64 ((w%120)+20))] (.tup [(wV vx1a vx1b vx1c vx1d),(.int .i64 0)]))(c14:Impl Tryz.prog Amb 15 [(wV vx1a vx1b vx1c vx1d),(.int .i64 (w%120))] (.tup [(wV vz1a vz1b vz1c vz1d),(.int .i64 0)]))(c15:Impl Tryz.prog Amb 31 [(wV vy1a vy1b vy1c vy1d),(.int .i64 (w%120))] (.bool true))(c16:Impl Tryz.prog Amb 33 [(.int .i64 ((2:Int)+(n%300))),(.int .i64 (w%120))] (wV vt1a vt1b vt1c vt1d))(c17:Impl Tryz.prog Amb 32 [(wV vy1a vy1b vy1c vy1d),(wV vt1a vt1b vt1c vt1d)] (.bool true))(c18:Impl Tryz.prog Amb 21 [(wV vy1a vy1b vy1c vy1d),(wV vz1a vz1b vz1c vz1d)] (.int .i64 0))(c19:Impl Tryz.prog Amb 26 [(.int .i64 ((999999:Int)+(n%3))),(.int .i64 (w%120))] (.tup [(.agg [(.bool false),.nil,(.int .i64 0),(.bool false),.nil,(.int .i64 0)]),(.int .i64 1)]))(x0:(Int)⊕((Int)⊕((Int)⊕(Int))))(hI:l16_RecipsBB_0_I n w vy0a vy0b vy0c vy0d vx0a vx0b vx0c vx0d vz0a vz0b vz0c vz0d vt0a vt0b vt0c vt0d vy1a vy1b vy1c vy1d vx1a vx1b vx1c vx1d vz1a vz1b vz1c vz1d vt1a vt1b vt1c vt1d vy2a vy2b vy2c vy2d vx2a vx2b vx2c vx2d vz2a vz2b vz2c vz2d vt2a vt2b vt2c vt2d qa qm0 qt0 qm1 qt1 qm2 qt2 x0):LoopOk Tryz.prog Amb (loopN Tryz.f7 0) (l16_RecipsBB_0_mk n w vy0a vy0b vy0c vy0d vx0a vx0b vx0c vx0d vz0a vz0b vz0c vz0d vt0a vt0b vt0c vt0d vy1a vy1b vy1c vy1d vx1a vx1b vx1c vx1d vz1a vz1b vz1c vz1d vt1a vt1b vt1c vt1d vy2a vy2b vy2c vy2d vx2a vx2b vx2c vx2d vz2a vz2b vz2c vz2d vt2a vt2b vt2c vt2d qa qm0 qt0 qm1 qt1 qm2 qt2 x0) (fun e st_=>∃ y,l16_RecipsBB_0_J n w vy0a vy0b vy0c vy0d vx0a vx0b vx0c vx0d vz0a vz0b vz0c vz0d vt0a vt0b vt0c vt0d vy1a vy1b vy1c vy1d vx1a vx1b vx1c vx1d vz1a vz1b vz1c vz1d vt1a vt1b vt1c vt1d vy2a vy2b vy2c vy2d vx2a vx2b vx2c vx2d vz2a vz2b vz2c vz2d vt2a vt2b vt2c vt2d qa qm0 qt0 qm1 qt1 qm2 qt2 y∧l16_RecipsBB_0_ex n w vy0a vy0b vy0c vy0d vx0a vx0b vx0c vx0d vz0a vz0b vz0c vz0d vt0a vt0b vt0c vt0d vy1a vy1b vy1c vy1d vx1a vx1b vx1c vx1d vz1a vz1b vz1c vz1d vt1a vt1b vt1c vt1d vy2a vy2b vy2c vy2d vx2a vx2b vx2c vx2d vz2a vz2b vz2c vz2d vt2a vt2b vt2c vt2d qa qm0 qt0 qm1 qt1 qm2 qt2 y=(e,st_)) :=
 loop_ob hP hAmb ⟨[5,31,32,33],1,[]⟩ (l16_RecipsBB_0_mk n w vy0a vy0b vy0c vy0d vx0a vx0b vx0c vx0d vz0a vz0b vz0c vz0d vt0a vt0b vt0c vt0d vy1a vy1b vy1c vy1d vx1a vx1b vx1c vx1d vz1a vz1b vz1c vz1d vt1a vt1b vt1c vt1d vy2a vy2b vy2c vy2d vx2a vx2b vx2c vx2d vz2a vz2b vz2c vz2d vt2a vt2b vt2c vt2d qa qm0 qt0 qm1 qt1 qm2 qt2) (l16_RecipsBB_0_I n w vy0a vy0b vy0c vy0d vx0a vx0b vx0c vx0d vz0a vz0b vz0c vz0d vt0a vt0b vt0c vt0d vy1a vy1b vy1c vy1d vx1a vx1b vx1c vx1d vz1a vz1b vz1c vz1d vt1a vt1b vt1c vt1d vy2a vy2b vy2c vy2d vx2a vx2b vx2c vx2d vz2a vz2b vz2c vz2d vt2a vt2b vt2c vt2d qa qm0 qt0 qm1 qt1 qm2 qt2) (l16_RecipsBB_0_mu n w vy0a vy0b vy0c vy0d vx0a vx0b vx0c vx0d vz0a vz0b vz0c vz0d vt0a vt0b vt0c vt0d vy1a vy1b vy1c vy1d vx1a vx1b vx1c vx1d vz1a vz1b vz1c vz1d vt1a vt1b vt1c vt1d vy2a vy2b vy2c vy2d vx2a vx2b vx2c vx2d vz2a vz2b vz2c vz2d vt2a vt2b vt2c vt2d qa qm0 qt0 qm1 qt1 qm2 qt2) (l16_RecipsBB_0_ex n w vy0a vy0b vy0c vy0d vx0a vx0b vx0c vx0d vz0a vz0b vz0c vz0d vt0a vt0b vt0c vt0d vy1a vy1b vy1c vy1d vx1a vx1b vx1c vx1d vz1a vz1b vz1c vz1d vt1a vt1b vt1c vt1d vy2a vy2b vy2c vy2d vx2a vx2b vx2c vx2d vz2a vz2b vz2c vz2d vt2a vt2b vt2c vt2d qa qm0 qt0 qm1 qt1 qm2 qt2) (l16_RecipsBB_0_J n w vy0a vy0b vy0c vy0d vx0a vx0b vx0c vx0d vz0a vz0b vz0c vz0d vt0a vt0b vt0c vt0d vy1a vy1b vy1c vy1d vx1a vx1b vx1c vx1d vz1a vz1b vz1c vz1d vt1a vt1b vt1c vt1d vy2a vy2b vy2c vy2d vx2a vx2b vx2c vx2d vz2a vz2b vz2c vz2d vt2a vt2b vt2c vt2d qa qm0 qt0 qm1 qt1 qm2 qt2) x0 hI (Sum.elim (fun u=>.lits 5<|.call (.tup [(.agg [(.bool false),.nil,(.int .i64 0),(.bool false),.nil,(.int .i64 0)]),(.int .i64 1)])<|.lits 2<|.both (.lits 10<|.call (.bool true)<|.lits 5<|.yes<|.fin3 ⟨[5,31,32,33],[0]⟩) (.lits 3<|.yes<|.lits 7<|.call (.bool true)<|.lits 5<|.yes<|.fin3 ⟨[5,31,32,33],[0]⟩)) (Sum.elim (fun u=>.lits 5<|.call (.tup [(wV vy1a vy1b vy1c vy1d),(.int .i64 0)])<|.lits 2<|.no<|.lits 3<|.no<|.lit<|.call (.agg [(.bool (decide (qa.num<0))),(N qa.num.natAbs),(N qa.den)])<|.lit<|.call (.agg [(.bool (decide (qm1.num<0))),(N qm1.num.natAbs),(N qm1.den)])<|.lit<|.call (.tup [(.agg [(.bool (decide (qt1.num<0))),(N qt1.num.natAbs),(N qt1.den)]),(.int .i64 0)])<|.lits 3<|.yes<|.lit<|.call (.tup [(wV vx1a vx1b vx1c vx1d),(.int .i64 0)])<|.lits 3<|.call (.tup [(wV vz1a vz1b vz1c vz1d),(.int .i64 0)])<|.lits 15<|.call (.bool true)<|.lits 9<|.call (wV vt1a vt1b vt1c vt1d)<|.lits 2<|.call (.bool true)<|.lits 9<|.call (.int .i64 0)<|.lits 5<|.yes<|.fin3 ⟨[5,31,32,33],[0]⟩) (Sum.elim (fun u=>.lits 5<|.call (.tup [(.agg [(.bool false),.nil,(.int .i64 0),(.bool false),.nil,(.int .i64 0)]),(.int .i64 1)])<|.lits 2<|.both (.lits 10<|.call (.bool true)<|.lits 5<|.yes<|.fin3 ⟨[5,31,32,33],[0]⟩) (.lits 3<|.yes<|.lits 7<|.call (.bool true)<|.lits 5<|.yes<|.fin3 ⟨[5,31,32,33],[0]⟩)) (fun u=>.lits 2<|.fin3 ⟨[],[]⟩)))) (by
  rintro (u | u | u | u) hI
  ·skip
   have hI:u=u:=hI
   have h1:=hI
   have m1:=Int.emod_nonneg n (show (300:Int)≠0 by omega)
   have m2:=Int.emod_lt_of_pos n (show (0:Int)<300 by omega)
   have m3:=Int.emod_nonneg n (show (3:Int)≠0 by omega)
   have m4:=Int.emod_lt_of_pos n (show (0:Int)<3 by omega)
   have m5:=Int.emod_nonneg w (show (120:Int)≠0 by omega)
   have m6:=Int.emod_lt_of_pos w (show (0:Int)<120 by omega)
   exact cast_ob (aI True.intro (aI (c7 ) (aI (fun (h101:(iLt n 2)=true)=>have _gh101:=iLt_t h101;aI (c8 ) (aI tT (aI tT ((nx_next (Sum.inr (Sum.inl u)) (show u=u from rfl) (show 9-1<9-0 by omega):l16_RecipsBB_0_N n w vy0a vy0b vy0c vy0d vx0a vx0b vx0c vx0d vz0a vz0b vz0c vz0d vt0a vt0b vt0c vt0d vy1a vy1b vy1c vy1d vx1a vx1b vx1c vx1d vz1a vz1b vz1c vz1d vt1a vt1b vt1c vt1d vy2a vy2b vy2c vy2d vx2a vx2b vx2c vx2d vz2a vz2b vz2c vz2d vt2a vt2b vt2c vt2d qa qm0 qt0 qm1 qt1 qm2 qt2 (Sum.inl u) .normal (l16_RecipsBB_0_mk n w vy0a vy0b vy0c vy0d vx0a vx0b vx0c vx0d vz0a vz0b vz0c vz0d vt0a vt0b vt0c vt0d vy1a vy1b vy1c vy1d vx1a vx1b vx1c vx1d vz1a vz1b vz1c vz1d vt1a vt1b vt1c vt1d vy2a vy2b vy2c vy2d vx2a vx2b vx2c vx2d vz2a vz2b vz2c vz2d vt2a vt2b vt2c vt2d qa qm0 qt0 qm1 qt1 qm2 qt2 (Sum.inr (Sum.inl u)))))))) (fun (h102:(iLt n 2)=false)=>have _gh102:=iLt_f h102;aI (iGt_mk oO:(iGt n 1000000)=true) (aI (c8 ) (aI tT (aI tT ((nx_next (Sum.inr (Sum.inl u)) (show u=u from rfl) (show 9-1<9-0 by omega):l16_RecipsBB_0_N n w vy0a vy0b vy0c vy0d vx0a vx0b vx0c vx0d vz0a vz0b vz0c vz0d vt0a vt0b vt0c vt0d vy1a vy1b vy1c vy1d vx1a vx1b vx1c vx1d vz1a vz1b vz1c vz1d vt1a vt1b vt1c vt1d vy2a vy2b vy2c vy2d vx2a vx2b vx2c vx2d vz2a vz2b vz2c vz2d vt2a vt2b vt2c vt2d qa qm0 qt0 qm1 qt1 qm2 qt2 (Sum.inl u) .normal (l16_RecipsBB_0_mk n w vy0a vy0b vy0c vy0d vx0a vx0b vx0c vx0d vz0a vz0b vz0c vz0d vt0a vt0b vt0c vt0d vy1a vy1b vy1c vy1d vx1a vx1b vx1c vx1d vz1a vz1b vz1c vz1d vt1a vt1b vt1c vt1d vy2a vy2b vy2c vy2d vx2a vx2b vx2c vx2d vz2a vz2b vz2c vz2d vt2a vt2b vt2c vt2d qa qm0 qt0 qm1 qt1 qm2 qt2 (Sum.inr (Sum.inl u)))))))))))) (by kernel_rfl)
  ·skip
   have hI:u=u:=hI
   have h1:=hI
   have m1:=Int.emod_nonneg n (show (300:Int)≠0 by omega)
   have m2:=Int.emod_lt_of_pos n (show (0:Int)<300 by omega)
   have m3:=Int.emod_nonneg n (show (3:Int)≠0 by omega)
   have m4:=Int.emod_lt_of_pos n (show (0:Int)<3 by omega)
   have m5:=Int.emod_nonneg w (show (120:Int)≠0 by omega)
   have m6:=Int.emod_lt_of_pos w (show (0:Int)<120 by omega)
   exact cast_ob (aI True.intro (aI (c9 ) (aI (iLt_mkF oO:(iLt ((2:Int)+(n%300)) 2)=false) (aI (iGt_mkF oO:(iGt ((2:Int)+(n%300)) 1000000)=false) (aI (c10 ) (aI (c11 ) (aI (c12 ) (aI (fits_i64 oS:(fits .i64 ((w%120)+20))=true) (aI (c13 ) (aI (c14 ) (aI (c15 ) (aI (c16 ) (aI (c17 ) (aI (c18 ) (aI tT (aI tT ((nx_next (Sum.inr (Sum.inr (Sum.inl u))) (show u=u from rfl) (show 9-2<9-1 by omega):l16_RecipsBB_0_N n w vy0a vy0b vy0c vy0d vx0a vx0b vx0c vx0d vz0a vz0b vz0c vz0d vt0a vt0b vt0c vt0d vy1a vy1b vy1c vy1d vx1a vx1b vx1c vx1d vz1a vz1b vz1c vz1d vt1a vt1b vt1c vt1d vy2a vy2b vy2c vy2d vx2a vx2b vx2c vx2d vz2a vz2b vz2c vz2d vt2a vt2b vt2c vt2d qa qm0 qt0 qm1 qt1 qm2 qt2 (Sum.inr (Sum.inl u)) .normal (l16_RecipsBB_0_mk n w vy0a vy0b vy0c vy0d vx0a vx0b vx0c vx0d vz0a vz0b vz0c vz0d vt0a vt0b vt0c vt0d vy1a vy1b vy1c vy1d vx1a vx1b vx1c vx1d vz1a vz1b vz1c vz1d vt1a vt1b vt1c vt1d vy2a vy2b vy2c vy2d vx2a vx2b vx2c vx2d vz2a vz2b vz2c vz2d vt2a vt2b vt2c vt2d qa qm0 qt0 qm1 qt1 qm2 qt2 (Sum.inr (Sum.inr (Sum.inl u)))))))))))))))))))))) (by kernel_rfl)
  ·skip
   have hI:u=u:=hI
   have h1:=hI
   have m1:=Int.emod_nonneg n (show (300:Int)≠0 by omega)
   have m2:=Int.emod_lt_of_pos n (show (0:Int)<300 by omega)
   have m3:=Int.emod_nonneg n (show (3:Int)≠0 by omega)
   have m4:=Int.emod_lt_of_pos n (show (0:Int)<3 by omega)
   have m5:=Int.emod_nonneg w (show (120:Int)≠0 by omega)
   have m6:=Int.emod_lt_of_pos w (show (0:Int)<120 by omega)
   exact cast_ob (aI True.intro (aI (c19 ) (aI (fun (h101:(iLt ((999999:Int)+(n%3)) 2)=true)=>have _gh101:=iLt_t h101;aI (c8 ) (aI tT (aI tT ((nx_next (Sum.inr (Sum.inr (Sum.inr u))) (show u=u from rfl) (show 9-3<9-2 by omega):l16_RecipsBB_0_N n w vy0a vy0b vy0c vy0d vx0a vx0b vx0c vx0d vz0a vz0b vz0c vz0d vt0a vt0b vt0c vt0d vy1a vy1b vy1c vy1d vx1a vx1b vx1c vx1d vz1a vz1b vz1c vz1d vt1a vt1b vt1c vt1d vy2a vy2b vy2c vy2d vx2a vx2b vx2c vx2d vz2a vz2b vz2c vz2d vt2a vt2b vt2c vt2d qa qm0 qt0 qm1 qt1 qm2 qt2 (Sum.inr (Sum.inr (Sum.inl u))) .normal (l16_RecipsBB_0_mk n w vy0a vy0b vy0c vy0d vx0a vx0b vx0c vx0d vz0a vz0b vz0c vz0d vt0a vt0b vt0c vt0d vy1a vy1b vy1c vy1d vx1a vx1b vx1c vx1d vz1a vz1b vz1c vz1d vt1a vt1b vt1c vt1d vy2a vy2b vy2c vy2d vx2a vx2b vx2c vx2d vz2a vz2b vz2c vz2d vt2a vt2b vt2c vt2d qa qm0 qt0 qm1 qt1 qm2 qt2 (Sum.inr (Sum.inr (Sum.inr u))))))))) (fun (h102:(iLt ((999999:Int)+(n%3)) 2)=false)=>have _gh102:=iLt_f h102;aI (iGt_mk oO:(iGt ((999999:Int)+(n%3)) 1000000)=true) (aI (c8 ) (aI tT (aI tT ((nx_next (Sum.inr (Sum.inr (Sum.inr u))) (show u=u from rfl) (show 9-3<9-2 by omega):l16_RecipsBB_0_N n w vy0a vy0b vy0c vy0d vx0a vx0b vx0c vx0d vz0a vz0b vz0c vz0d vt0a vt0b vt0c vt0d vy1a vy1b vy1c vy1d vx1a vx1b vx1c vx1d vz1a vz1b vz1c vz1d vt1a vt1b vt1c vt1d vy2a vy2b vy2c vy2d vx2a vx2b vx2c vx2d vz2a vz2b vz2c vz2d vt2a vt2b vt2c vt2d qa qm0 qt0 qm1 qt1 qm2 qt2 (Sum.inr (Sum.inr (Sum.inl u))) .normal (l16_RecipsBB_0_mk n w vy0a vy0b vy0c vy0d vx0a vx0b vx0c vx0d vz0a vz0b vz0c vz0d vt0a vt0b vt0c vt0d vy1a vy1b vy1c vy1d vx1a vx1b vx1c vx1d vz1a vz1b vz1c vz1d vt1a vt1b vt1c vt1d vy2a vy2b vy2c vy2d vx2a vx2b vx2c vx2d vz2a vz2b vz2c vz2d vt2a vt2b vt2c vt2d qa qm0 qt0 qm1 qt1 qm2 qt2 (Sum.inr (Sum.inr (Sum.inr u))))))))))))) (by kernel_rfl)
  ·skip
   have hI:u=u:=hI
   have h1:=hI
   have m1:=Int.emod_nonneg n (show (300:Int)≠0 by omega)
   have m2:=Int.emod_lt_of_pos n (show (0:Int)<300 by omega)
   have m3:=Int.emod_nonneg n (show (3:Int)≠0 by omega)
   have m4:=Int.emod_lt_of_pos n (show (0:Int)<3 by omega)
   have m5:=Int.emod_nonneg w (show (120:Int)≠0 by omega)
   have m6:=Int.emod_lt_of_pos w (show (0:Int)<120 by omega)
   exact cast_ob (aI True.intro (aI tT ((nx_exit 0 ((l16_RecipsBB_0_ex n w vy0a vy0b vy0c vy0d vx0a vx0b vx0c vx0d vz0a vz0b vz0c vz0d vt0a vt0b vt0c vt0d vy1a vy1b vy1c vy1d vx1a vx1b vx1c vx1d vz1a vz1b vz1c vz1d vt1a vt1b vt1c vt1d vy2a vy2b vy2c vy2d vx2a vx2b vx2c vx2d vz2a vz2b vz2c vz2d vt2a vt2b vt2c vt2d qa qm0 qt0 qm1 qt1 qm2 qt2 u).2) u (show u=u from rfl) rfl:l16_RecipsBB_0_N n w vy0a vy0b vy0c vy0d vx0a vx0b vx0c vx0d vz0a vz0b vz0c vz0d vt0a vt0b vt0c vt0d vy1a vy1b vy1c vy1d vx1a vx1b vx1c vx1d vz1a vz1b vz1c vz1d vt1a vt1b vt1c vt1d vy2a vy2b vy2c vy2d vx2a vx2b vx2c vx2d vz2a vz2b vz2c vz2d vt2a vt2b vt2c vt2d qa qm0 qt0 qm1 qt1 qm2 qt2 (Sum.inr (Sum.inr (Sum.inr u))) (.exit 0) ((l16_RecipsBB_0_ex n w vy0a vy0b vy0c vy0d vx0a vx0b vx0c vx0d vz0a vz0b vz0c vz0d vt0a vt0b vt0c vt0d vy1a vy1b vy1c vy1d vx1a vx1b vx1c vx1d vz1a vz1b vz1c vz1d vt1a vt1b vt1c vt1d vy2a vy2b vy2c vy2d vx2a vx2b vx2c vx2d vz2a vz2b vz2c vz2d vt2a vt2b vt2c vt2d qa qm0 qt0 qm1 qt1 qm2 qt2 u).2))))) (by kernel_rfl))
theorem l16_RecipsBB (n w vy0a vy0b vy0c vy0d vx0a vx0b vx0c vx0d vz0a vz0b vz0c vz0d vt0a vt0b vt0c vt0d vy1a vy1b vy1c vy1d vx1a vx1b vx1c vx1d vz1a vz1b vz1c vz1d vt1a vt1b vt1c vt1d vy2a vy2b vy2c vy2d vx2a vx2b vx2c vx2d vz2a vz2b vz2c vz2d vt2a vt2b vt2c vt2d:Int)(qa:Rat)(qm0:Rat)(qt0:Rat)(qm1:Rat)(qt1:Rat)(qm2:Rat)(qt2:Rat)(c0:(-9223372036854775808:Int)≤n∧n≤9223372036854775807)(c1:(-9223372036854775808:Int)≤w∧w≤9223372036854775807)(c2:Impl Tryz.prog Amb 11 [] (.bool true))(c3:Impl Tryz.prog Amb 26 [(.int .i64 5),(.int .i64 (-1))] (.tup [(.agg [(.bool false),.nil,(.int .i64 0),(.bool false),.nil,(.int .i64 0)]),(.int .i64 1)]))(c4:Impl Tryz.prog Amb 26 [(.int .i64 5),(.int .i64 4097)] (.tup [(.agg [(.bool false),.nil,(.int .i64 0),(.bool false),.nil,(.int .i64 0)]),(.int .i64 1)]))(c5:n<2∨1000000<n)(c6:n%3=2)(c7:Impl Tryz.prog Amb 26 [(.int .i64 n),(.int .i64 (w%120))] (.tup [(.agg [(.bool false),.nil,(.int .i64 0),(.bool false),.nil,(.int .i64 0)]),(.int .i64 1)]))(c8:Impl Tryz.prog Amb 27 [(.agg [(.bool false),.nil,(.int .i64 0),(.bool false),.nil,(.int .i64 0)]),(.agg [(.bool false),.nil,(.int .i64 0),(.bool false),.nil,(.int .i64 0)])] (.bool true))(c9:Impl Tryz.prog Amb 26 [(.int .i64 ((2:Int)+(n%300))),(.int .i64 (w%120))] (.tup [(wV vy1a vy1b vy1c vy1d),(.int .i64 0)]))(c10:Impl Tryz.prog Amb 29 [(.int .i64 1)] (.agg [(.bool (decide (qa.num<0))),(N qa.num.natAbs),(N qa.den)]))(c11:Impl Tryz.prog Amb 29 [(.int .i64 ((2:Int)+(n%300)))] (.agg [(.bool (decide (qm1.num<0))),(N qm1.num.natAbs),(N qm1.den)]))(c12:Impl Tryz.prog Amb 28 [(.agg [(.bool (decide (qa.num<0))),(N qa.num.natAbs),(N qa.den)]),(.agg [(.bool (decide (qm1.num<0))),(N qm1.num.natAbs),(N qm1.den)])] (.tup [(.agg [(.bool (decide (qt1.num<0))),(N qt1.num.natAbs),(N qt1.den)]),(.int .i64 0)]))(c13:Impl Tryz.prog Amb 30 [(.agg [(.bool (decide (qt1.num<0))),(N qt1.num.natAbs),(N qt1.den)]),(.int .i64 ((w%120)+20))] (.tup [(wV vx1a vx1b vx1c vx1d),(.int .i64 0)]))(c14:Impl Tryz.prog Amb 15 [(wV vx1a vx1b vx1c vx1d),(.int .i64 (w%120))] (.tup [(wV vz1a vz1b vz1c vz1d),(.int .i64 0)]))(c15:Impl Tryz.prog Amb 31 [(wV vy1a vy1b vy1c vy1d),(.int .i64 (w%120))] (.bool true))(c16:Impl Tryz.prog Amb 33 [(.int .i64 ((2:Int)+(n%300))),(.int .i64 (w%120))] (wV vt1a vt1b vt1c vt1d))(c17:Impl Tryz.prog Amb 32 [(wV vy1a vy1b vy1c vy1d),(wV vt1a vt1b vt1c vt1d)] (.bool true))(c18:Impl Tryz.prog Amb 21 [(wV vy1a vy1b vy1c vy1d),(wV vz1a vz1b vz1c vz1d)] (.int .i64 0))(c19:Impl Tryz.prog Amb 26 [(.int .i64 ((999999:Int)+(n%3))),(.int .i64 (w%120))] (.tup [(.agg [(.bool false),.nil,(.int .i64 0),(.bool false),.nil,(.int .i64 0)]),(.int .i64 1)])):Impl Tryz.prog Amb 7 [(.int .i64 n),(.int .i64 w)] (.bool true):=by
 have m1:=Int.emod_nonneg n (show (300:Int)≠0 by omega)
 have m2:=Int.emod_lt_of_pos n (show (0:Int)<300 by omega)
 have m3:=Int.emod_nonneg n (show (3:Int)≠0 by omega)
 have m4:=Int.emod_lt_of_pos n (show (0:Int)<3 by omega)
 exact impl_ob hP hAmb Tryz.func7 (by kernel_rfl) (.lit<|.call (.bool true)<|.lits 3<|.call (.int .i64 (w%120))<|.lit<|.call (.int .i64 (n%300))<|.lit<|.yes<|.lit<|.call (.int .i64 (n%3))<|.lit<|.yes<|.loop ⟨[5,31,32,33],1,[]⟩ ((l16_RecipsBB_0_mk n w vy0a vy0b vy0c vy0d vx0a vx0b vx0c vx0d vz0a vz0b vz0c vz0d vt0a vt0b vt0c vt0d vy1a vy1b vy1c vy1d vx1a vx1b vx1c vx1d vz1a vz1b vz1c vz1d vt1a vt1b vt1c vt1d vy2a vy2b vy2c vy2d vx2a vx2b vx2c vx2d vz2a vz2b vz2c vz2d vt2a vt2b vt2c vt2d qa qm0 qt0 qm1 qt1 qm2 qt2 (Sum.inl (0:Int)))) (Int) (l16_RecipsBB_0_ex n w vy0a vy0b vy0c vy0d vx0a vx0b vx0c vx0d vz0a vz0b vz0c vz0d vt0a vt0b vt0c vt0d vy1a vy1b vy1c vy1d vx1a vx1b vx1c vx1d vz1a vz1b vz1c vz1d vt1a vt1b vt1c vt1d vy2a vy2b vy2c vy2d vx2a vx2b vx2c vx2d vz2a vz2b vz2c vz2d vt2a vt2b vt2c vt2d qa qm0 qt0 qm1 qt1 qm2 qt2) (l16_RecipsBB_0_J n w vy0a vy0b vy0c vy0d vx0a vx0b vx0c vx0d vz0a vz0b vz0c vz0d vt0a vt0b vt0c vt0d vy1a vy1b vy1c vy1d vx1a vx1b vx1c vx1d vz1a vz1b vz1c vz1d vt1a vt1b vt1c vt1d vy2a vy2b vy2c vy2d vx2a vx2b vx2c vx2d vz2a vz2b vz2c vz2d vt2a vt2b vt2c vt2d qa qm0 qt0 qm1 qt1 qm2 qt2) (fun y=>.lit<|.call (.tup [(.agg [(.bool false),.nil,(.int .i64 0),(.bool false),.nil,(.int .i64 0)]),(.int .i64 1)])<|.lits 2<|.call (.tup [(.agg [(.bool false),.nil,(.int .i64 0),(.bool false),.nil,(.int .i64 0)]),(.int .i64 1)])<|.lits 7<|.ret))
  (cast_ob (aI True.intro (aI (c2 ) (aI (mill_Mod w 120 oS oS) (have f6:=Int.emod_lt_of_pos w (show (0:Int)<120 by first | omega | assumption);have f5:=Int.emod_nonneg w (show (120:Int)≠0 by first | omega | assumption);aI (mill_Mod n 300 oS oS) (have f4:=Int.emod_lt_of_pos n (show (0:Int)<300 by first | omega | assumption);have f3:=Int.emod_nonneg n (show (300:Int)≠0 by first | omega | assumption);aI (fits_i64 oS:(fits .i64 ((2:Int)+(n%300)))=true) (aI (mill_Mod n 3 oS oS) (have f2:=Int.emod_lt_of_pos n (show (0:Int)<3 by first | omega | assumption);have f1:=Int.emod_nonneg n (show (3:Int)≠0 by first | omega | assumption);aI (fits_i64 oS:(fits .i64 ((999999:Int)+(n%3)))=true) (aI tT (aI (rfl:(l16_RecipsBB_0_mk n w vy0a vy0b vy0c vy0d vx0a vx0b vx0c vx0d vz0a vz0b vz0c vz0d vt0a vt0b vt0c vt0d vy1a vy1b vy1c vy1d vx1a vx1b vx1c vx1d vz1a vz1b vz1c vz1d vt1a vt1b vt1c vt1d vy2a vy2b vy2c vy2d vx2a vx2b vx2c vx2d vz2a vz2b vz2c vz2d vt2a vt2b vt2c vt2d qa qm0 qt0 qm1 qt1 qm2 qt2 (Sum.inl (0:Int)))=(l16_RecipsBB_0_mk n w vy0a vy0b vy0c vy0d vx0a vx0b vx0c vx0d vz0a vz0b vz0c vz0d vt0a vt0b vt0c vt0d vy1a vy1b vy1c vy1d vx1a vx1b vx1c vx1d vz1a vz1b vz1c vz1d vt1a vt1b vt1c vt1d vy2a vy2b vy2c vy2d vx2a vx2b vx2c vx2d vz2a vz2b vz2c vz2d vt2a vt2b vt2c vt2d qa qm0 qt0 qm1 qt1 qm2 qt2 (Sum.inl (0:Int)))) (aI (l16_RecipsBB_0 n w vy0a vy0b vy0c vy0d vx0a vx0b vx0c vx0d vz0a vz0b vz0c vz0d vt0a vt0b vt0c vt0d vy1a vy1b vy1c vy1d vx1a vx1b vx1c vx1d vz1a vz1b vz1c vz1d vt1a vt1b vt1c vt1d vy2a vy2b vy2c vy2d vx2a vx2b vx2c vx2d vz2a vz2b vz2c vz2d vt2a vt2b vt2c vt2d qa qm0 qt0 qm1 qt1 qm2 qt2 c0 c1 c2 c3 c4 c5 c6 c7 c8 c9 c10 c11 c12 c13 c14 c15 c16 c17 c18 c19 (Sum.inl (0:Int)) (show (0:Int)=(0:Int) from rfl)) (fun y (hJ:l16_RecipsBB_0_J n w vy0a vy0b vy0c vy0d vx0a vx0b vx0c vx0d vz0a vz0b vz0c vz0d vt0a vt0b vt0c vt0d vy1a vy1b vy1c vy1d vx1a vx1b vx1c vx1d vz1a vz1b vz1c vz1d vt1a vt1b vt1c vt1d vy2a vy2b vy2c vy2d vx2a vx2b vx2c vx2d vz2a vz2b vz2c vz2d vt2a vt2b vt2c vt2d qa qm0 qt0 qm1 qt1 qm2 qt2 y)=>have hJ:y=y:=hJ;aI (c3 ) (aI (c4 ) ((vsub_refl (.bool true))))))))))))))) (by kernel_rfl))

end Go.Proofs.YtkkbddkpggjgpaaGreatDoor

namespace Go.Proofs.YtkkbddkpggjgpaaGreatDoor
open Go.RowKit
set_option maxRecDepth 100000
set_option maxHeartbeats 2000000
theorem at_RecipE (n w:Int)(hn:2≤n∧n≤1000000)(hw:0≤w∧w≤200):∃ lo hi:Int,Impl Tryz.prog Amb 26 [(.int .i64 n),(.int .i64 w)] (.tup [(wV (mkM lo (-w)) (mkX lo (-w)) (mkM hi (-w)) (mkX hi (-w))),(.int .i64 0)])∧hi-lo≤2∧(L lo.natAbs≤8∧L hi.natAbs≤8)∧lo≤hi∧(∀ z:Rat,z*(n:Rat)=1→0<z→z≤1 / 2→EnE (AL z) w.toNat lo hi 0):=by
 have hA:=fx_Arc1 n (w+24) oO oO
 have al:=arcT_L (n:=n) true (s:=w+24) hn.1 oO
 have en:=fun z h1 h2 h3=>arc_enc (n:=n) (s:=w+24) (z:=z) hn.1 oO h1 h2 h3
 generalize (arcT n true (w+24)).1=tk at *
 generalize (arcT n true (w+24)).2=ta at *
 have hC:=at_rclo n (w+24) _ _ hn hA
 have hT:=fx_Settle1 79 _ (ta-3*(tk+2)) (ta+3*(tk+2)) w hC oO (nbits_of_lt oO) oO
 have w2:=half_w (a:=ta-3*(tk+2)) (b:=ta+3*(tk+2)) (W:=1) (n:=24) oO
 have E:(∀ z:Rat,z*(n:Rat)=1→0<z→z≤1 / 2→EnE (AL z) w.toNat ((ta-3*(tk+2)) / 2^24) (-(-(ta+3*(tk+2)) / 2^24)) 0):=fun z h1 h2 h3=>by
  obtain⟨N,e⟩:=en z h1 h2 h3
  refine⟨N,fun K hK=>?_⟩
  have e:=half_enc (s:=w.toNat) (n:=24) oO (e K hK).1 (e K hK).2
  constructor<;>grind
 generalize (ta-3*(tk+2)) / 2^24=lo at *
 generalize -(-(ta+3*(tk+2)) / 2^24)=hi at *
 have n0:(0:Rat)<(n:Rat):=Rat.intCast_pos.2 oO
 have n2:((2:Int):Rat)≤(n:Rat):=Rat.intCast_le_intCast.2 hn.1
 rw[show ((2:Int):Rat)=2 from rfl] at n2
 have zi:=inv_one n0
 have z0:=Rat.inv_pos.2 n0
 have zh:(n:Rat)⁻¹≤1 / 2:=by
  have:=Rat.mul_le_mul_of_nonneg_left n2 (Rat.le_of_lt z0)
  grind
 obtain⟨N,e⟩:=E _ zi z0 zh
 have e:=e N (Nat.le_refl _)
 have b:=AL_b (Rat.le_of_lt z0) (by grind) N
 have T0:(0:Rat)<((2^w.toNat:Int):Rat):=Rat.intCast_pos.2 (two_pos _)
 have m1:=Rat.mul_le_mul_of_nonneg_right b.1 (Rat.le_of_lt T0)
 have m2:=Rat.mul_le_mul_of_nonneg_right (show AL (n:Rat)⁻¹ N≤1 by grind) (Rat.le_of_lt T0)
 have k1:lo≤2^w.toNat:=Rat.intCast_le_intCast.1 (by grind)
 have k2:0≤hi:=by
  have:((0:Int):Rat)≤(hi:Rat):=by rw[show ((0:Int):Rat)=0 from rfl];grind
  exact Rat.intCast_le_intCast.1 this
 have k3:lo≤hi:=Rat.intCast_le_intCast.1 (by grind)
 have PW:=two_pos w.toNat
 have l1:=at_L8 (x:=lo) (w:=w) oO oO oO
 have l2:=at_L8 (x:=hi) (w:=w) oO oO oO
 have mA:=dy_Make lo (0-w) oO oO
 have mB:=dy_Make hi (0-w) oO oO
 rw[Int.zero_sub,mk_fine2 (m:=lo) (e:=-w) oO oO] at mA
 rw[Int.zero_sub,mk_fine2 (m:=hi) (e:=-w) oO oO] at mB
 have hI:=at_intv lo hi lo hi w _ _ _ _ oO (by rw[Int.zero_sub];exact mA) (by rw[Int.zero_sub];exact mB)
 exact⟨lo,hi,at_Recip0 n w lo hi _ _ _ _ oO hn hT hI,w2,⟨l1,l2⟩,k3,E⟩
theorem r16_InverseE (n w:Int)(hn:2≤n∧n≤1000000)(hw:0≤w∧w≤120):∃ g1 g2:Int,Impl Tryz.prog Amb 33 [(.int .i64 n),(.int .i64 w)] (wV (mkM g1 (-(w+16))) (mkX g1 (-(w+16))) (mkM g2 (-(w+16))) (mkX g2 (-(w+16))))∧(L g1.natAbs≤800∧L g2.natAbs≤800)∧(∀ z:Rat,z*(n:Rat)=1→0<z→z≤1 / 2→EnE (AL z) (w.toNat+16) g1 g2 0):=by
 have hA:=r13_AtanInverse n (w+40) hn oO
 have al:=at_T hn.1 _ _ _ _ _ _ _ rfl (at_init (n:=n) (v:=w+40) hn.1 oO)
 have en:=fun z h1 h2 h3=>ata_enc (n:=n) (v:=w+40) (z:=z) hn.1 oO h1 h2 h3
 generalize (atanT n (w+40)).1=ta at *
 generalize (atanT n (w+40)).2=tb at *
 have l0:=L_lit 2 (by decide)
 have l0:L (2:Int).natAbs≤1:=l0
 have a1:=L_abs_sub ta 2
 have a2:=L_abs_add tb 2
 have hO:=r13_Out (ta-2) (tb+2) (w+40) (w+16) oO oO oO
 rw[show (w+40-(w+16)).toNat=24 by omega] at hO
 have s1:=L_abs_shr (ta-2) 24
 have s2:=L_abs_neg (tb+2)
 have s3:=L_abs_shr (-(tb+2)) 24
 have s4:=L_abs_neg (-(tb+2) / 2^24)
 refine⟨_,_,r16_Inverse0 n w _ _ _ _ _ _ oO hA hO,⟨by omega,by omega⟩,fun z h1 h2 h3=>?_⟩
 obtain⟨N,e⟩:=en z h1 h2 h3
 refine⟨N,fun K hK=>?_⟩
 have e:=half_enc (s:=w.toNat+16) (n:=24) oO (e K hK).1 (e K hK).2
 constructor<;>grind
theorem g_tight (a b w:Int)(hw:0≤w∧w≤200)(la:L a.natAbs≤12)(lb:L b.natAbs≤12)(o:a≤b)(h:b-a≤2):Impl Tryz.prog Amb 31 [(wV (mkM a (-w)) (mkX a (-w)) (mkM b (-w)) (mkX b (-w))),(.int .i64 w)] (.bool true):=by
 have f1:=mk_fit (m:=a) (e:=-w) oO oO
 have f2:=mk_fit (m:=b) (e:=-w) oO oO
 have i1:=iMin_range (-w) 0
 have i2:iMax (-w) 0≤0:=by unfold iMax;split<;>omega
 have ng:=L_abs_neg (mkM a (-w))
 have i3:=iMin_range (mkX b (-w)) (mkX a (-w))
 have ad:=adS_L (m:=mkM b (-w)) (n:=-(mkM a (-w))) (e:=mkX b (-w)) (f:=mkX a (-w)) (a:=12) (c:=40) oO oO oO oO
 have f3:=mk_fit (m:=adS (mkM b (-w)) (mkX b (-w)) (-(mkM a (-w))) (mkX a (-w))) (e:=iMin (mkX b (-w)) (mkX a (-w))) oO oO
 have u:=mk_unit (p:=w-1) oO
 have du:dv 1 (-(w-1))=dv 2 (-w):=by
  have:=dv_shl 1 (-w) 1
  rw[show (1:Int)*2^1=2 from rfl,show -w+((1:Nat):Int)=-(w-1) by omega] at this
  exact this.symm
 have t:tgB (mkM a (-w)) (mkX a (-w)) (mkM b (-w)) (mkX b (-w)) w=true:=by
  unfold tgB
  simp only [Bool.and_eq_true,decide_eq_true_eq]
  refine⟨⟨⟨⟨⟨by omega,?_⟩,mk_on f1.1 oO oO⟩,mk_on f2.1 oO oO⟩,f3.1⟩,?_⟩
  ·unfold ivB
   rw[f1.2.2.2.2.1,f2.2.2.2.2.1,decide_eq_true (cmpD_le.2 (by rw[f1.2.2.2.2.2,f2.2.2.2.2.2];exact dv_le.2 o))];rfl
  ·refine cmpD_le.2 ?_
   rw[f3.2.2.2.2.2,dv_ad,dv_neg,f1.2.2.2.2.2,f2.2.2.2.2.2,u.1,u.2.1,du,← dv_neg,dv_plus]
   exact dv_le.2 oO
 exact impl_eq (congrArg V.bool t) (r13_Tight (mkM a (-w)) (mkX a (-w)) (mkM b (-w)) (mkX b (-w)) w oO oO oO)
theorem q_third {m:Int}(hm:2≤m):(((1:Int):Rat) / (m:Rat))*(m:Rat)=1∧0<((1:Int):Rat) / (m:Rat)∧((1:Int):Rat) / (m:Rat)≤1 / 2:=by
 have n0:(0:Rat)<(m:Rat):=Rat.intCast_pos.2 oO
 have n2:((2:Int):Rat)≤(m:Rat):=Rat.intCast_le_intCast.2 hm
 rw[show ((2:Int):Rat)=2 from rfl] at n2
 have zi:=inv_one n0
 have z0:=Rat.inv_pos.2 n0
 have e:((1:Int):Rat) / (m:Rat)=(m:Rat)⁻¹:=by rw[Rat.div_def,show ((1:Int):Rat)=1 from rfl,Rat.one_mul]
 rw[e]
 refine⟨zi,z0,?_⟩
 have:=Rat.mul_le_mul_of_nonneg_left n2 (Rat.le_of_lt z0)
 grind
theorem l16_rround (m k:Int)(hm:2≤m∧m≤1000000)(hk:0≤k∧k<120):∃ vy0a vy0b vy0c vy0d vx0a vx0b vx0c vx0d vz0a vz0b vz0c vz0d vt0a vt0b vt0c vt0d:Int,∃ qt:Rat,Impl Tryz.prog Amb 28 [(.agg [(.bool (decide (((1:Int):Rat).num<0))),(N ((((1:Int):Rat).num).natAbs)),(N (((1:Int):Rat).den))]),(.agg [(.bool (decide ((m:Rat).num<0))),(N (((m:Rat).num).natAbs)),(N ((m:Rat).den))])] (.tup [(.agg [(.bool (decide (qt.num<0))),(N qt.num.natAbs),(N qt.den)]),(.int .i64 0)])∧Impl Tryz.prog Amb 26 [(.int .i64 m),(.int .i64 k)] (.tup [(wV vy0a vy0b vy0c vy0d),(.int .i64 0)])∧Impl Tryz.prog Amb 30 [(.agg [(.bool (decide (qt.num<0))),(N qt.num.natAbs),(N qt.den)]),(.int .i64 (k+20))] (.tup [(wV vx0a vx0b vx0c vx0d),(.int .i64 0)])∧Impl Tryz.prog Amb 15 [(wV vx0a vx0b vx0c vx0d),(.int .i64 k)] (.tup [(wV vz0a vz0b vz0c vz0d),(.int .i64 0)])∧Impl Tryz.prog Amb 31 [(wV vy0a vy0b vy0c vy0d),(.int .i64 k)] (.bool true)∧Impl Tryz.prog Amb 33 [(.int .i64 m),(.int .i64 k)] (wV vt0a vt0b vt0c vt0d)∧Impl Tryz.prog Amb 32 [(wV vy0a vy0b vy0c vy0d),(wV vt0a vt0b vt0c vt0d)] (.bool true)∧Impl Tryz.prog Amb 21 [(wV vy0a vy0b vy0c vy0d),(wV vz0a vz0b vz0c vz0d)] (.int .i64 0):=by
 have th:=q_third hm.1
 have m0:((m:Int):Rat)≠0:=by
  have:(0:Rat)<(m:Rat):=Rat.intCast_pos.2 oO
  grind
 have dl:=q_divL (r:=((1:Int):Rat)) m0
 rw[Rat.num_intCast,Rat.den_intCast,Rat.num_intCast,Rat.den_intCast] at dl
 have l1:=L_lit 1 (by decide)
 have l1':L (1:Int).natAbs≤1:=l1
 have lm:L m.natAbs≤1:=L_lit _ oO
 have hD:=r07_Div ((1:Int):Rat) (m:Rat) (by rw[Rat.num_intCast];omega) (by rw[Rat.den_intCast];omega) (by rw[Rat.num_intCast];omega) (by rw[Rat.den_intCast];omega) m0
 generalize hq:((1:Int):Rat) / (m:Rat)=q at *
 obtain⟨lo,hi,hR,w1,⟨l2,l3⟩,o1,E⟩:=at_RecipE m k hm oO
 obtain⟨g1,g2,hV,⟨l4,l5⟩,E2⟩:=r16_InverseE m k hm oO
 have E:=E q th.1 th.2.1 th.2.2
 have E2:=E2 q th.1 th.2.1 th.2.2
 -- the constant
 have T0:(0:Rat)<((2^(k+20).toNat:Int):Rat):=Rat.intCast_pos.2 (two_pos _)
 have y1:=flr_le q (k+20)
 have y2:=cei_ge q (k+20)
 have e20:((2^((k+20).toNat+2):Nat):Int)=2^(k+20).toNat*4:=by rw[← pow_cast,Int.pow_add];rfl
 have P20:=two_pos (k+20).toNat
 have one:dv (2^(k+20).toNat) (-(k+20))=1:=by
  have:=dv_shl 1 (-(k+20)) (k+20).toNat
  rw[show -(k+20)+(((k+20).toNat:Nat):Int)=0 by omega,Int.one_mul] at this
  rw[this];exact of_decide_eq_true (by kernel_rfl)
 have b1:0≤flr q (k+20):=le_flr.2 (by rw[dv_zero];grind)
 have b2:cei q (k+20)≤2^(k+20).toNat:=cei_le.2 (by rw[one];grind)
 have b3:=flr_cei (Rat.le_refl (a:=q)) (k+20)
 have c1:L (flr q (k+20)).natAbs≤6:=L_pow2 (n:=(k+20).toNat+2) oO oO
 have c2:L (cei q (k+20)).natAbs≤6:=L_pow2 (n:=(k+20).toNat+2) oO oO
 have kq:enE q q (k+20)=0:=en_ok oO Rat.le_refl oO oO
 have hK:=impl_eq (enV_ok kq) (ar_Const q (k+20) oO oO oO)
 generalize flr q (k+20)=xa at *
 generalize cei q (k+20)=xb at *
 have d1:=dv_g (a:=xa) (w:=k+20) (k:=6) c1 oO oO
 have d2:=dv_g (a:=xb) (w:=k+20) (k:=6) c2 oO oO
 obtain⟨i1,j1,i2,j2,hA,⟨A1,_,_⟩,⟨A2,_,_⟩,l6,l7⟩:=at_AtanE (mkM xa (-(k+20))) (mkX xa (-(k+20))) (mkM xb (-(k+20))) (mkX xb (-(k+20))) k oO oO oO oO oO
 rw[d1.1] at A1
 rw[d2.1] at A2
 have gb:=gE_b
 have EA:EnE (AT q) k.toNat lo hi gE:=(E.mono (g':=gE) (by grind)).congr fun K=>AT_AL (Rat.le_of_lt th.2.1) th.2.2 K
 have k1:=at_le A1 EA y1 oO
 have k2:=at_le EA A2 y2 oO
 have hC:=g_cmp lo hi i1 j2 k oO oO oO oO oO k1 k2
 have hT:=g_tight lo hi k oO oO oO o1 w1
 -- the reference
 have c16:((2^16:Int):Rat)=65536:=rfl
 have mt:=E.meet E2 (by rw[c16];grind)
 have f1:=mk_fit (m:=g1) (e:=-(k+16)) oO oO
 have f2:=mk_fit (m:=g2) (e:=-(k+16)) oO oO
 have i3:=iMin_range (-(k+16)) 0
 have i4:iMax (-(k+16)) 0≤0:=by unfold iMax;split<;>omega
 have G1:=dv_g (a:=lo) (w:=k) (k:=8) l2 oO oO
 have G2:=dv_g (a:=hi) (w:=k) (k:=8) l3 oO oO
 have up:∀ x:Int,dv x (-k)=dv (x*2^16) (-(k+16)):=fun x=>by rw[dv_shl,show -(k+16)+((16:Nat):Int)=-k by omega]
 have hTo:=r13_Touches (mkM lo (-k)) (mkX lo (-k)) (mkM hi (-k)) (mkX hi (-k)) (mkM g1 (-(k+16))) (mkX g1 (-(k+16))) (mkM g2 (-(k+16))) (mkX g2 (-(k+16))) oO oO oO oO oO oO oO oO
 rw[g_meet (by rw[f1.2.2.2.2.2,G2.1,up];exact dv_le.2 mt.2) (by rw[f2.2.2.2.2.2,G1.1,up];exact dv_le.2 mt.1)] at hTo
 exact⟨_,_,_,_,_,_,_,_,_,_,_,_,_,_,_,_,q,hD,hR,hK,hA,hT,hV,hTo,hC⟩
theorem recipX (n w:Int)(h1:(-9223372036854775808:Int)≤n∧n≤9223372036854775807)(h2:0≤w∧w≤4096)(h:n<2∨1000000<n):Impl Tryz.prog Amb 26 [(.int .i64 n),(.int .i64 w)] (.tup [(.agg [(.bool false),.nil,(.int .i64 0),(.bool false),.nil,(.int .i64 0)]),(.int .i64 1)]):=by
 rcases h with h | h
 ·exact at_RecipB n w h1 oO h2 h
 ·exact at_RecipC n w h1 oO h2 h
theorem same00:Impl Tryz.prog Amb 27 [(.agg [(.bool false),.nil,(.int .i64 0),(.bool false),.nil,(.int .i64 0)]),(.agg [(.bool false),.nil,(.int .i64 0),(.bool false),.nil,(.int .i64 0)])] (.bool true) :=
 impl_arg (fun w S l h=>by
  cases h with | cons h1 h=>cases h with | cons h2 h=>cases h with | nil=>exact .cons (rd_w0 h1) (.cons (rd_w0 h2) .nil))
  (impl_eq (congrArg V.bool (decide_eq_true oO)) (r10_Same 0 0 0 0 0 0 0 0 (by simp [L_zero]) (by simp [L_zero]) (by simp [L_zero]) (by simp [L_zero])))
theorem l16_ArctangentRecips (n w:Int)(c0:(-9223372036854775808:Int)≤n∧n≤9223372036854775807)(c1:(-9223372036854775808:Int)≤w∧w≤9223372036854775807):Impl Tryz.prog Amb 7 [.int .i64 n,.int .i64 w] (.bool true):=by
 have m1:=Int.emod_nonneg n (show (300:Int)≠0 by omega)
 have m2:=Int.emod_lt_of_pos n (show (0:Int)<300 by omega)
 have m3:=Int.emod_nonneg n (show (3:Int)≠0 by omega)
 have m4:=Int.emod_lt_of_pos n (show (0:Int)<3 by omega)
 have m5:=Int.emod_nonneg w (show (120:Int)≠0 by omega)
 have m6:=Int.emod_lt_of_pos w (show (0:Int)<120 by omega)
 have x1:=at_RecipA 5 (-1) oO oO (.inl oO)
 have x2:=at_RecipA 5 4097 oO oO (.inr oO)
 by_cases hb:2≤n∧n≤1000000
 ·by_cases h3:n%3=2
  ·skip
   obtain⟨_,_,_,_,_,_,_,_,_,_,_,_,_,_,_,_,q0,r00,r01,r02,r03,r04,r05,r06,r07⟩:=l16_rround n (w%120) oO oO
   obtain⟨_,_,_,_,_,_,_,_,_,_,_,_,_,_,_,_,q1,r10,r11,r12,r13,r14,r15,r16,r17⟩:=l16_rround ((2:Int)+(n%300)) (w%120) oO oO
   exact l16_RecipsGB n w _ _ _ _ _ _ _ _ _ _ _ _ _ _ _ _ _ _ _ _ _ _ _ _ _ _ _ _ _ _ _ _ 0 0 0 0 0 0 0 0 0 0 0 0 0 0 0 0 _ _ _ _ _ 0 0 c0 c1 l16_awake x1 x2 oO oO r01 (r07_Of 1 oO) (r07_Of n oO) r00 r02 r03 r04 r05 r06 r07 r11 (r07_Of ((2:Int)+(n%300)) oO) r10 r12 r13 r14 r15 r16 r17 (recipX ((999999:Int)+(n%3)) (w%120) oO oO oO) same00
  ·skip
   obtain⟨_,_,_,_,_,_,_,_,_,_,_,_,_,_,_,_,q0,r00,r01,r02,r03,r04,r05,r06,r07⟩:=l16_rround n (w%120) oO oO
   obtain⟨_,_,_,_,_,_,_,_,_,_,_,_,_,_,_,_,q1,r10,r11,r12,r13,r14,r15,r16,r17⟩:=l16_rround ((2:Int)+(n%300)) (w%120) oO oO
   obtain⟨_,_,_,_,_,_,_,_,_,_,_,_,_,_,_,_,q2,r20,r21,r22,r23,r24,r25,r26,r27⟩:=l16_rround ((999999:Int)+(n%3)) (w%120) oO oO
   exact l16_RecipsGG n w _ _ _ _ _ _ _ _ _ _ _ _ _ _ _ _ _ _ _ _ _ _ _ _ _ _ _ _ _ _ _ _ _ _ _ _ _ _ _ _ _ _ _ _ _ _ _ _ _ _ _ _ _ _ _ c0 c1 l16_awake x1 x2 oO oO r01 (r07_Of 1 oO) (r07_Of n oO) r00 r02 r03 r04 r05 r06 r07 r11 (r07_Of ((2:Int)+(n%300)) oO) r10 r12 r13 r14 r15 r16 r17 r21 (r07_Of ((999999:Int)+(n%3)) oO) r20 r22 r23 r24 r25 r26 r27
 ·by_cases h3:n%3=2
  ·skip
   obtain⟨_,_,_,_,_,_,_,_,_,_,_,_,_,_,_,_,q1,r10,r11,r12,r13,r14,r15,r16,r17⟩:=l16_rround ((2:Int)+(n%300)) (w%120) oO oO
   exact l16_RecipsBB n w 0 0 0 0 0 0 0 0 0 0 0 0 0 0 0 0 _ _ _ _ _ _ _ _ _ _ _ _ _ _ _ _ 0 0 0 0 0 0 0 0 0 0 0 0 0 0 0 0 _ 0 0 _ _ 0 0 c0 c1 l16_awake x1 x2 oO oO (recipX n (w%120) c0 oO oO) same00 r11 (r07_Of 1 oO) (r07_Of ((2:Int)+(n%300)) oO) r10 r12 r13 r14 r15 r16 r17 (recipX ((999999:Int)+(n%3)) (w%120) oO oO oO)
  ·skip
   obtain⟨_,_,_,_,_,_,_,_,_,_,_,_,_,_,_,_,q1,r10,r11,r12,r13,r14,r15,r16,r17⟩:=l16_rround ((2:Int)+(n%300)) (w%120) oO oO
   obtain⟨_,_,_,_,_,_,_,_,_,_,_,_,_,_,_,_,q2,r20,r21,r22,r23,r24,r25,r26,r27⟩:=l16_rround ((999999:Int)+(n%3)) (w%120) oO oO
   exact l16_RecipsBG n w 0 0 0 0 0 0 0 0 0 0 0 0 0 0 0 0 _ _ _ _ _ _ _ _ _ _ _ _ _ _ _ _ _ _ _ _ _ _ _ _ _ _ _ _ _ _ _ _ _ 0 0 _ _ _ _ c0 c1 l16_awake x1 x2 oO oO (recipX n (w%120) c0 oO oO) same00 r11 (r07_Of 1 oO) (r07_Of ((2:Int)+(n%300)) oO) r10 r12 r13 r14 r15 r16 r17 r21 (r07_Of ((999999:Int)+(n%3)) oO) r20 r22 r23 r24 r25 r26 r27
end Go.Proofs.YtkkbddkpggjgpaaGreatDoor

namespace Go.Proofs.YtkkbddkpggjgpaaGreatDoor
open Go.ChangeShapes Go.WideShapes Go.ChangeAt Go.RowKit
theorem ownNone:ownKnob Tryz.prog.godebug=none:=by kernel_rfl
theorem gTab:Tryz.prog.globalNamed "math/bits.deBruijn32tab"=some 0:=by kernel_rfl
theorem gTabType:(Tryz.prog.globals[0]?).map (·.type)=some 162:=by kernel_rfl
theorem cellsTab:Tryz.prog.cellsOf 162=32:=by kernel_rfl
theorem cellsU8:Tryz.prog.cellsOf 5=1:=by kernel_rfl
theorem amb_of {W:World}(h:laidMetH Tryz.prog [("math/bits.deBruijn32tab",Rows.laid_math_bits_deBruijn32tab)] W):Amb W:=by
 have t:Lib.TabIs Tryz.prog W "math/bits.deBruijn32tab" .u8 tab32:=Lib.tabIs_of_head (rest:=[]) gTab gTabType Tryz.underlying162 Tryz.underlying5 cellsU8 cellsTab h
 intro i v hi
 have hlt:i<tab32.length:=by
  rcases Nat.lt_or_ge i tab32.length with q | q
  ·exact q
  ·rw[List.getElem?_eq_none q] at hi;cases hi
 have h1:=t.cell gTab i hlt
 rw[List.getD_eq_getElem?_getD,hi] at h1
 exact h1
theorem int_wf {n:Int}(h:(Lit.int .i64 n).wf=true):(-9223372036854775808:Int)≤n∧n≤9223372036854775807:=by
 simp only [Lit.wf,Bool.and_eq_true,decide_eq_true_eq] at h
 simp [IntKind.min,IntKind.max,IntKind.signed,IntKind.bits] at h
 omega
noncomputable def laidWorld (os : Os) : World :=
  { World.holding Tryz.prog os ⟨#[], #[], []⟩ with heap := (World.holding Tryz.prog os ⟨#[], #[], []⟩).heap.modify 0 fun
      | .cells _ t frozen => .cells (tab32.map (Value.int .u8)).toArray t frozen
      | o => o }
theorem post_of_below {H:Type}{enc:TypeId × Value→H}{P:Program}{f:Func}{s:ChangeSpec}{apart fresh handsOn again:Bool}{W W':World}{args:Array Value}{v:Value}{ds gs:List (DataW H)}{before pa pv:List MemPlace}
  (hW:DataW.Whole enc P f.params.toList s.vars apart W args.toList ds gs before)
  (hres:∀ (b:Nat) (sp:Nat→Bool) (hd:Bool),DataW.TrodAll enc P W' b sp hd f.resultTypes.toList (v.resultList f.resultTypes.size) (s.fn H (ds ++ gs)).results [])
  (hargs:∀ sp:Nat→Bool,(∀ p∈before,sp p.block=true)→DataW.TrodAll enc P W' 0 sp true f.params.toList args.toList (s.fn H (ds ++ gs)).args pa)
  (hvars:∀ sp:Nat→Bool,(∀ p∈before,sp p.block=true)→DataW.TrodVars enc P W' sp s.vars (s.fn H (ds ++ gs)).vars pv)
  (hps:before=pa ++ pv) (hb:Below W.heap.size W W')
  (hok:∀ (j:Nat) (t:TypeId) (r:Value),f.resultTypes[j]?=some t→(v.resultList f.resultTypes.size)[j]?=some r→Value.okWide P W' .any 0 t r):s.post enc P f apart fresh handsOn again W args v W':=by
 have lt:=hW.lt
 have old:∀ p∈before,(fun b=>decide (b<W.heap.size)) p.block=true:=fun p hp=>decide_eq_true (lt p hp)
 subst hps
 refine⟨ds,gs,pa ++ pv,[],pa,pv,hW,hres _ _ _,hargs _ old,hvars _ old,hb.frame _,fun _=>?_⟩
 obtain⟨_,_,_,_,_,hz,hn⟩:=hW
 have h1:=trodAll_append (hargs (fun _=>true) fun _ _=>rfl) (hres 0 (fun _=>true) true)
 refine⟨hok,_,_,_,⟨_,pv,h1,hvars _ fun _ _=>rfl,rfl,fun b off hp=>?_,fun ha=>?_⟩,fun p hp _=>?_⟩
 ·have hp':MemPlace.cell b off∈pa ++ pv:=by simpa using hp
  rw[hb.frozen (lt _ hp')]
  exact hz b off hp'
 ·simpa using hn ha
 ·simpa using hp
end Go.Proofs.YtkkbddkpggjgpaaGreatDoor


namespace Go.Proofs.YtkkbddkpggjgpaaGreatDoor.arctangentRecips
open Go.ChangeShapes Go.WideShapes Go.ChangeAt Go.RowKit
set_option maxRecDepth 100000 in
theorem contract (H:Type)(enc:TypeId × Value→H)(W:World)(base:Nat)(args:Array Value)(ds gs:List (DataW H))(before:List MemPlace)
  (hval:∀ (j:Nat) t v,Tryz.f7.params[j]?=some t→args[j]?=some v→Value.okWide Tryz.prog W .any base t v)
  (hW:DataW.Whole enc Tryz.prog Tryz.f7.params.toList Rows.arctangentRecipsSpec.vars false W args.toList ds gs before) (hL:laidMetH Tryz.prog Rows.arctangentRecipsRow.laid W) :
  Calls Tryz.prog 7 args W fun e W'=>∃ v,e=.returned v∧Rows.arctangentRecipsSpec.post enc Tryz.prog Tryz.f7 false true false false W args v W':=by
 have hW':=hW
 obtain⟨p,q,hA0,hV,rfl,hfz,hnd⟩:=hW
 have hA:DataW.TrodAll enc Tryz.prog W 0 (fun _=>true) true Tryz.f7.params.toList args.toList ds p:=hA0
 rw[Tryz.params7] at hA hval
 obtain⟨v0,vs0,d0,ds0,p0,q0,hargs0,rfl,rfl,h0,r0⟩:=trodAll_cons hA
 obtain⟨v1,vs1,d1,ds1,p1,q1,hargs1,rfl,rfl,h1,r1⟩:=trodAll_cons r0
 obtain⟨rfl,rfl,rfl⟩:=trodAll_nil r1
 obtain rfl:args=#[v0,v1]:=by cases args;simp_all
 obtain⟨rfl,rfl⟩:=trodVars_none hV
 have k0:=h0
 obtain⟨x0,rfl,rfl,rfl,w0⟩:=open_int Tryz.underlying3 (hval 0 3 v0 rfl rfl) h0
 have b0:=int_wf w0
 have k1:=h1
 obtain⟨x1,rfl,rfl,rfl,w1⟩:=open_int Tryz.underlying3 (hval 1 3 v1 rfl rfl) h1
 have b1:=int_wf w1
 clear hA0
 have hlt:=hW'.lt
 have hI:=l16_ArctangentRecips x0 x1 b0 b1
 have hC:=hI.2 W (fun _=>True) [.int .i64 x0,.int .i64 x1] (amb_of hL) (fun _ _=>trivial) (.cons .int (.cons .int (.nil)))
 refine hC.mono fun e W' hh=>?_
 obtain⟨v,rfl,hv,hb⟩:=hh
 have hv:=hv.bool_inv
 subst hv
 exact⟨_,rfl,post_of_below (pa:=([] ++ ([] ++ []))) (pv:=[]) hW' (fun _ _ _=>trodAll_cons_mk (shut_bool Tryz.underlying4 _) trodAll_mk0) (fun sp hsp=>(trodAll_cons_mk (shut_int Tryz.underlying3 w0) (trodAll_cons_mk (shut_int Tryz.underlying3 w1) trodAll_mk0))) (fun _ _=>rfl) rfl
  hb (ok_one (by kernel_rfl) rfl (okWide_bool_mk Tryz.underlying4 _))⟩
theorem laid_met (os:Os):laidMet Tryz.prog Rows.arctangentRecipsRow.laid ((laidWorld os).forCall (fun _ _=>0) ⟨#[],#[.int .i64 0,.int .i64 0],[]⟩).memory :=
 laidMet_of_run' 64 (by kernel_rfl) (by kernel_rfl)
theorem reads (os:Os){H:Type}(enc:TypeId × Value→H):∃ places,DataW.whole enc Tryz.prog ((laidWorld os).forCall (fun _ _=>0) ⟨#[],#[.int .i64 0,.int .i64 0],[]⟩).memory Tryz.f7.params.toList Rows.arctangentRecipsSpec.vars false #[Value.int .i64 0,Value.int .i64 0].toList 64=some ([.lit (.int .i64 0),.lit (.int .i64 0)],[],places) :=
 ⟨[],by kernel_rfl⟩
set_option maxRecDepth 100000 in
theorem lifted (os:Os)(started:os.Started)(H:Type)(enc:TypeId × Value→H)(F:Stop.Interp) :
  ReturnsInHanded {} Tryz.checked os 7 .any ((OpenSpec.ofChange Rows.arctangentRecipsSpec).preRow enc Tryz.prog Tryz.f7 Rows.arctangentRecipsRow.domain false Rows.arctangentRecipsRow.laid) (((OpenSpec.ofChange Rows.arctangentRecipsSpec).at F).post enc Tryz.prog Tryz.f7 false true false false):=by
 obtain⟨places,hx⟩:=reads os enc
 refine returnsInHanded_of_row (C:=Tryz.checked) (s:=OpenSpec.ofChange Rows.arctangentRecipsSpec) ownNone started (by kernel_rfl) Tryz.func7
  (witness_row_at (enc:=enc) (C:=Tryz.checked) false (laidWorld os) #[.int .i64 0,.int .i64 0] rfl (by kernel_rfl) (by kernel_rfl) (by kernel_rfl)
   (OpenSpec.preRow_of_cond 64 hx (by kernel_rfl) (fun k hk=>by cases hk) (by kernel_rfl) (laid_met os))) ?_
 intro W base args ds gs before hval hW _ _ _ hL _ _
 exact contract H enc W base args ds gs before hval hW hL
end Go.Proofs.YtkkbddkpggjgpaaGreatDoor.arctangentRecips
