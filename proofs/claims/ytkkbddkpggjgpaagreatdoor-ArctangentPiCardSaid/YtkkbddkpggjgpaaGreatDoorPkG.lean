/-
  Lower layers: what functions of the program compute, and plain facts. Conditions: as the theorems say.
-/
import Derived.Lib.TrailingZeros
import Derived.WalkKit
import Derived.Test.YtkkbddkpggjgpaaGreatDoorPkF
set_option linter.unusedVariables false
set_option linter.unusedSimpArgs false
namespace Go.Proofs.YtkkbddkpggjgpaaGreatDoor
open Go.RowKit
set_option maxHeartbeats 4000000
set_option maxRecDepth 100000
theorem wrap_u32'' (n:Int):IntKind.u32.wrap n=n%4294967296:=by simp [IntKind.wrap,IntKind.signed,IntKind.bits]
theorem bits_and_u32_nat (a b:Nat)(ha:a<4294967296)(hb:b<4294967296):bits .and .u32 (a:Int) (b:Int)=((a &&& b:Nat):Int):=by
 have hx:a &&& b<2^32:=Nat.and_lt_two_pow _ (by omega)
 have h1:(BitVec.ofInt 32 (a:Int)).toNat=a:=by
  rw[BitVec.ofInt_natCast,BitVec.toNat_ofNat];exact Nat.mod_eq_of_lt (by omega)
 have h2:(BitVec.ofInt 32 (b:Int)).toNat=b:=by
  rw[BitVec.ofInt_natCast,BitVec.toNat_ofNat];exact Nat.mod_eq_of_lt (by omega)
 show IntKind.u32.wrap ((BitVec.ofInt 32 (a:Int) &&& BitVec.ofInt 32 (b:Int)).toNat:Int)=_
 rw[BitVec.toNat_and,h1,h2,wrap_u32'']
 omega
theorem tz32_core (x k idx:Nat)(w:World)(hx0:((x:Int) == 0)=false)
  (key:bits BinOp.and IntKind.u32 (x:Int) (-(x:Int)%4294967296)*125613361%4294967296 / 134217728=(idx:Int))
  (hi:idx<32) (hk:k<32) (hcell:w.cell? ⟨0,idx,none⟩=some (.int .u8 k)) :
  Calls Tryz.prog 183 #[.int .u32 x] w fun e w'=>e=.returned (.int .i64 k)∧w'=w:=by
 go_enter Tryz.func183,Tryz.ntmps183
 go_wp2_with (simp only [key])
 go_ret
 exact⟨rfl,rfl⟩
theorem tz32_key (x a:Nat)(hx:x<4294967296)(hx0:x≠0)(hlow:x &&& (4294967296-x)=a) :
  bits BinOp.and IntKind.u32 (x:Int) (-(x:Int)%4294967296)*125613361%4294967296 / 134217728=((a*125613361%4294967296 / 134217728:Nat):Int):=by
 have e1:-(x:Int)%4294967296=((4294967296-x:Nat):Int):=by omega
 rw[e1,bits_and_u32_nat x _ hx (by omega),hlow]
 omega
theorem tab_at:∀ j,j<32→tab32[j]?=some ((Lib.deBruijn32tab.getD j 0:Nat):Int):=by decide
theorem tz32_calls (x:Nat)(hx:x<4294967296)(hx0:x≠0)(w:World)(hA:Amb w) :
  Calls Tryz.prog 183 #[.int .u32 x] w fun e w'=>e=.returned (.int .i64 (Lib.ctz 32 x))∧w'=w:=by
 obtain⟨hlow,hk⟩:=Lib.lowest_bit 32 x hx0 hx
 obtain⟨hi,htab⟩:=Lib.deBruijn32_at _ hk
 have hT:∀ j,j<32→w.cell? ⟨0,j,none⟩=some (.int .u8 (Lib.deBruijn32tab.getD j 0:Nat)):=fun j hj=>hA j _ (tab_at j hj)
 have hcell:=hT _ hi
 rw[htab] at hcell
 exact tz32_core x _ _ w (by simp;omega) (tz32_key x _ hx hx0 hlow) hi hk hcell
#print axioms len32_calls
#print axioms tz32_calls
theorem impl_calls {f:FuncId}{k:IntKind}{x:Int}{r:Int→Int}(hok:okFn Tryz.prog f=true)(h:∀ w,Amb w→Calls Tryz.prog f #[.int k x] w fun e w'=>e=.returned (.int .i64 (r x))∧w'=w) :
  Impl Tryz.prog Amb f [.int k x] (.int .i64 (r x)):=by
 refine⟨hok,fun w S args hC _ hargs=>?_⟩
 cases hargs with | cons h1 h2=>cases h2 with | nil =>
 obtain rfl:=h1.int_inv
 refine (h w hC).mono ?_
 rintro e w' ⟨rfl,rfl⟩
 exact⟨_,rfl,.int,Below.refl _ _⟩
theorem len32 (x:Int)(c0:0≤x∧x<4294967296):Impl Tryz.prog Amb 191 [.int .u32 x] (.int .i64 (Lib.bitLen x.toNat:Int)) :=
 impl_calls (r:=fun x=>(Lib.bitLen x.toNat:Int)) (by kernel_rfl) fun w _=>len32_calls x w c0.1 (by omega)
theorem tz32 (x:Int)(c0:0<x∧x<4294967296):Impl Tryz.prog Amb 183 [.int .u32 x] (.int .i64 (Lib.ctz 32 x.toNat:Int)) :=
 impl_calls (r:=fun x=>(Lib.ctz 32 x.toNat:Int)) (by kernel_rfl) fun w hA=>by
  have:=tz32_calls x.toNat (by omega) (by omega) w hA
  rwa [Int.toNat_of_nonneg (by omega)] at this
end Go.Proofs.YtkkbddkpggjgpaaGreatDoor
