/- Bytes and bits of bytes; what loops have made; keys compared. No program in sight. -/
import Derived.Test.YtiagbbknkdgmeaaGreatRegJ
import Derived.Test.YtiagbbknkdgmeaaGreatJ2
import Derived.Laws.BitsAllLaws
import Derived.Lib.EndianBits
set_option linter.unusedSimpArgs false
set_option linter.unusedVariables false
set_option maxHeartbeats 8000000
set_option maxRecDepth 20000
namespace Go.Proofs.YtiagbbknkdgmeaaGreat
open Go.RowKit
def aU {α:Type} (f:Nat->α->α):Nat->α->α
 | 0,x=>x
 | k+1,x=>f k (aU f k x)
theorem bZ {f:Nat->List Int->List Int} (hf:∀i l,(f i l).length=l.length) (k:Nat) (xs:List Int):(aU f k xs).length=xs.length:=by
 induction k with
 | zero=>rfl
 | succ k ih=>rw[aU,hf,ih]
theorem dD {f:Nat->List Int->List Int} (hf:∀i l,(f i l).length=l.length) (k:Nat) (xs:List Int):(aU f k xs).length=xs.length:=by
 induction k with
 | zero=>rfl
 | succ k ih=>rw[aU,hf,ih]
def iR (n:Int):UInt8:=UInt8.ofNat (n%256).toNat
theorem dV {f:Nat->List UInt8->List UInt8} (hf:∀i l,(f i l).length=l.length) (k:Nat) (xs:List UInt8):(aU f k xs).length=xs.length:=by
 induction k with
 | zero=>rfl
 | succ k ih=>rw[aU,hf,ih]
theorem t6 (n:Int):((iR n).toNat:Int)=n%256:=by
 simp only[iR,UInt8.toNat_ofNat']
 omega
theorem mV (b:List UInt8) (i:Nat) (n:Int):(u8s b).set i (.int .u8 (n%256))=u8s (b.set i (iR n)):=by
 rw[u8s,u8s,List.map_set,t6]
@[simp] theorem aM4 (l : List UInt8) (i : Nat) (h : i < (u8s l).length) : (u8s l)[i] = .int .u8 ((l[i]'(by simpa using h)).toNat : Int) := by simp [u8s]
theorem jR (l:List UInt8) (i:Nat) (b:UInt8):(u8s l).set i (.int .u8 (b.toNat:Int))=u8s (l.set i b):=by simp[u8s,List.map_set]
theorem aDZ (a b:UInt8):bits .and .u8 (a.toNat:Int) (b.toNat:Int)=((a&&& b).toNat:Int):=by
 rw[(bits_nat .u8 8 (by decide) wraps_u8 _ _ a.toNat_lt b.toNat_lt).1,UInt8.toNat_and]
theorem aM5 (a b:UInt8):bits .or .u8 (a.toNat:Int) (b.toNat:Int)=((a||| b).toNat:Int):=by
 rw[(bits_nat .u8 8 (by decide) wraps_u8 _ _ a.toNat_lt b.toNat_lt).2,UInt8.toNat_or]
theorem aGI (a b:UInt8):bits .xor .u8 (a.toNat:Int) (b.toNat:Int)=((a^^^b).toNat:Int):=by
 rw[u8_xor_nat _ _ a.toNat_lt b.toNat_lt,UInt8.toNat_xor]
@[simp] theorem aMF {n : Nat} (a : List UInt8) (h : a.length = n) : eG (cS n (.int .u8)) (u8s a) = true := by
 have:=yM (n:=n) ⟨a.toArray,by simpa using h⟩ [] []
 simp only[List.append_nil]at this
 exact this
@[simp] theorem aMG (a b : List UInt8) (h : a.length = b.length) : ceq (u8s a) (u8s b) = (a == b) := aCj a b h
end Go.Proofs.YtiagbbknkdgmeaaGreat
