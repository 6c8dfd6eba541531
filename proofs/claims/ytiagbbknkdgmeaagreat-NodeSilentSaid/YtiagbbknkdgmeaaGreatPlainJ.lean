/- Plain facts on bytes, numbers of bytes, and bits: no program in sight. -/
import Derived.WalkKit
import Derived.Lib.Hide
set_option linter.unusedSimpArgs false
set_option linter.unusedVariables false
set_option maxHeartbeats 8000000
set_option maxRecDepth 20000
namespace Go.Proofs.YtiagbbknkdgmeaaGreat
open Go.RowKit
def f9 (l:List UInt8):Nat:=l.foldl (fun n b=>n*256+b.toNat) 0
theorem aDx {α:Type} {P:List α->Prop} (h0:P []) (h1:∀l a,P l->P (l++[a])) (l:List α):P l:=by
 have:∀n,∀l:List α,l.length=n->P l:=by
  intro n
  induction n with
  | zero=>intro l hl;rw[List.eq_nil_of_length_eq_zero hl];exact h0
  | succ n ih=>
   intro l hl
   have hne:l≠[]:=by intro h;rw[h]at hl;simp at hl
   rw[<-List.dropLast_concat_getLast hne]
   exact h1 _ _ (ih _ (by simp;omega))
 exact this _ l rfl
theorem nI (l:List UInt8) (b:UInt8):f9 (l++[b])=f9 l*256+b.toNat:=by
 simp[f9,List.foldl_append]
theorem aJV (l:List UInt8):f9 l<256^l.length:=by
 induction l using aDx with
 | h0=>simp[f9]
 | h1 l b ih=>
  rw[nI,List.length_append]
  have:=b.toNat_lt
  simp only[List.length_cons,List.length_nil,Nat.zero_add,Nat.pow_succ]
  omega
theorem yJ (l:List UInt8) {k:Nat} (h:l.length<=k):f9 l<256^k:=
 Nat.lt_of_lt_of_le (aJV l) (Nat.pow_le_pow_right (by decide) h)
theorem aFV (s:ByteArray) (k:Nat) (h:k<s.size):s.data.toList.take (k+1)=s.data.toList.take k++[s[k]]:=by
 rw[List.take_succ_eq_append_getElem (by simpa using h)];rfl
def bJ (n size:Nat):List UInt8:=(List.range size).map fun k=>UInt8.ofNat (n / 256^(size - 1 - k))
@[simp] theorem nK (n size : Nat) : (bJ n size).length = size := by simp [bJ]
theorem tC (n size:Nat):bJ n (size+1)=bJ (n / 256) size++[UInt8.ofNat n]:=by
 unfold bJ
 rw[List.range_succ,List.map_append]
 congr 1
 ·apply List.map_congr_left
  intro k hk
  have hk:=List.mem_range.1 hk
  have:size+1 - 1 - k=(size - 1 - k)+1:=by omega
  rw[this,Nat.pow_succ,Nat.mul_comm,Nat.div_div_eq_div_mul]
 ·simp
theorem dY (n size:Nat):f9 (bJ n size)=n%256^size:=by
 induction size generalizing n with
 | zero=>simp[bJ,f9];omega
 | succ k ih=>
  rw[tC,nI,ih]
  have:(UInt8.ofNat n).toNat=n%256:=by simp
  rw[this,Nat.pow_succ,Nat.mul_comm (256^k),Nat.mod_mul]
  omega
theorem aCe (l:List UInt8):bJ (f9 l) l.length=l:=by
 induction l using aDx with
 | h0=>rfl
 | h1 l b ih=>
  rw[List.length_append,List.length_singleton,tC,nI]
  have hb:=b.toNat_lt
  have h1:(f9 l*256+b.toNat) / 256=f9 l:=by omega
  rw[h1,ih]
  congr 2
  apply UInt8.toNat_inj.1
  simp
theorem dR (n:Int) (h₀:0<=n) (h₁:n<2^63):IntKind.i64.wrap n=n:=by rw[IntKind.wrap_i64];omega
theorem aFW (x y:Int) (h0:0<=x) (h1:x*256<9223372036854775808) (h2:0<=y) (h3:y<256):bits .or .i64 (x*256) y=x*256+y:=
 bits_join .i64 63 (by decide) dR 8 _ _ (by omega) (by omega) (by omega) h2 (by omega) (by omega)
theorem aEi (n j:Nat):((UInt8.ofNat (n / 256^j)).toNat:Int)=(n:Int) / 2^(8*j)%256:=by
 have h3:(2:Nat)^(8*j)=256^j:=by rw[Nat.pow_mul]
 have h4:(2:Int)^(8*j)=((2^(8*j):Nat):Int):=by push_cast;rfl
 rw[h4,h3]
 simp only[UInt8.toNat_ofNat']
 omega
theorem aJW {k:IntKind} {a b:Int} (h:a=b):Ending.returned (.int k a)=.returned (.int k b):=by rw[h]
end Go.Proofs.YtiagbbknkdgmeaaGreat
