/- Contracts of package oct: numbers and their bytes. -/
import Derived.Test.YtiagbbknkdgmeaaGreatRows
import Derived.Test.YtiagbbknkdgmeaaGreatJ2
import Derived.WalkSpells
import Derived.WalkLawsBesides
set_option linter.unusedSimpArgs false
set_option linter.unusedVariables false
set_option maxHeartbeats 8000000
set_option maxRecDepth 20000
namespace Go.Proofs.YtiagbbknkdgmeaaGreat
open Go.RowKit
theorem cM (s:ByteArray) (w:World) (hs:s.size<=7):
  Calls Tryz.prog 154 #[.string s] w fun e w'=>e=.returned (.tuple #[.int .i64 (f9 s.data.toList),.int .i64 0])/\w=w':=by
 go_enter Tryz.func154,Tryz.ntmps154
 go_wp2
 go_loop [4,11] (fun n i=>∃k:Nat,k<=s.size/\i=.int .i64 k/\n=.int .i64 (f9 (s.data.toList.take k))) (fun _ i=>s.size - (intOf i).toNat)
 case atStart=>exact⟨0,Nat.zero_le _,rfl,rfl⟩
 case round=>
  obtain⟨k,hk,rfl,rfl⟩:=hrel
  by_cases hlt:k<s.size
  ·have hn:f9 (s.data.toList.take k)<281474976710656:=yJ (k:=6) _ (by rw[List.length_take];omega)
   have hb:=s[k].toNat_lt
   have H:=h_ (nI (s.data.toList.take k) s[k])
   rw[<-aFV s k hlt]at H
   go_wp2
   go_round
   case rel=>exact⟨k+1,by omega,by go_num,by rw[aFW _ _ (by omega) (by omega) (by omega) (by omega),H.out];go_num⟩
   case measure=>simp[intOf];omega
  ·go_wp2
   go_ret2
   have:k=s.size:=by omega
   subst this
   rw[List.take_of_length_le (by simp)]
   exact⟨rfl,rfl⟩
theorem aA8 (n size:Nat) (w:World) (hn:n<=4294967295) (hs:size<=7):
  Calls Tryz.prog 117 #[.int .i64 n,.int .i64 size] w fun e w'=>e=.returned (.string ⟨(bJ n size).toArray⟩)/\Below w.heap.size w w':=by
 go_enter Tryz.func117,Tryz.ntmps117
 go_wp2
 go_loopw [5,6] (fun b i wr=>∃k:Nat,k<=size/\i=.int .i64 ((size:Int) - 1 - k)/\wr.ownsRow w.heap.size 5 1 b k (u8s ((bJ n size).take k))/\Below w.heap.size w wr) (fun _ i _=>(intOf i+1).toNat)
 case atStart=>exact⟨0,Nat.zero_le _,by simp,World.ownsRow_nil _ _ _ _,Below.refl _ _⟩
 case round=>
  obtain⟨k,hk,rfl,hown,hbel⟩:=hrel
  by_cases hlt:k<size
  ·obtain⟨j,hj⟩:∃j:Nat,(size:Int) - 1 - k=j:=⟨size - 1 - k,by omega⟩
   rw[hj]
   have HJ:=h_ hj
   have hj7:j<=6:=by omega
   clear hj
   have hsz:=hbel.size
   have hb:((n:Int) / 2^(8*j)%256)=((UInt8.ofNat (n / 256^(size - 1 - k))).toNat:Int):=by
    have h1:=HJ.out
    have h2:size - 1 - k=j:=by omega
    rw[h2,aEi]
   have HB:=h_ hb
   clear hb
   go_wp2_with (at_builtin;refine jX rfl rfl inferInstance w.heap.size _ k _ rfl hown _ (UInt8.ofNat (n / 256^(size - 1 - k))) rfl HB.out (by omega) hsz ?_)
   intro v' w1 hown1 hbel1
   have hlt':k<(bJ n size).length:=by rw[nK];exact hlt
   have e1:(bJ n size).take (k+1)=(bJ n size).take k++[UInt8.ofNat (n / 256^(size - 1 - k))]:=by
    rw[List.take_succ_eq_append_getElem hlt']
    simp[bJ]
   have E1:=h_ e1
   clear e1
   go_wp2
   go_roundw
   case rel=>exact⟨k+1,by omega,by have:=HJ.out;simp;omega,by rw[E1.out,gC];exact hown1,hbel.trans hbel1⟩
   case measure=>simp[intOf]
  ·obtain rfl:k=size:=by omega
   have hi:(k:Int) - 1 - k= -1:=by omega
   rw[hi]
   rw[List.take_of_length_le (by rw[nK];omega)]at hown
   have hc:=aAK (P:=Tryz.prog) (src:=168) (dst:=9) hown
   go_wp2
   go_ret
   exact⟨rfl,hbel⟩
theorem fW (n:Int) (w:World) (h0:0<=n) (h1:n<=65535):
  Calls Tryz.prog 85 #[.int .i64 n] w fun e w'=>e=.returned (.string ⟨(bJ n.toNat 2).toArray⟩)/\Below w.heap.size w w':=by
 obtain⟨m,rfl⟩:=Int.eq_ofNat_of_zero_le h0
 rw[Int.toNat_natCast]
 go_enter Tryz.func85,Tryz.ntmps85
 go_wp2_with (go_at_call 117;refine(aA8 m 2 _ (by omega) (by omega)).mono ?_;rintro e w1 ⟨rfl,hb1⟩)
 go_ret
 exact⟨rfl,hb1⟩
theorem aDQ (n:Int) (w:World) (h0:0<=n) (h1:n<=4294967295):
  Calls Tryz.prog 84 #[.int .i64 n] w fun e w'=>e=.returned (.string ⟨(bJ n.toNat 4).toArray⟩)/\Below w.heap.size w w':=by
 obtain⟨m,rfl⟩:=Int.eq_ofNat_of_zero_le h0
 rw[Int.toNat_natCast]
 go_enter Tryz.func84,Tryz.ntmps84
 go_wp2_with (go_at_call 117;refine(aA8 m 4 _ (by omega) (by omega)).mono ?_;rintro e w1 ⟨rfl,hb1⟩)
 go_ret
 exact⟨rfl,hb1⟩
end Go.Proofs.YtiagbbknkdgmeaaGreat
