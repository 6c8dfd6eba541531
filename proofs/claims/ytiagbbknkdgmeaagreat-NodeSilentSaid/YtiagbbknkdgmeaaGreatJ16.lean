/- Texts of this proof, merged: EthR, EthS, EthD, EthP, EthM. -/
import Derived.Test.YtiagbbknkdgmeaaGreatJ13
import Derived.Deep.RegionHeld3
import Derived.Recover
import Derived.Test.YtiagbbknkdgmeaaGreatJ3
import Derived.Deep.OwnRows
set_option linter.unusedSimpArgs false
set_option linter.unusedVariables false
set_option maxHeartbeats 8000000
set_option maxRecDepth 20000
namespace Go.Proofs.YtiagbbknkdgmeaaGreat
section
open Go.RowKit
def sW (n:Int):List PanicEntry:=[{v:=.iface 33 (.int .i64 n),recovered:=false}]
theorem yU (R n:Nat) (l:List UInt8) (w:World) (hR:row w R=#[.string ⟨l.toArray⟩]) (hn:n<=l.length) (hl:l.length<=1000000):
  Calls Tryz.prog 153 #[.pointer (some ⟨R,0,none⟩),.int .i64 n] w fun e w'=>e=.returned (.string ⟨(l.take n).toArray⟩)/\w'=w.setRow R #[.string ⟨(l.drop n).toArray⟩]:=by
 have h1:(n:Int)<=l.length:=by omega
 have h2:(l.length:Int)<=1000000:=by omega
 go_enter Tryz.func153,Tryz.ntmps153
 go_wp2
 go_ret
 exact⟨by simp,by simp⟩
theorem mS (R n:Nat) (l:List UInt8) (w:World) (hR:row w R=#[.string ⟨l.toArray⟩]) (hn:l.length<n) (hl:n<=1000000):
  Calls Tryz.prog 153 #[.pointer (some ⟨R,0,none⟩),.int .i64 n] w fun e w'=>e=.panicked (sW 2)/\w=w':=by
 have h1:(l.length:Int)<n:=by omega
 have h2:(n:Int)<=1000000:=by omega
 go_enter Tryz.func153,Tryz.ntmps153
 go_wp2
 exact⟨rfl,rfl,rfl⟩
theorem kM (n:Int) (w:World):Calls Tryz.prog 123 #[.bool true,.int .i64 n] w fun e w'=>e=.returned (.tuple #[])/\w=w':=by
 go_enter Tryz.func123,Tryz.ntmps123
 go_wp2
 go_end0
 exact⟨rfl,rfl⟩
theorem mT (n:Int) (w:World):Calls Tryz.prog 123 #[.bool false,.int .i64 n] w fun e w'=>e=.panicked (sW n)/\w=w':=by
 go_enter Tryz.func123,Tryz.ntmps123
 go_wp2
 exact⟨rfl,rfl,rfl⟩
def zeroEth:List Value:=aH 12 (.int .u8 0)++[.int .i64 0,.string ⟨#[]⟩,.int .i64 0,.int .i64 0]
theorem vU (X E:Nat) (n m:Int) (w:World) (B:Nat) (hX:(row w X).size=16) (hE:row w E=#[.int .i64 m]) (hXE:X≠E) (hBX:B<=X) (hBE:B<=E):
  CallsD Tryz.prog 119 #[.pointer (some ⟨X,0,none⟩),.pointer (some ⟨E,0,none⟩)] (.panicking (sW n)) w fun e u' w'=>
   e=.returned (.tuple #[])/\u'=.panicking [{v:=.iface 33 (.int .i64 n),recovered:=true}]/\row w' X=zeroEth.toArray/\row w' E=#[.int .i64 n]/\Below B w w':=by
 have hE2:=aC (w:=w) X E (aH 12 (.int .u8 0)++.int .i64 0::.string ⟨#[]⟩::aH 2 (.int .i64 0)).toArray (Ne.symm hXE)
 rw[hE]at hE2
 refine callsD_of_wpS Tryz.func119 rfl fun c₀ cs hu=>?_
 apply wpS_seq
 apply wpS_region
 simp[wpOpsS,go_sem,recoverD,hu,sW,Tryz.ntmps119,Exit.thenS]
 apply wpS_seq
 apply wpS_region
 simp[wpOpsS,go_sem,Exit.thenS]
 refine wpS_cond (t:=true) (by simp[Act.eval,Array.replicate]) ?_
 simp only[if_true]
 refine wpS_of_wp ?_
 rw[show(Array.replicate 7 undef:Array Value)=#[undef,undef,undef,undef,undef,undef,undef]from rfl]
 simp only[List.setIfInBounds_toArray,List.set_cons_zero,List.set_cons_succ,List.append_toArray,List.cons_append,List.nil_append]
 refine dS rfl (fun hS=>?_)
 refine rp 0 hS ?_
 refine rp 1 hS ?_
 refine rp 2 hS ?_
 refine wpAnyH_all (rs:=[3]) kr_ (by simp) ?_
 intro i hi
 obtain rfl:=List.mem_singleton.1 hi
 refine wpOp_step rfl (fun K hK=>?_)
 clear hi hS
 go_simp
 refine hK _ _ (bC ?_ (fun hS=>?_))
 ·unfold cQ
  simp[go_sem]
 clear hK K
 refine wpAnyH_all (rs:=[4]) kr_ (by simp) ?_
 intro i hi
 obtain rfl:=List.mem_singleton.1 hi
 refine wpOp_step rfl (fun K hK=>?_)
 clear hi hS
 go_simp
 refine hK _ _ (bC ?_ (fun hS=>?_))
 ·unfold cQ
  simp[go_sem]
 clear hK K
 refine wpAnyH_done kr_ ?_ _
 have r1:row (w.setRow X zeroEth.toArray) X=zeroEth.toArray:=aB (by omega) (by simp[hX,zeroEth])
 have r2:=aC (w:=w.setRow X zeroEth.toArray) E X #[.int .i64 n] hXE
 have r3:=aB (w:=w.setRow X zeroEth.toArray) (g:=E) (c:=#[.int .i64 n]) (by rw[show row (w.setRow X zeroEth.toArray) E=_ from hE2];simp) (by rw[show row (w.setRow X zeroEth.toArray) E=_ from hE2];simp)
 refine⟨rfl,_,rfl,.tuple #[],by simp[results,Tryz.results119],rfl,rfl,r2.trans r1,r3,?_⟩
 (repeat (first | exact Below.refl _ _ | refine Below.al ?_ _ | refine Below.drew ?_ | refine Below.sr ?_ _ | refine Below.sc ?_ _))
theorem yV (X E:Nat) (w:World):
  CallsD Tryz.prog 119 #[.pointer (some ⟨X,0,none⟩),.pointer (some ⟨E,0,none⟩)] .returning w fun e u' w'=>
   e=.returned (.tuple #[])/\u'=.returning/\w'=w:=by
 refine callsD_of_wpS Tryz.func119 rfl fun c₀ cs hu=>?_
 apply wpS_seq
 apply wpS_region
 simp[wpOpsS,go_sem,recoverD,hu,sW,Tryz.ntmps119,Exit.thenS]
 apply wpS_seq
 apply wpS_region
 simp[wpOpsS,go_sem,Exit.thenS]
 refine wpS_cond (t:=false) (by simp[Act.eval,Array.replicate]) ?_
 simp only[Bool.false_eq_true,if_false]
 refine wpS_of_wp (wp_skip ?_)
 cases c₀
 simp_all[bodyPostS,results,Tryz.results119]
theorem aGu (R:Nat) (l:List UInt8) (w:World) (hR:row w R=#[.string ⟨l.toArray⟩]) (hRw:R<w.heap.size) (hn:6<=l.length) (hl:l.length<=1000000):
  Calls Tryz.prog 120 #[.pointer (some ⟨R,0,none⟩)] w fun e w'=>e=.returned (.agg (u8v (aI l 0 6)).toArray)/\Below w.heap.size (w.setRow R #[.string ⟨(l.drop 6).toArray⟩]) w':=by
 have hlen:(l.take 6).length=6:=by simp;omega
 go_enter Tryz.func120,Tryz.ntmps120
 go_wp2_with fail
 refine(yU R 6 l _ (by simp[go_sem,hRw,hR]) hn hl).mono ?_
 rintro e w1 ⟨rfl,rfl⟩
 go_wp2_with fail
 ((try simp only[Exit.inBlock,Exit.then]);refine bodyPost_ret (aV rfl (aK rfl ?_)) rfl ?_;(simp[go_sem]))
 ·omega
 refine⟨by rw[aZ _ _ _ (by omega)];simp[go_sem],?_⟩
 (repeat (first | exact Below.refl _ _ | refine Below.al ?_ _ | refine Below.drew ?_ | refine Below.sr ?_ _ | refine Below.sc ?_ _))
theorem xD (R:Nat) (l:List UInt8) (w:World) (hR:row w R=#[.string ⟨l.toArray⟩]) (hRw:R<w.heap.size) (hn:l.length<6):
  Calls Tryz.prog 120 #[.pointer (some ⟨R,0,none⟩)] w fun e w'=>e=.panicked (sW 2)/\Below w.heap.size w w':=by
 go_enter Tryz.func120,Tryz.ntmps120
 go_wp2_with fail
 refine(mS R 6 l _ (by simp[go_sem,hRw,hR]) hn (by omega)).mono ?_
 rintro e w1 ⟨rfl,rfl⟩
 refine⟨rfl,rfl,?_⟩
 (repeat (first | exact Below.refl _ _ | refine Below.al ?_ _ | refine Below.drew ?_ | refine Below.sr ?_ _ | refine Below.sc ?_ _))
theorem yW (R:Nat) (l:List UInt8) (w:World) (hR:row w R=#[.string ⟨l.toArray⟩]) (hn:2<=l.length) (hl:l.length<=1000000):
  Calls Tryz.prog 121 #[.pointer (some ⟨R,0,none⟩)] w fun e w'=>e=.returned (.int .i64 (f9 (l.take 2)))/\w'=w.setRow R #[.string ⟨(l.drop 2).toArray⟩]:=by
 have hlen:(l.take 2).length=2:=by simp;omega
 go_enter Tryz.func121,Tryz.ntmps121
 go_wp2_with fail
 refine(yU R 2 l _ hR hn hl).mono ?_
 rintro e w1 ⟨rfl,rfl⟩
 go_wp2_with fail
 refine(cM _ _ (by simp[ByteArray.size];omega)).mono ?_
 rintro e w1 ⟨rfl,rfl⟩
 go_wp2_with fail
 go_ret
 exact⟨rfl,rfl⟩
theorem pD (R:Nat) (l:List UInt8) (w:World) (hR:row w R=#[.string ⟨l.toArray⟩]) (hn:l.length<2):
  Calls Tryz.prog 121 #[.pointer (some ⟨R,0,none⟩)] w fun e w'=>e=.panicked (sW 2)/\w=w':=by
 go_enter Tryz.func121,Tryz.ntmps121
 go_wp2_with fail
 refine(mS R 2 l _ hR hn (by omega)).mono ?_
 rintro e w1 ⟨rfl,rfl⟩
 exact⟨rfl,rfl,rfl⟩
end
section
open Go.RowKit
theorem tS (n:Nat) (h:n<65536):bits .and .i64 (n:Int) 4096=if n / 4096%2=1 then 4096 else 0:=by
 have h1:=(bits_nat .i64 63 (by decide) dR n 4096 (by omega) (by omega)).1
 have h2:n&&& 4096=if n / 4096%2=1 then 4096 else 0:=by
  have h3:n&&& 4096=n%8192&&& 4096:=by
   rw[show n%8192=n&&& 8191 from (Nat.and_two_pow_sub_one_eq_mod n 13).symm,Nat.and_assoc]
   rfl
  have h4:n%8192<8192:=Nat.mod_lt _ (by omega)
  rw[h3]
  by_cases hb:n / 4096%2=1
  ·rw[if_pos hb]
   have h5:n%8192=2^12*1+n%4096:=by omega
   rw[h5,Nat.two_pow_add_eq_or_of_lt (by omega),Nat.and_or_distrib_right]
   have h6:n%4096&&& 4096=0:=by
    rw[show n%4096=n&&& 4095 from (Nat.and_two_pow_sub_one_eq_mod n 12).symm,Nat.and_assoc]
    exact Nat.and_zero n
   rw[h6]
   rfl
  ·rw[if_neg hb]
   have h5:n%8192=n%4096:=by omega
   rw[h5,show n%4096=n&&& 4095 from (Nat.and_two_pow_sub_one_eq_mod n 12).symm,Nat.and_assoc]
   exact Nat.and_zero n
 rw[show(4096:Int)=((4096:Nat):Int)from rfl,h1,h2]
 split<;>rfl
theorem aIu (n:Nat) (h:n<65536):bits .and .i64 (n:Int) 4095=((n%4096:Nat):Int):=by
 have:=bits_mask .i64 63 (by decide) dR 12 (by decide) n (by omega) (by omega)
 simpa using this
theorem aLQ (X R:Nat) (dst src:Vector UInt8 6) (l:List UInt8) (w:World) (hX:row w X=(u8v dst++(u8v src++[Value.int .i64 0,.string ⟨#[]⟩,.int .i64 (-1),.int .i64 0])).toArray) (hR:row w R=#[.string ⟨l.toArray⟩]) (hXR:X≠R) (hn:2<=l.length) (hl:l.length<=1000000) (hs:¬f9 (l.take 2) / 4096%2=1):
  Calls Tryz.prog 122 #[.pointer (some ⟨X,0,none⟩),.pointer (some ⟨R,0,none⟩)] w fun e w'=>e=.returned (.tuple #[])/\
   w'=(w.setRow R #[.string ⟨(l.drop 2).toArray⟩]).setRow X (u8v dst++(u8v src++[Value.int .i64 0,.string ⟨#[]⟩,.int .i64 ((f9 (l.take 2)%4096:Nat):Int),.int .i64 ((f9 (l.take 2) / 8192:Nat):Int)])).toArray:=by
 have hnb:f9 (l.take 2)<65536:=yJ (k:=2) _ (by rw[List.length_take];omega)
 have hXR2:=aC (w:=w) R X #[.string ⟨(l.drop 2).toArray⟩] hXR
 rw[hX]at hXR2
 go_enter Tryz.func122,Tryz.ntmps122
 go_wp2_with fail
 refine(yW R l _ hR hn hl).mono ?_
 rintro e w1 ⟨rfl,rfl⟩
 obtain⟨n,hnn⟩:∃n,f9 (l.take 2)=n:=⟨_,rfl⟩
 rw[hnn]at hs hnb ⊢
 have ha:=tS n hnb
 rw[if_neg hs]at ha
 have hv:=aIu n hnb
 have hX1:=aB (w:=w.setRow R #[.string ⟨(l.drop 2).toArray⟩]) (g:=X) (c:=(u8v dst++(u8v src++[Value.int .i64 0,.string ⟨#[]⟩,.int .i64 ((n:Int)%4096),.int .i64 0])).toArray) (by rw[hXR2];simp) (by rw[hXR2];simp)
 go_wp2_with fail
 refine(kM _ _).mono ?_
 rintro e w1 ⟨rfl,rfl⟩
 go_wp2_with fail
 go_end0
 subst hnn
 exact⟨rfl,by simp⟩
theorem aGv (X R:Nat) (l:List UInt8) (w:World) (hR:row w R=#[.string ⟨l.toArray⟩]) (hn:l.length<2):
  Calls Tryz.prog 122 #[.pointer (some ⟨X,0,none⟩),.pointer (some ⟨R,0,none⟩)] w fun e w'=>e=.panicked (sW 2)/\w=w':=by
 go_enter Tryz.func122,Tryz.ntmps122
 go_wp2_with fail
 refine(pD R l _ hR hn).mono ?_
 rintro e w1 ⟨rfl,rfl⟩
 exact⟨rfl,rfl,rfl⟩
theorem aCC (X R:Nat) (l:List UInt8) (w:World) (hR:row w R=#[.string ⟨l.toArray⟩]) (hn:2<=l.length) (hl:l.length<=1000000) (hs:f9 (l.take 2) / 4096%2=1):
  Calls Tryz.prog 122 #[.pointer (some ⟨X,0,none⟩),.pointer (some ⟨R,0,none⟩)] w fun e w'=>e=.panicked (sW 3)/\w'=w.setRow R #[.string ⟨(l.drop 2).toArray⟩]:=by
 have hnb:f9 (l.take 2)<65536:=yJ (k:=2) _ (by rw[List.length_take];omega)
 go_enter Tryz.func122,Tryz.ntmps122
 go_wp2_with fail
 refine(yW R l _ hR hn hl).mono ?_
 rintro e w1 ⟨rfl,rfl⟩
 obtain⟨n,hnn⟩:∃n,f9 (l.take 2)=n:=⟨_,rfl⟩
 rw[hnn]at hs hnb ⊢
 have ha:=tS n hnb
 rw[if_pos hs]at ha
 go_wp2_with fail
 refine(mT _ _).mono ?_
 rintro e w1 ⟨rfl,rfl⟩
 exact⟨rfl,rfl,rfl⟩
section
variable (X R:Nat) (dst src:Vector UInt8 6) (l:List UInt8) (n:Nat) (v p:Int) (w:World)
theorem aDU (hX:row w X=(u8v dst++(u8v src++[Value.int .i64 0,.string ⟨#[]⟩,.int .i64 v,.int .i64 p])).toArray) (hR:row w R=#[.string ⟨l.toArray⟩]) (hXR:X≠R) (hn:n<=1500) (hnl:n<=l.length) (hl:l.length<=1000000):
  Calls Tryz.prog 124 #[.pointer (some ⟨X,0,none⟩),.pointer (some ⟨R,0,none⟩),.int .i64 n] w fun e w'=>e=.returned (.tuple #[])/\
   w'=(w.setRow R #[.string ⟨(l.drop n).toArray⟩]).setRow X (u8v dst++(u8v src++[Value.int .i64 0,.string ⟨(l.take n).toArray⟩,.int .i64 v,.int .i64 p])).toArray:=by
 have hXR2:=aC (w:=w) R X #[.string ⟨(l.drop n).toArray⟩] hXR
 rw[hX]at hXR2
 have hn1:(n:Int)<=1500:=by omega
 go_enter Tryz.func124,Tryz.ntmps124
 go_wp2_with fail
 refine(yU R n l _ hR hnl hl).mono ?_
 rintro e w1 ⟨rfl,rfl⟩
 go_wp2_with fail
 first | go_end0 | refine bodyPost_ret (results_none rfl _ _ _) rfl ?_
 exact⟨rfl,by simp⟩
theorem xE (hR:row w R=#[.string ⟨l.toArray⟩]) (hn:n<=1500) (hnl:l.length<n):
  Calls Tryz.prog 124 #[.pointer (some ⟨X,0,none⟩),.pointer (some ⟨R,0,none⟩),.int .i64 n] w fun e w'=>e=.panicked (sW 2)/\w=w':=by
 have hn1:(n:Int)<=1500:=by omega
 go_enter Tryz.func124,Tryz.ntmps124
 go_wp2_with fail
 refine(mS R n l _ hR hnl (by omega)).mono ?_
 rintro e w1 ⟨rfl,rfl⟩
 exact⟨rfl,rfl,rfl⟩
theorem aDV (hn:1500<n) (hb:n<1536∨n=33024):
  Calls Tryz.prog 124 #[.pointer (some ⟨X,0,none⟩),.pointer (some ⟨R,0,none⟩),.int .i64 n] w fun e w'=>e=.panicked (sW 3)/\w=w':=by
 have hn1:¬(n:Int)<=1500:=by omega
 rcases hb with hb | rfl
 ·have hn2:¬1536<=(n:Int):=by omega
  go_enter Tryz.func124,Tryz.ntmps124
  go_wp2_with fail
  refine(mT _ _).mono ?_
  rintro e w1 ⟨rfl,rfl⟩
  exact⟨rfl,rfl,rfl⟩
 ·go_enter Tryz.func124,Tryz.ntmps124
  go_wp2_with fail
  refine(mT _ _).mono ?_
  rintro e w1 ⟨rfl,rfl⟩
  exact⟨rfl,rfl,rfl⟩
theorem xG (hX:row w X=(u8v dst++(u8v src++[Value.int .i64 0,.string ⟨#[]⟩,.int .i64 v,.int .i64 p])).toArray) (hR:row w R=#[.string ⟨l.toArray⟩]) (hXR:X≠R) (hn:1536<=n) (hnb:n≠33024):
  Calls Tryz.prog 124 #[.pointer (some ⟨X,0,none⟩),.pointer (some ⟨R,0,none⟩),.int .i64 n] w fun e w'=>e=.returned (.tuple #[])/\
   w'=w.setRow X (u8v dst++(u8v src++[Value.int .i64 n,.string ⟨l.toArray⟩,.int .i64 v,.int .i64 p])).toArray:=by
 have hn1:¬(n:Int)<=1500:=by omega
 have hn2:1536<=(n:Int):=by omega
 have hn3:((n:Int) !=33024)=true:=by simp;omega
 have hX1:=aB (w:=w) (g:=X) (c:=(u8v dst++(u8v src++[Value.int .i64 n,.string ⟨#[]⟩,.int .i64 v,.int .i64 p])).toArray) (by rw[hX];simp) (by rw[hX];simp)
 have hR1:=aC (w:=w) X R (u8v dst++(u8v src++[Value.int .i64 n,.string ⟨#[]⟩,.int .i64 v,.int .i64 p])).toArray (Ne.symm hXR)
 rw[hR]at hR1
 go_enter Tryz.func124,Tryz.ntmps124
 go_wp2_with fail
 refine(kM _ _).mono ?_
 rintro e w1 ⟨rfl,rfl⟩
 go_wp2_with fail
 go_end0
 exact⟨rfl,by simp⟩
end
end
section
open Go.RowKit
structure EthD where
 dst:Vector UInt8 6
 src:Vector UInt8 6
 ty:Int
 body:List UInt8
 vlan:Int
 prio:Int
def aW (l:List UInt8) (k:Nat):Nat:=f9 ((l.drop k).take 2)
theorem lT (l:List UInt8) (k:Nat):aW l k<65536:=yJ (k:=2) _ (by rw[List.length_take];omega)
def dC (l:List UInt8) (n k:Nat) (v p:Int):Except Int EthD:=
 if 1500+k<l.length then .error 3
 else if n<=1500 then
  if l.length<k+n then .error 2
  else if 4094<v then .error 12 else .ok ⟨aI l 0 6,aI l 6 6,0,(l.drop k).take n,v,p⟩
 else if n<1536∨n=33024 then .error 3
 else if 4094<v then .error 12 else .ok ⟨aI l 0 6,aI l 6 6,n,l.drop k,v,p⟩
def bM (l:List UInt8):Except Int EthD:=
 if l.length<14 then .error 2
 else if aW l 12=33024 then
  if l.length<16 then .error 2
  else if aW l 14 / 4096%2=1 then .error 3
  else if l.length<18 then .error 2
  else dC l (aW l 16) 18 ((aW l 14%4096:Nat):Int) ((aW l 14 / 8192:Nat):Int)
 else dC l (aW l 12) 14 (-1) 0
section
variable {l:List UInt8} {n k:Nat} {v p:Int}
theorem qL (h1:1500+k<l.length):dC l n k v p=.error 3:=by
 unfold dC
 rw[if_pos h1]
theorem oA (h1:¬1500+k<l.length) (h2:n<=1500) (h3:l.length<k+n):dC l n k v p=.error 2:=by
 unfold dC
 rw[if_neg h1,if_pos h2,if_pos h3]
theorem aBj (h1:¬1500+k<l.length) (h2:n<=1500) (h3:¬l.length<k+n) (h4:4094<v):dC l n k v p=.error 12:=by
 unfold dC
 rw[if_neg h1,if_pos h2,if_neg h3,if_pos h4]
theorem tT (h1:¬1500+k<l.length) (h2:n<=1500) (h3:¬l.length<k+n) (h4:¬4094<v):dC l n k v p=.ok ⟨aI l 0 6,aI l 6 6,0,(l.drop k).take n,v,p⟩:=by
 unfold dC
 rw[if_neg h1,if_pos h2,if_neg h3,if_neg h4]
theorem tU (h1:¬1500+k<l.length) (h2:¬n<=1500) (h3:n<1536∨n=33024):dC l n k v p=.error 3:=by
 unfold dC
 rw[if_neg h1,if_neg h2,if_pos h3]
theorem aCD (h1:¬1500+k<l.length) (h2:¬n<=1500) (h3:¬(n<1536∨n=33024)) (h4:4094<v):dC l n k v p=.error 12:=by
 unfold dC
 rw[if_neg h1,if_neg h2,if_neg h3,if_pos h4]
theorem xH (h1:¬1500+k<l.length) (h2:¬n<=1500) (h3:¬(n<1536∨n=33024)) (h4:¬4094<v):dC l n k v p=.ok ⟨aI l 0 6,aI l 6 6,n,l.drop k,v,p⟩:=by
 unfold dC
 rw[if_neg h1,if_neg h2,if_neg h3,if_neg h4]
end
theorem lU (l:List UInt8) (k n:Nat) (h:k+2<=n):aW (l.take n) k=aW l k:=by
 unfold aW
 rw[List.drop_take,List.take_take,Nat.min_eq_left (by omega)]
theorem lV (l:List UInt8) (k m n:Nat) (h:k+m<=n) (hl:k+m<=l.length):aI (l.take n) k m=aI l k m:=by
 apply Vector.toList_inj.1
 rw[cR _ _ _ (by simp;omega),cR _ _ _ hl,List.drop_take,List.take_take,Nat.min_eq_left (by omega)]
theorem gW {n:Nat} (a c:List UInt8) (v:Vector UInt8 n) (k:Nat) (h:a.length=k):aI (a++(v.toList++c)) k n=v:=by
 apply Vector.toList_inj.1
 rw[cR _ _ _ (by simp;omega)]
 subst h
 rw[List.drop_left,List.take_left' (by simp)]
theorem jA (a b c:List UInt8) (k:Nat) (h:a.length=k) (hb:b.length=2):aW (a++(b++c)) k=f9 b:=by
 unfold aW
 subst h
 rw[List.drop_left,List.take_left' hb]
section
variable (dst src:Vector UInt8 6) (ty:Int) (body:List UInt8) (vlan prio:Int)
def tyN (ty:Int) (body:List UInt8):Nat:=(if ty=0 then (body.length:Int)else ty).toNat
theorem aIv:aI (oW dst src ty body vlan prio) 0 6=dst:=by
 have:=gW [] (src.toList++(aGm vlan prio++(bJ (tyN ty body) 2++body))) dst 0 rfl
 simpa[oW,tyN]using this
theorem aIw:aI (oW dst src ty body vlan prio) 6 6=src:=by
 have:=gW dst.toList (aGm vlan prio++(bJ (tyN ty body) 2++body)) src 6 (by simp)
 simpa[oW,tyN]using this
theorem pE:oW dst src ty body (-1) prio=(dst.toList++src.toList)++(bJ (tyN ty body) 2++body):=by
 simp[oW,aGm,tyN]
theorem yX (h:vlan≠ -1):oW dst src ty body vlan prio=(dst.toList++src.toList)++(bJ 33024 2++(bJ (prio*8192+vlan).toNat 2++(bJ (tyN ty body) 2++body))):=by
 simp[oW,aGm,tyN,h,tQ]
theorem aLR (hr:eA ty vlan prio body.length=true):tyN ty body<65536:=by
 simp[eA]at hr
 unfold tyN
 split<;>omega
end
theorem aBk (dst src:Vector UInt8 6) (ty:Int) (body:List UInt8) (vlan prio:Int) (n:Nat) (hr:eA ty vlan prio body.length=true) (hn:n<=(oW dst src ty body vlan prio).length):
  bM ((oW dst src ty body vlan prio).take n)=
   if n<(if 0<=vlan then 18 else 14)then .error 2
   else if ty=0/\n<(oW dst src ty body vlan prio).length then .error 2
   else .ok ⟨dst,src,ty,body.take (n - (if 0<=vlan then 18 else 14)),vlan,prio⟩:=by
 have hlt:=aLR ty body vlan prio hr
 have hd:=aIv dst src ty body vlan prio
 have hs:=aIw dst src ty body vlan prio
 have hr0:=hr
 simp[eA]at hr0
 obtain⟨⟨hty,hvl⟩,hsz⟩:=hr0
 obtain⟨s,hS⟩:∃s,oW dst src ty body vlan prio=s:=⟨_,rfl⟩
 rw[hS]at hn hd hs ⊢
 have hlen:(s.take n).length=n:=by simp;omega
 rcases hvl with ⟨rfl,rfl⟩ | ⟨⟨⟨hv0,hv1⟩,hp0⟩,hp1⟩
 ·rw[pE]at hS
  have hsl:s.length=14+body.length:=by rw[<-hS];simp;omega
  have hn12:aW s 12=tyN ty body:=by
   rw[<-hS,jA _ _ _ 12 (by simp) (by simp),dY]
   omega
  have hd14:s.drop 14=body:=by
   rw[<-hS,<-List.append_assoc]
   exact List.drop_left' (by simp)
  rw[if_neg (by omega:¬(0:Int)<= -1)]
  unfold bM
  rw[hlen]
  by_cases h14:n<14
  ·rw[if_pos h14,if_pos h14]
  have ht33:tyN ty body≠33024:=by unfold tyN;split<;>omega
  rw[if_neg h14,if_neg h14,lU _ _ _ (by omega),hn12,if_neg ht33]
  unfold dC
  rw[hlen,lV _ _ _ _ (by omega) (by omega),lV _ _ _ _ (by omega) (by omega),hd,hs,List.drop_take,hd14,if_neg (by omega)]
  by_cases ht0:ty=0
  ·have htl:tyN ty body=body.length:=by simp[tyN,ht0]
   rw[htl,if_pos (by omega)]
   by_cases hc:n<s.length
   ·rw[if_pos (by omega),if_pos ⟨ht0,hc⟩]
   ·rw[if_neg (by omega),if_neg (by omega),if_neg (by omega),List.take_take,ht0,show min body.length (n - 14)=n - 14 by omega]
  ·have htl:tyN ty body=ty.toNat:=by simp[tyN,ht0]
   rw[htl,if_neg (by omega),if_neg (by omega),if_neg (by omega),if_neg (by omega),show((ty.toNat:Nat):Int)=ty by omega]
 ·rw[yX _ _ _ _ _ _ (by omega)]at hS
  have hsl:s.length=18+body.length:=by rw[<-hS];simp;omega
  have hn12:aW s 12=33024:=by
   rw[<-hS,jA _ _ _ 12 (by simp) (by simp),dY]
  have hn14:aW s 14=(prio*8192+vlan).toNat:=by
   rw[<-hS,<-List.append_assoc,jA _ _ _ 14 (by simp) (by simp),dY]
   omega
  have hn16:aW s 16=tyN ty body:=by
   rw[<-hS,<-List.append_assoc,<-List.append_assoc,jA _ _ _ 16 (by simp) (by simp),dY]
   omega
  have hd18:s.drop 18=body:=by
   rw[<-hS,<-List.append_assoc,<-List.append_assoc,<-List.append_assoc]
   exact List.drop_left' (by simp)
  rw[if_pos hv0]
  unfold bM
  rw[hlen]
  by_cases h14:n<14
  ·rw[if_pos h14,if_pos (by omega)]
  rw[if_neg h14,lU _ _ _ (by omega),hn12,if_pos rfl]
  by_cases h16:n<16
  ·rw[if_pos h16,if_pos (by omega)]
  rw[if_neg h16,lU _ _ _ (by omega),hn14,if_neg (by omega)]
  by_cases h18:n<18
  ·rw[if_pos h18,if_pos (by omega)]
  rw[if_neg h18,if_neg h18,lU _ _ _ (by omega),hn16]
  have hvv:(((prio*8192+vlan).toNat%4096:Nat):Int)=vlan:=by omega
  have hpp:(((prio*8192+vlan).toNat / 8192:Nat):Int)=prio:=by omega
  rw[hvv,hpp]
  have ht33:tyN ty body≠33024:=by unfold tyN;split<;>omega
  unfold dC
  rw[hlen,lV _ _ _ _ (by omega) (by omega),lV _ _ _ _ (by omega) (by omega),hd,hs,List.drop_take,hd18,if_neg (by omega)]
  by_cases ht0:ty=0
  ·have htl:tyN ty body=body.length:=by simp[tyN,ht0]
   rw[htl,if_pos (by omega)]
   by_cases hc:n<s.length
   ·rw[if_pos (by omega),if_pos ⟨ht0,hc⟩]
   ·rw[if_neg (by omega),if_neg (by omega),if_neg (by omega),List.take_take,ht0,show min body.length (n - 18)=n - 18 by omega]
  ·have htl:tyN ty body=ty.toNat:=by simp[tyN,ht0]
   rw[htl,if_neg (by omega),if_neg (by omega),if_neg (by omega),if_neg (by omega),show((ty.toNat:Nat):Int)=ty by omega]
theorem oB (dst src:Vector UInt8 6) (ty:Int) (body:List UInt8) (vlan prio:Int) (hr:eA ty vlan prio body.length=true):
  (oW dst src ty body vlan prio).length=(if 0<=vlan then 18 else 14)+body.length:=by
 simp[eA]at hr
 by_cases hv:vlan= -1
 ·subst hv
  simp[oW,aGm]
  omega
 ·rw[if_pos (by omega)]
  simp[oW,aGm,hv]
  omega
theorem vV (dst src:Vector UInt8 6) (ty:Int) (body:List UInt8) (vlan prio:Int) (hr:eA ty vlan prio body.length=true):
  bM (oW dst src ty body vlan prio)=.ok ⟨dst,src,ty,body,vlan,prio⟩:=by
 have h:=aBk dst src ty body vlan prio _ hr (Nat.le_refl _)
 have hl:=oB dst src ty body vlan prio hr
 rw[List.take_length]at h
 rw[h,hl,if_neg (by omega),if_neg (by omega),Nat.add_sub_cancel_left,List.take_length]
theorem kN (l:List UInt8) (k:Nat) (h:k+2<=l.length):bJ (aW l k) 2=(l.drop k).take 2:=by
 have:=aCe ((l.drop k).take 2)
 rwa [show((l.drop k).take 2).length=2 by simp;omega]at this
theorem eW (l:List UInt8) (a b:Nat):l.take (a+b)=l.take a++(l.drop a).take b:=List.take_add
theorem vW (l:List UInt8) (d:EthD) (h:bM l=.ok d):
  eA d.ty d.vlan d.prio d.body.length=true/\(oW d.dst d.src d.ty d.body d.vlan d.prio).length<=l.length/\
   oW d.dst d.src d.ty d.body d.vlan d.prio=l.take (oW d.dst d.src d.ty d.body d.vlan d.prio).length:=by
 unfold bM at h
 by_cases h14:l.length<14
 ·rw[if_pos h14]at h
  cases h
 rw[if_neg h14]at h
 have hd:(aI l 0 6).toList=l.take 6:=by rw[cR _ _ _ (by omega),List.drop_zero]
 have hs:(aI l 6 6).toList=(l.drop 6).take 6:=cR _ _ _ (by omega)
 have h12:=lT l 12
 have h14':=lT l 14
 have h16':=lT l 16
 by_cases htag:aW l 12=33024
 ·rw[if_pos htag]at h
  by_cases h16:l.length<16
  ·rw[if_pos h16]at h
   cases h
  rw[if_neg h16]at h
  by_cases hst:aW l 14 / 4096%2=1
  ·rw[if_pos hst]at h
   cases h
  rw[if_neg hst]at h
  by_cases h18:l.length<18
  ·rw[if_pos h18]at h
   cases h
  rw[if_neg h18]at h
  unfold dC at h
  by_cases hm:1500+18<l.length
  ·rw[if_pos hm]at h
   cases h
  rw[if_neg hm]at h
  have e1:bJ 33024 2=(l.drop 12).take 2:=by rw[<-htag];exact kN l 12 (by omega)
  have e2:bJ (((aW l 14 / 8192:Nat):Int)*8192+((aW l 14%4096:Nat):Int)).toNat 2=(l.drop 14).take 2:=by
   rw[<-kN l 14 (by omega)]
   congr 1
   omega
  have e3:=kN l 16 (by omega)
  have hne:((aW l 14%4096:Nat):Int)≠ -1:=by omega
  have e18:l.take 18=l.take 6++((l.drop 6).take 6++((l.drop 12).take 2++((l.drop 14).take 2++(l.drop 16).take 2))):=by
   rw[eW l 16 2,eW l 14 2,eW l 12 2,eW l 6 6]
   simp
  by_cases hn:aW l 16<=1500
  ·rw[if_pos hn]at h
   by_cases hsh:l.length<18+aW l 16
   ·rw[if_pos hsh]at h
    cases h
   rw[if_neg hsh]at h
   by_cases hv:(4094:Int)<((aW l 14%4096:Nat):Int)
   ·rw[if_pos hv]at h
    cases h
   rw[if_neg hv]at h
   cases h
   have hr:eA 0 ((aW l 14%4096:Nat):Int) ((aW l 14 / 8192:Nat):Int) ((l.drop 18).take (aW l 16)).length=true:=by
    simp[eA]
    omega
   have hbl:((l.drop 18).take (aW l 16)).length=aW l 16:=by simp;omega
   have hlen:=oB (aI l 0 6) (aI l 6 6) 0 ((l.drop 18).take (aW l 16)) _ _ hr
   rw[if_pos (by omega),hbl]at hlen
   refine⟨hr,by rw[hlen];omega,?_⟩
   rw[hlen,eW l 18,e18,yX _ _ _ _ _ _ hne,e1,e2,hd,hs]
   simp[tyN,show min (aW l 16) (l.length - 18)=aW l 16 by omega,e3]
  ·rw[if_neg hn]at h
   by_cases hb:aW l 16<1536∨aW l 16=33024
   ·rw[if_pos hb]at h
    cases h
   rw[if_neg hb]at h
   by_cases hv:(4094:Int)<((aW l 14%4096:Nat):Int)
   ·rw[if_pos hv]at h
    cases h
   rw[if_neg hv]at h
   cases h
   have hr:eA (aW l 16) ((aW l 14%4096:Nat):Int) ((aW l 14 / 8192:Nat):Int) (l.drop 18).length=true:=by
    simp[eA]
    omega
   have hlen:=oB (aI l 0 6) (aI l 6 6) (aW l 16) (l.drop 18) _ _ hr
   rw[if_pos (by omega)]at hlen
   have hlen2:18+(l.drop 18).length=l.length:=by simp;omega
   rw[hlen2]at hlen
   refine⟨hr,by rw[hlen];omega,?_⟩
   have h0:¬(aW l 16:Int)=0:=by omega
   rw[hlen,List.take_length,yX _ _ _ _ _ _ hne,e1,e2,hd,hs]
   conv=>rhs;rw[<-List.take_append_drop 18 l,e18]
   simp[tyN,h0,e3,show aW l 16≠0 by omega]
 ·rw[if_neg htag]at h
  unfold dC at h
  by_cases hm:1500+14<l.length
  ·rw[if_pos hm]at h
   cases h
  rw[if_neg hm]at h
  have e3:=kN l 12 (by omega)
  have e14:l.take 14=l.take 6++((l.drop 6).take 6++(l.drop 12).take 2):=by
   rw[eW l 12 2,eW l 6 6]
   simp
  by_cases hn:aW l 12<=1500
  ·rw[if_pos hn]at h
   by_cases hsh:l.length<14+aW l 12
   ·rw[if_pos hsh]at h
    cases h
   rw[if_neg hsh,if_neg (by omega)]at h
   cases h
   have hr:eA 0 (-1) 0 ((l.drop 14).take (aW l 12)).length=true:=by
    simp[eA]
    omega
   have hbl:((l.drop 14).take (aW l 12)).length=aW l 12:=by simp;omega
   have hlen:=oB (aI l 0 6) (aI l 6 6) 0 ((l.drop 14).take (aW l 12)) _ _ hr
   rw[if_neg (by omega),hbl]at hlen
   refine⟨hr,by rw[hlen];omega,?_⟩
   rw[hlen,eW l 14,e14,pE,hd,hs]
   simp[tyN,show min (aW l 12) (l.length - 14)=aW l 12 by omega,e3]
  ·rw[if_neg hn]at h
   by_cases hb:aW l 12<1536∨aW l 12=33024
   ·rw[if_pos hb]at h
    cases h
   rw[if_neg hb,if_neg (by omega)]at h
   cases h
   have hr:eA (aW l 12) (-1) 0 (l.drop 14).length=true:=by
    simp[eA]
    omega
   have hlen:=oB (aI l 0 6) (aI l 6 6) (aW l 12) (l.drop 14) _ _ hr
   rw[if_neg (by omega)]at hlen
   have hlen2:14+(l.drop 14).length=l.length:=by simp;omega
   rw[hlen2]at hlen
   refine⟨hr,by rw[hlen];omega,?_⟩
   rw[hlen,List.take_length,pE,hd,hs]
   conv=>rhs;rw[<-List.take_append_drop 14 l,e14]
   simp[tyN,e3,show aW l 12≠0 by omega]
end
section
open Go.RowKit
def aLS:Except Int EthD->Value
 | .error n=>.tuple #[.agg zeroEth.toArray,.int .i64 n]
 | .ok d=>.tuple #[.agg (xB d.dst d.src d.ty d.body d.vlan d.prio).toArray,.int .i64 0]
theorem sK (tmps:Array Value) (X E:Nat) (n m:Int) (w w1:World) (v:Value) (h2:tmps.getD 2 undef=.pointer (some ⟨X,0,none⟩)) (h3:tmps.getD 3 undef=.pointer (some ⟨E,0,none⟩))
  (hX:(row w1 X).size=16) (hE:row w1 E=#[.int .i64 m]) (hXE:X≠E) (hBX:w.heap.size<=X) (hBE:w.heap.size<=E) (hb:Below w.heap.size w w1) (hv:v=.tuple #[.agg zeroEth.toArray,.int .i64 n]):
  Leaves Tryz.prog Tryz.f93 tmps (fun e w'=>e=.returned v/\Below w.heap.size w w') [{target:=.fn (.func 119) #[.pointer (some ⟨X,0,none⟩),.pointer (some ⟨E,0,none⟩)],args:=#[]}] (.panicking (sW n)) w1:=by
 refine leaves_cons (f:=119) (args:=#[.pointer (some ⟨X,0,none⟩),.pointer (some ⟨E,0,none⟩)]) (by simp) (by simp[go_sem]) ?_
 refine(vU X E n m w1 w.heap.size hX hE hXE hBX hBE).mono ?_
 rintro e u' w'' ⟨rfl,rfl,rX,rE,hb2⟩
 refine⟨_,aS (r:=.cell 2 160) (s:=.cell 3 33) rfl (aK h2 ?_) (nM (d:=.int .i64) (v:=.int .i64 n) Tryz.underlying33 rfl h3 ?_),?_,hb.trans hb2⟩
 ·rw[rX]
  rfl
 ·simp[go_sem,rE]
 ·rw[rX,hv]
theorem yY (tmps:Array Value) (X E:Nat) (cs:List Value) (w w1:World) (v:Value) (h2:tmps.getD 2 undef=.pointer (some ⟨X,0,none⟩)) (h3:tmps.getD 3 undef=.pointer (some ⟨E,0,none⟩))
  (hX:row w1 X=cs.toArray) (hc:cs.length=16) (hE:row w1 E=#[.int .i64 0]) (hb:Below w.heap.size w w1) (hv:v=.tuple #[.agg cs.toArray,.int .i64 0]):
  Leaves Tryz.prog Tryz.f93 tmps (fun e w'=>e=.returned v/\Below w.heap.size w w') [{target:=.fn (.func 119) #[.pointer (some ⟨X,0,none⟩),.pointer (some ⟨E,0,none⟩)],args:=#[]}] .returning w1:=by
 refine leaves_cons (f:=119) (args:=#[.pointer (some ⟨X,0,none⟩),.pointer (some ⟨E,0,none⟩)]) (by simp) (by simp[go_sem]) ?_
 refine(yV X E w1).mono ?_
 rintro e u' w'' ⟨rfl,rfl,rfl⟩
 refine⟨_,aS (r:=.cell 2 160) (s:=.cell 3 33) rfl (aK h2 ?_) (nM (d:=.int .i64) (v:=.int .i64 0) Tryz.underlying33 rfl h3 ?_),?_,hb⟩
 ·rw[hX]
  simpa using hc
 ·simp[go_sem,hE]
 ·rw[hX,hv]
structure EthSt (w w':World) (xs:List Value) (s:List UInt8):Prop where
 rX:row w' w.heap.size=xs.toArray
 rE:row w' (w.heap.size+1)=#[.int .i64 0]
 rR:row w' (w.heap.size+1+1)=#[.string ⟨s.toArray⟩]
 hc:xs.length=16
 hb:Below w.heap.size w w'
 hs:w.heap.size+1+1<w'.heap.size
section
variable {w w1 w2:World} {xs:List Value} {s:List UInt8}
theorem EthSt.setX (h:EthSt w w1 xs s) (xs':List Value) (hc':xs'.length=16):EthSt w (w1.setRow w.heap.size xs'.toArray) xs' s:=
 ⟨aB (by rw[h.rX];simp[h.hc]) (by rw[h.rX];simp[h.hc,hc']),by rw[aC _ _ _ (by omega)];exact h.rE,by rw[aC _ _ _ (by omega)];exact h.rR,hc',Below.setRow h.hb (Nat.le_refl _) _,by simpa using h.hs⟩
theorem EthSt.setR (h:EthSt w w1 xs s) (s':List UInt8):EthSt w (w1.setRow (w.heap.size+1+1) #[.string ⟨s'.toArray⟩]) xs s':=
 ⟨by rw[aC _ _ _ (by omega)];exact h.rX,by rw[aC _ _ _ (by omega)];exact h.rE,aB (by rw[h.rR];simp) (by rw[h.rR];simp),h.hc,Below.setRow h.hb (by omega) _,by simpa using h.hs⟩
theorem EthSt.setE (h:EthSt w w1 xs s):EthSt w (w1.setRow (w.heap.size+1) #[.int .i64 0]) xs s:=
 ⟨by rw[aC _ _ _ (by omega)];exact h.rX,aB (by rw[h.rE];simp) (by rw[h.rE]),by rw[aC _ _ _ (by omega)];exact h.rR,h.hc,Below.setRow h.hb (by omega) _,by simpa using h.hs⟩
theorem EthSt.below (h:EthSt w w1 xs s) (hb:Below w1.heap.size w1 w2):EthSt w w2 xs s:=by
 have h1:=h.hs
 have h2:=hb.size
 exact⟨by rw[aA hb (by omega)];exact h.rX,by rw[aA hb (by omega)];exact h.rE,by rw[aA hb (by omega)];exact h.rR,h.hc,Below.trans h.hb (Below.mono hb (by omega)),by omega⟩
theorem EthSt.fail (h:EthSt w w1 xs s) (tmps:Array Value) (v:Value) (n:Int) (h2:tmps.getD 2 undef=.pointer (some ⟨w.heap.size,0,none⟩)) (h3:tmps.getD 3 undef=.pointer (some ⟨w.heap.size+1,0,none⟩)) (hv:v=.tuple #[.agg zeroEth.toArray,.int .i64 n]):
  Leaves Tryz.prog Tryz.f93 tmps (fun e w'=>e=.returned v/\Below w.heap.size w w') [{target:=.fn (.func 119) #[.pointer (some ⟨w.heap.size,0,none⟩),.pointer (some ⟨w.heap.size+1,0,none⟩)],args:=#[]}] (.panicking (sW n)) w1:=
 sK tmps _ _ n 0 w w1 v h2 h3 (by rw[h.rX];simp[h.hc]) h.rE (by omega) (by omega) (by omega) h.hb hv
theorem EthSt.good (h:EthSt w w1 xs s) (tmps:Array Value) (v:Value) (h2:tmps.getD 2 undef=.pointer (some ⟨w.heap.size,0,none⟩)) (h3:tmps.getD 3 undef=.pointer (some ⟨w.heap.size+1,0,none⟩)) (hv:v=.tuple #[.agg xs.toArray,.int .i64 0]):
  Leaves Tryz.prog Tryz.f93 tmps (fun e w'=>e=.returned v/\Below w.heap.size w w') [{target:=.fn (.func 119) #[.pointer (some ⟨w.heap.size,0,none⟩),.pointer (some ⟨w.heap.size+1,0,none⟩)],args:=#[]}] .returning w1:=
 yY tmps _ _ xs w w1 v h2 h3 h.rX h.hc h.rE h.hb hv
def eM (dst src:Vector UInt8 6) (ty:Int) (body:List UInt8) (v p:Int):List Value:=u8v dst++(u8v src++[Value.int .i64 ty,.string ⟨body.toArray⟩,.int .i64 v,.int .i64 p])
def cF:Vector UInt8 6:=Vector.replicate 6 0
theorem aCE (w:World) (s:List UInt8) (X:TypeId):EthSt w (((w.alloc (.cells (aH 12 (Value.int .u8 0)++[Value.int .i64 0,.string ⟨#[]⟩,.int .i64 (-1),.int .i64 0]).toArray 160)).alloc (.cells #[.int .i64 0] 33)).alloc (.cells #[.string ⟨s.toArray⟩] X)) (eM cF cF 0 [] (-1) 0) s:=by
 refine⟨?_,?_,?_,by simp[eM],by(repeat (first | exact Below.refl _ _ | refine Below.al ?_ _ | refine Below.drew ?_ | refine Below.sr ?_ _ | refine Below.sc ?_ _)),by simp⟩
 ·simp[go_sem,eM,cF,nO]
  rfl
 ·simp[go_sem]
 ·simp[go_sem]
end
theorem aCF (l:List UInt8) (k n:Nat):aI (l.drop k) 0 n=aI l k n:=by
 simp[aI]
theorem kO {l:List UInt8} (h:l.length<14):bM l=.error 2:=by
 unfold bM
 rw[if_pos h]
theorem aBl {l:List UInt8} (h:¬l.length<14) (ht:aW l 12=33024) (h16:l.length<16):bM l=.error 2:=by
 unfold bM
 rw[if_neg h,if_pos ht,if_pos h16]
theorem aBm {l:List UInt8} (h:¬l.length<14) (ht:aW l 12=33024) (h16:¬l.length<16) (hs:aW l 14 / 4096%2=1):bM l=.error 3:=by
 unfold bM
 rw[if_neg h,if_pos ht,if_neg h16,if_pos hs]
theorem aBn {l:List UInt8} (h:¬l.length<14) (ht:aW l 12=33024) (h16:¬l.length<16) (hs:¬aW l 14 / 4096%2=1) (h18:l.length<18):bM l=.error 2:=by
 unfold bM
 rw[if_neg h,if_pos ht,if_neg h16,if_neg hs,if_pos h18]
theorem aBo {l:List UInt8} {n:Nat} {v p:Int} (h:¬l.length<14) (ht:aW l 12=33024) (h16:¬l.length<16) (hs:¬aW l 14 / 4096%2=1) (h18:¬l.length<18) (hn:aW l 16=n) (hv:((aW l 14%4096:Nat):Int)=v) (hp:((aW l 14 / 8192:Nat):Int)=p):bM l=dC l n 18 v p:=by
 unfold bM
 rw[if_neg h,if_pos ht,if_neg h16,if_neg hs,if_neg h18,hn,hv,hp]
theorem aBp {l:List UInt8} {n:Nat} (h:¬l.length<14) (hn:aW l 12=n) (ht:¬n=33024):bM l=dC l n 14 (-1) 0:=by
 unfold bM
 rw[if_neg h,hn,if_neg ht]
theorem qM (l:List UInt8) (w:World) (hl:l.length<=1000000):
  Calls Tryz.prog 93 #[.string ⟨l.toArray⟩] w fun e w'=>e=.returned (aLS (bM l))/\Below w.heap.size w w':=by
 have hmf:∀(fn:Fn) (first cap:Array Value) (w:World),(Instr.makeFunc fn first cap).run Tryz.prog w=.ok (.func fn first cap) w:=fun _ _ _ _=>rfl
 go_enter_defers Tryz.func93,Tryz.ntmps93
 go_wp2_with fail
 have st0:=aCE w l 242
 by_cases h6:l.length<6
 ·refine(xD _ l _ st0.rR st0.hs h6).mono ?_
  rintro e w1 ⟨rfl,hb1⟩
  exact(st0.below hb1).fail _ _ 2 rfl rfl (by rw[kO (by omega)];rfl)
 refine(aGu _ l _ st0.rR st0.hs (by omega) hl).mono ?_
 rintro e w1 ⟨rfl,hb1⟩
 have st1:=(st0.setR (l.drop 6)).below (by simpa using hb1)
 go_wp2_with fail
 have hd6:(l.drop 6).length=l.length - 6:=by simp
 by_cases h12:l.length<12
 ·refine(xD _ (l.drop 6) _ st1.rR st1.hs (by omega)).mono ?_
  rintro e w2 ⟨rfl,hb2⟩
  exact(st1.below hb2).fail _ _ 2 rfl rfl (by rw[kO (by omega)];rfl)
 refine(aGu _ (l.drop 6) _ st1.rR st1.hs (by omega) (by omega)).mono ?_
 rintro e w2 ⟨rfl,hb2⟩
 rw[aCF]
 have st2:=(st1.setR ((l.drop 6).drop 6)).below (by simpa using hb2)
 rw[show(l.drop 6).drop 6=l.drop 12 by simp]at st2
 have rX:=st2.rX
 have rE:=st2.rE
 have rR:=st2.rR
 have hz:=st2.hs
 (try unfold eM at rX)
 have st3:=st2.setX (eM (aI l 0 6) cF 0 [] (-1) 0) (by simp[eM])
 have rX3:=st3.rX
 unfold eM at rX3
 have st4:=st2.setX (eM (aI l 0 6) (aI l 6 6) 0 [] (-1) 0) (by simp[eM])
 have hd12:(l.drop 12).length=l.length - 12:=by simp
 go_wp2_with fail
 by_cases h14:l.length<14
 ·refine(pD _ (l.drop 12) _ st4.rR (by omega)).mono ?_
  rintro e w3 ⟨rfl,rfl⟩
  exact(st4).fail _ _ 2 rfl rfl (by rw[kO h14];rfl)
 refine(yW _ (l.drop 12) _ st4.rR (by omega) (by omega)).mono ?_
 rintro e w3 ⟨rfl,hw3⟩
 have st5:EthSt w w3 (eM (aI l 0 6) (aI l 6 6) 0 [] (-1) 0) (l.drop 14):=by
  rw[hw3,show(l.drop 12).drop 2=l.drop 14 by simp]
  exact st4.setR _
 clear hw3 st4 st3 rX3 rX rR rE
 obtain⟨n,hn⟩:∃n,aW l 12=n:=⟨_,rfl⟩
 have hnlt:=lT l 12
 rw[hn]at hnlt
 rw[show f9 (List.take 2 (List.drop 12 l))=n from hn]
 have hd14:(l.drop 14).length=l.length - 14:=by simp
 by_cases htag:n=33024
 ·subst htag
  have rX:=st5.rX
  have rE:=st5.rE
  have rR:=st5.rR
  have hz:=st5.hs
  (try unfold eM at rX)
  go_wp2_with fail
  by_cases h16:l.length<16
  ·refine(aGv _ _ (l.drop 14) _ st5.rR (by omega)).mono ?_
   rintro e w4 ⟨rfl,rfl⟩
   exact(st5).fail _ _ 2 rfl rfl (by rw[aBl h14 hn h16];rfl)
  by_cases hs:aW l 14 / 4096%2=1
  ·refine(aCC _ _ (l.drop 14) _ st5.rR (by omega) (by omega) hs).mono ?_
   rintro e w4 ⟨rfl,rfl⟩
   exact(st5.setR ((l.drop 14).drop 2)).fail _ _ 3 rfl rfl (by rw[aBm h14 hn h16 hs];rfl)
  refine(aLQ _ _ (aI l 0 6) (aI l 6 6) (l.drop 14) _ st5.rX st5.rR (by omega) (by omega) (by omega) hs).mono ?_
  rintro e w4 ⟨rfl,hw4⟩
  obtain⟨v,hv⟩:∃v:Int,((aW l 14%4096:Nat):Int)=v:=⟨_,rfl⟩
  obtain⟨p,hp⟩:∃p:Int,((aW l 14 / 8192:Nat):Int)=p:=⟨_,rfl⟩
  have st6:EthSt w w4 (eM (aI l 0 6) (aI l 6 6) 0 [] v p) (l.drop 16):=by
   rw[hw4,show(l.drop 14).drop 2=l.drop 16 by simp,<-hv,<-hp]
   exact(st5.setR _).setX _ (by simp[eM])
  clear hw4 rX rR rE hz
  have rX:=st6.rX
  have rE:=st6.rE
  have rR:=st6.rR
  have hz:=st6.hs
  (try unfold eM at rX)
  have hd16:(l.drop 16).length=l.length - 16:=by simp
  go_wp2_with fail
  by_cases h18:l.length<18
  ·refine(pD _ (l.drop 16) _ st6.rR (by omega)).mono ?_
   rintro e w5 ⟨rfl,rfl⟩
   exact(st6).fail _ _ 2 rfl rfl (by rw[aBn h14 hn h16 hs h18];rfl)
  refine(yW _ (l.drop 16) _ st6.rR (by omega) (by omega)).mono ?_
  rintro e w5 ⟨rfl,hw5⟩
  have st7:EthSt w w5 (eM (aI l 0 6) (aI l 6 6) 0 [] v p) (l.drop 18):=by
   rw[hw5,show(l.drop 16).drop 2=l.drop 18 by simp]
   exact st6.setR _
  clear hw5 rX rR rE hz
  obtain⟨n2,hn2⟩:∃n,aW l 16=n:=⟨_,rfl⟩
  have hnlt2:=lT l 16
  rw[hn2]at hnlt2
  rw[show f9 (List.take 2 (List.drop 16 l))=n2 from hn2]
  have hpar:=aBo h14 hn h16 hs h18 hn2 hv hp
  have rX:=st7.rX
  have rE:=st7.rE
  have rR:=st7.rR
  have hz:=st7.hs
  (try unfold eM at rX)
  by_cases hL:l.length<=1518
  ·have hL1:(l.length:Int)<=1518:=by omega
   have hL2:¬1500+18<l.length:=by omega
   go_wp2_with fail
   refine(kM _ _).mono ?_
   rintro e wa ⟨rfl,rfl⟩
   go_wp2_with fail
   clear hL1
   by_cases hn15:n2<=1500
   ·by_cases hsh:l.length<18+n2
    ·refine(xE _ _ (l.drop 18) n2 _ st7.rR hn15 (by simp;omega)).mono ?_
     rintro e wb ⟨rfl,rfl⟩
     exact(st7).fail _ _ 2 rfl rfl (by rw[hpar,oA hL2 hn15 hsh];rfl)
    ·refine(aDU _ _ (aI l 0 6) (aI l 6 6) (l.drop 18) n2 v p _ st7.rX st7.rR (by omega) hn15 (by simp;omega) (by simp;omega)).mono ?_
     rintro e wb ⟨rfl,hwb⟩
     have st8:EthSt w wb (eM (aI l 0 6) (aI l 6 6) 0 ((l.drop 18).take n2) v p) ((l.drop 18).drop n2):=by rw[hwb];exact(st7.setR _).setX _ (by simp[eM])
     clear hwb rX rE rR hz
     have rX:=st8.rX
     have rE:=st8.rE
     have rR:=st8.rR
     have hz:=st8.hs
     (try unfold eM at rX)
     by_cases hvl:v<=4094
     ·go_wp2_with fail
      refine(kM _ _).mono ?_
      rintro e wv ⟨rfl,rfl⟩
      have rXE:=(st8.setX _ st8.hc).rE
      (try unfold eM at rXE)
      go_wp2_with fail
      refine EthSt.good ((st8.setX _ st8.hc).setE) _ _ rfl rfl ?_
      rw[hpar,tT hL2 hn15 hsh (by omega)]
      rfl
     ·have hvl2:4094<v:=by omega
      go_wp2_with fail
      rw[decide_eq_false (show ¬v<=4094 by omega)]
      refine(mT _ _).mono ?_
      rintro e wv ⟨rfl,rfl⟩
      exact(st8).fail _ _ 12 rfl rfl (by rw[hpar,aBj hL2 hn15 hsh (by omega)];rfl)
   ·by_cases hbad:n2<1536∨n2=33024
    ·refine(aDV _ _ n2 _ (by omega) hbad).mono ?_
     rintro e wb ⟨rfl,rfl⟩
     exact(st7).fail _ _ 3 rfl rfl (by rw[hpar,tU hL2 hn15 hbad];rfl)
    ·refine(xG _ _ (aI l 0 6) (aI l 6 6) (l.drop 18) n2 v p _ st7.rX st7.rR (by omega) (by omega) (by omega)).mono ?_
     rintro e wb ⟨rfl,hwb⟩
     have st8:EthSt w wb (eM (aI l 0 6) (aI l 6 6) n2 (l.drop 18) v p) (l.drop 18):=by rw[hwb];exact st7.setX _ (by simp[eM])
     clear hwb rX rE rR hz
     have rX:=st8.rX
     have rE:=st8.rE
     have rR:=st8.rR
     have hz:=st8.hs
     (try unfold eM at rX)
     by_cases hvl:v<=4094
     ·go_wp2_with fail
      refine(kM _ _).mono ?_
      rintro e wv ⟨rfl,rfl⟩
      have rXE:=(st8.setX _ st8.hc).rE
      (try unfold eM at rXE)
      go_wp2_with fail
      refine EthSt.good ((st8.setX _ st8.hc).setE) _ _ rfl rfl ?_
      rw[hpar,xH hL2 hn15 hbad (by omega)]
      rfl
     ·have hvl2:4094<v:=by omega
      go_wp2_with fail
      rw[decide_eq_false (show ¬v<=4094 by omega)]
      refine(mT _ _).mono ?_
      rintro e wv ⟨rfl,rfl⟩
      exact(st8).fail _ _ 12 rfl rfl (by rw[hpar,aCD hL2 hn15 hbad (by omega)];rfl)
  ·have hL1:¬(l.length:Int)<=1518:=by omega
   have hL3:1518<(l.length:Int):=by omega
   have hL2:1500+18<l.length:=by omega
   go_wp2_with fail
   rw[decide_eq_false (show ¬(l.length:Int)<=1518 by omega)]
   refine(mT _ _).mono ?_
   rintro e wb ⟨rfl,rfl⟩
   exact(st7).fail _ _ 3 rfl rfl (by rw[hpar,qL hL2];rfl)
 ·have htag1:((n:Int)==33024)=false:=by simp;omega
  have hpar:=aBp h14 hn htag
  have rX:=st5.rX
  have rE:=st5.rE
  have rR:=st5.rR
  have hz:=st5.hs
  (try unfold eM at rX)
  by_cases hL:l.length<=1514
  ·have hL1:(l.length:Int)<=1514:=by omega
   have hL2:¬1500+14<l.length:=by omega
   go_wp2_with fail
   refine(kM _ _).mono ?_
   rintro e wa ⟨rfl,rfl⟩
   go_wp2_with fail
   clear hL1
   by_cases hn15:n<=1500
   ·by_cases hsh:l.length<14+n
    ·refine(xE _ _ (l.drop 14) n _ st5.rR hn15 (by simp;omega)).mono ?_
     rintro e wb ⟨rfl,rfl⟩
     exact(st5).fail _ _ 2 rfl rfl (by rw[hpar,oA hL2 hn15 hsh];rfl)
    ·refine(aDU _ _ (aI l 0 6) (aI l 6 6) (l.drop 14) n (-1) 0 _ st5.rX st5.rR (by omega) hn15 (by simp;omega) (by simp;omega)).mono ?_
     rintro e wb ⟨rfl,hwb⟩
     have st8:EthSt w wb (eM (aI l 0 6) (aI l 6 6) 0 ((l.drop 14).take n) (-1) 0) ((l.drop 14).drop n):=by rw[hwb];exact(st5.setR _).setX _ (by simp[eM])
     clear hwb rX rE rR hz
     have rX:=st8.rX
     have rE:=st8.rE
     have rR:=st8.rR
     have hz:=st8.hs
     (try unfold eM at rX)
     go_wp2_with fail
     refine(kM _ _).mono ?_
     rintro e wv ⟨rfl,rfl⟩
     have rXE:=(st8.setX _ st8.hc).rE
     (try unfold eM at rXE)
     go_wp2_with fail
     refine EthSt.good ((st8.setX _ st8.hc).setE) _ _ rfl rfl ?_
     rw[hpar,tT hL2 hn15 hsh (by omega)]
     rfl
   ·by_cases hbad:n<1536∨n=33024
    ·refine(aDV _ _ n _ (by omega) hbad).mono ?_
     rintro e wb ⟨rfl,rfl⟩
     exact(st5).fail _ _ 3 rfl rfl (by rw[hpar,tU hL2 hn15 hbad];rfl)
    ·refine(xG _ _ (aI l 0 6) (aI l 6 6) (l.drop 14) n (-1) 0 _ st5.rX st5.rR (by omega) (by omega) (by omega)).mono ?_
     rintro e wb ⟨rfl,hwb⟩
     have st8:EthSt w wb (eM (aI l 0 6) (aI l 6 6) n (l.drop 14) (-1) 0) (l.drop 14):=by rw[hwb];exact st5.setX _ (by simp[eM])
     clear hwb rX rE rR hz
     have rX:=st8.rX
     have rE:=st8.rE
     have rR:=st8.rR
     have hz:=st8.hs
     (try unfold eM at rX)
     go_wp2_with fail
     refine(kM _ _).mono ?_
     rintro e wv ⟨rfl,rfl⟩
     have rXE:=(st8.setX _ st8.hc).rE
     (try unfold eM at rXE)
     go_wp2_with fail
     refine EthSt.good ((st8.setX _ st8.hc).setE) _ _ rfl rfl ?_
     rw[hpar,xH hL2 hn15 hbad (by omega)]
     rfl
  ·have hL1:¬(l.length:Int)<=1514:=by omega
   have hL3:1514<(l.length:Int):=by omega
   have hL2:1500+14<l.length:=by omega
   go_wp2_with fail
   rw[decide_eq_false (show ¬(l.length:Int)<=1514 by omega)]
   refine(mT _ _).mono ?_
   rintro e wb ⟨rfl,rfl⟩
   exact(st5).fail _ _ 3 rfl rfl (by rw[hpar,qL hL2];rfl)
end
section
open Go.ChangeShapes Go.WideShapes Go.ChangeAt Go.RowKit
theorem aCG (l:List UInt8) (d:EthD) (w:World) (hl:l.length<=1000000) (h:bM l=.ok d):
  Calls Tryz.prog 93 #[.string ⟨l.toArray⟩] w fun e w'=>e=.returned (.tuple #[.agg (xB d.dst d.src d.ty d.body d.vlan d.prio).toArray,.int .i64 0])/\Below w.heap.size w w':=by
 have:=qM l w hl
 rwa [h]at this
@[simp, go_sem] theorem aIx : aH 12 (Value.int .u8 0) ++ Value.int .i64 0 :: Value.string ⟨#[]⟩ :: aH 2 (Value.int .i64 0) = u8v cF ++ (u8v cF ++ [Value.int .i64 0, .string ⟨#[]⟩, .int .i64 0, .int .i64 0]) := rfl
theorem aEK:zeroEth=xB cF cF 0 [] 0 0:=rfl
theorem aBq (l:List UInt8) (n:Int) (w:World) (hl:l.length<=1000000) (h:bM l=.error n):
  Calls Tryz.prog 93 #[.string ⟨l.toArray⟩] w fun e w'=>e=.returned (.tuple #[.agg (xB cF cF 0 [] 0 0).toArray,.int .i64 n])/\Below w.heap.size w w':=by
 have:=qM l w hl
 rw[h]at this
 rwa [<-aEK]
end
end Go.Proofs.YtiagbbknkdgmeaaGreat
