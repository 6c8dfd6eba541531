/- Texts of this proof, merged: Pol, Aead, Bld, AeadL. -/
import Derived.Test.YtiagbbknkdgmeaaGreatJ2
import Derived.Test.YtiagbbknkdgmeaaGreatBytJ
import Derived.Laws.Externs
import Derived.Lib.Hide
import Derived.Laws.Bits64b
import Derived.Test.YtiagbbknkdgmeaaGreatShelfJ
import Derived.WalkSpells
import Derived.WalkLawsBesides
set_option linter.unusedSimpArgs false
set_option linter.unusedVariables false
set_option maxHeartbeats 8000000
set_option maxRecDepth 20000
namespace Go.Proofs.YtiagbbknkdgmeaaGreat
section
open Go.RowKit
def fG (n:Nat):Prop:=n<18446744073709551616
theorem oH (x y c:Nat) (hc:c<=1) (w:World):
  (callFunc 227 #[.int .u64 x,.int .u64 y,.int .u64 c]).run Tryz.prog w=
   .ok (.value (.tuple #[.int .u64 (((x+y+c)%18446744073709551616:Nat):Int),.int .u64 (((x+y+c) / 18446744073709551616:Nat):Int)])) w:=by
 rw[run_callFunc_extern Tryz.func227 kr_ kr_ kr_ (e:=add64Entry) kr_,run_add64 x y c (by omega) (by omega) (by omega) (by omega)]
 simp only[Result.andThen]
 congr 5<;>omega
def leN:List UInt8->Nat
 | []=>0
 | b::l=>b.toNat+256*leN l
theorem aIP (l:List UInt8) (b:UInt8):leN (l++[b])=leN l+b.toNat*256^l.length:=by
 induction l with
 | nil=>simp[leN]
 | cons a l ih=>
  simp only[List.cons_append,leN,ih,List.length_cons,Nat.pow_succ]
  grind
theorem aJL (l:List UInt8):leN l<256^l.length:=by
 induction l with
 | nil=>simp[leN]
 | cons a l ih=>
  have:=a.toNat_lt
  simp only[leN,List.length_cons,Nat.pow_succ]
  omega
theorem oI (l:List UInt8) (h:l.length<=8):fG (leN l):=by
 have h1:=aJL l
 have h2:256^l.length<=256^8:=Nat.pow_le_pow_right (by decide) h
 unfold fG
 omega
theorem aEX (l:List UInt8) (k:Nat) (h:k<l.length):l.take (k+1)=l.take k++[l[k]]:=by
 rw[List.take_succ_eq_append_getElem h]
theorem aEY (b:UInt8) (k:Nat) (hk:k<8):IntKind.u64.wrap ((b.toNat:Int)*2^(8*k))=(b.toNat:Int)*2^(8*k):=by
 have hb:=b.toNat_lt
 rw[IntKind.wrap_u64]
 have h:∀k:Fin 8,∀b:Fin 256,((b.val:Int)*2^(8*k.val))%18446744073709551616=(b.val:Int)*2^(8*k.val):=by decide+kernel
 exact h ⟨k,hk⟩ ⟨b.toNat,hb⟩
theorem aG0 (l:List UInt8) (k:Nat) (hk:k<8) (h:k<l.length):bits .or .u64 (leN (l.take k):Int) ((l[k].toNat:Int)*2^(8*k))=(leN (l.take (k+1)):Int):=by
 have hb:=(l[k]).toNat_lt
 have hx:=aJL (l.take k)
 have hlen:(l.take k).length=k:=by simp;omega
 rw[hlen]at hx
 have hp:(2:Int)^(8*k)=((256^k:Nat):Int):=by
  have:(2:Nat)^(8*k)=256^k:=by rw[Nat.pow_mul]
  rw[<-this];push_cast;rfl
 have hpk:256^k<=256^7:=Nat.pow_le_pow_right (by decide) (by omega)
 have hm:l[k].toNat*256^k<=255*256^7:=Nat.mul_le_mul (by omega) hpk
 rw[aEX l k h,aIP,hlen]
 have:=bits_join_low .u64 64 (by decide) (fun n h0 h1=>by rw[IntKind.wrap_u64];omega) (8*k) (leN (l.take k):Int) ((l[k].toNat:Int)*2^(8*k)) (by omega) (by rw[hp];omega) (by omega) (by rw[hp];exact_mod_cast Nat.zero_le _) (Int.mul_emod_left _ _) (by rw[hp];omega)
 rw[this,hp,<-Int.natCast_mul,<-Int.natCast_add]
theorem kW (l:List UInt8) (w:World) (hl:l.length<=8):
  Calls Tryz.prog 207 #[.string ⟨l.toArray⟩] w fun e w'=>e=.returned (.int .u64 (leN l))/\Below w.heap.size w w':=by
 go_enter Tryz.func207,Tryz.ntmps207
 go_wp2_with fail
 go_loop [3,7] (fun x i=>∃k:Nat,k<=l.length/\i=.int .i64 k/\x=.int .u64 (leN (l.take k):Nat)) (fun _ i=>l.length - (intOf i).toNat)
 case atStart=>exact⟨0,Nat.zero_le _,rfl,rfl⟩
 case round=>
  obtain⟨k,hk,rfl,rfl⟩:=hrel
  by_cases hlt:k<l.length
  ·have h1:(k:Int)<l.length:=by omega
   have hw:=aEY l[k] k (by omega)
   have hj:=aG0 l k (by omega) hlt
   obtain⟨x,hx⟩:∃x,leN (l.take k)=x:=⟨_,rfl⟩
   obtain⟨y,hy⟩:∃y,leN (l.take (k+1))=y:=⟨_,rfl⟩
   rw[hx,hy]at hj
   rw[hx]
   have HY:=h_ hy
   clear hx hy
   go_wp2_with fail
   go_round
   case rel=>
    have hu:IntKind.u64.wrap (l[k].toNat:Int)=(l[k].toNat:Int):=by have:=l[k].toNat_lt;rw[IntKind.wrap_u64];omega
    exact⟨k+1,by omega,by simp,by rw[hu,hw,hj,HY.out]⟩
   case measure=>simp[intOf];omega
  ·obtain rfl:k=l.length:=by omega
   rw[List.take_length]
   go_wp2_with fail
   go_ret
   exact⟨rfl,Below.refl _ _⟩
structure Num where
 a:Nat
 b:Nat
 c:Nat
def Num.cells (x:Num):List Value:=[.int .u64 x.a,.int .u64 x.b,.int .u64 x.c]
def Num.lt (x:Num):Prop:=fG x.a/\fG x.b/\fG x.c
def Num.plus (x y:Num):Num:=
 ⟨(x.a+y.a)%18446744073709551616,(x.b+y.b+(x.a+y.a) / 18446744073709551616)%18446744073709551616,(x.c+y.c+(x.b+y.b+(x.a+y.a) / 18446744073709551616) / 18446744073709551616)%18446744073709551616⟩
theorem jT (n:Nat):fG (n%18446744073709551616):=Nat.mod_lt _ (by decide)
theorem Num.plus_lt (x y:Num):(x.plus y).lt:=⟨jT _,jT _,jT _⟩
theorem sY (x y c:Nat) (hx:fG x) (hy:fG y) (hc:c<=1):(x+y+c) / 18446744073709551616<=1:=by unfold fG at hx hy;omega
theorem pH (x y:Nat) (w:World):
  (callFunc 227 #[.int .u64 x,.int .u64 y,.int .u64 0]).run Tryz.prog w=
   .ok (.value (.tuple #[.int .u64 (((x+y)%18446744073709551616:Nat):Int),.int .u64 (((x+y) / 18446744073709551616:Nat):Int)])) w:=oH x y 0 (by omega) w
theorem kX (x y:Num) (w:World) (hx:x.lt) (hy:y.lt):
  Calls Tryz.prog 209 #[.agg x.cells.toArray,.agg y.cells.toArray] w fun e w'=>e=.returned (.agg (x.plus y).cells.toArray)/\Below w.heap.size w w':=by
 obtain⟨x0,x1,x2⟩:=x
 obtain⟨y0,y1,y2⟩:=y
 obtain⟨a0,a1,a2⟩:=hx
 obtain⟨b0,b1,b2⟩:=hy
 simp only at a0 a1 a2 b0 b1 b2
 unfold Num.plus Num.cells
 simp only
 have A0:=pH x0 y0
 have k0:=sY x0 y0 0 a0 b0 (by omega)
 obtain⟨s0,hs0⟩:∃s,(x0+y0)%18446744073709551616=s:=⟨_,rfl⟩
 obtain⟨c0,hc0⟩:∃s,(x0+y0) / 18446744073709551616=s:=⟨_,rfl⟩
 rw[Nat.add_zero,hc0]at k0
 simp only[hs0,hc0]at A0 ⊢
 have A1:=oH x1 y1 c0 k0
 have k1:=sY x1 y1 c0 a1 b1 k0
 obtain⟨s1,hs1⟩:∃s,(x1+y1+c0)%18446744073709551616=s:=⟨_,rfl⟩
 obtain⟨c1,hc1⟩:∃s,(x1+y1+c0) / 18446744073709551616=s:=⟨_,rfl⟩
 rw[hc1]at k1
 simp only[hs1,hc1]at A1 ⊢
 have A2:=oH x2 y2 c1 k1
 obtain⟨s2,hs2⟩:∃s,(x2+y2+c1)%18446744073709551616=s:=⟨_,rfl⟩
 obtain⟨c2,hc2⟩:∃s,(x2+y2+c1) / 18446744073709551616=s:=⟨_,rfl⟩
 simp only[hs2,hc2]at A2 ⊢
 clear hs0 hc0 hs1 hc1 hs2 hc2 k0 k1 a0 a1 a2 b0 b1 b2
 go_enter Tryz.func209,Tryz.ntmps209
 go_wp2_with fail
 ((try simp only[Exit.inBlock,Exit.then]);refine bodyPost_ret (aV rfl (aK rfl ?_)) rfl ?_;(simp[go_sem]))
 refine⟨by simp[go_sem],?_⟩
 (repeat (first | exact Below.refl _ _ | refine Below.al ?_ _ | refine Below.drew ?_ | refine Below.sr ?_ _ | refine Below.sc ?_ _))
@[go_sem] theorem aKv : (aH 3 (Value.int .u64 0)).tail = [.int .u64 0, .int .u64 0] := rfl
def n5:Num:=⟨5,0,0⟩
def Num.less5 (x:Num):Num:=if 3<(x.plus n5).c then ⟨(x.plus n5).a,(x.plus n5).b,(x.plus n5).c - 4⟩else x
theorem Num.less5_lt (x:Num) (hx:x.lt):x.less5.lt:=by
 unfold Num.less5
 have h:=Num.plus_lt x n5
 split
 ·exact⟨h.1,h.2.1,by have:=h.2.2;unfold fG at *;show _ - 4<_;omega⟩
 ·exact hx
theorem aG1 (n:Nat) (h:fG n) (h4:3<n):IntKind.u64.wrap ((n:Int) - 4)=((n - 4:Nat):Int):=by
 unfold fG at h
 rw[IntKind.wrap_u64]
 omega
theorem aG2 (x:Num) (w:World) (hx:x.lt):
  Calls Tryz.prog 226 #[.agg x.cells.toArray] w fun e w'=>e=.returned (.agg x.less5.cells.toArray)/\Below w.heap.size w w':=by
 have H5:=fun w=>kX x n5 w hx ⟨by unfold fG n5;decide,by unfold fG n5;decide,by unfold fG n5;decide⟩
 have hyl:=Num.plus_lt x n5
 unfold Num.less5
 obtain⟨y,hy⟩:∃y,x.plus n5=y:=⟨_,rfl⟩
 simp only[hy]at H5 hyl ⊢
 clear hy
 obtain⟨y0,y1,y2⟩:=y
 obtain⟨x0,x1,x2⟩:=x
 obtain⟨_,_,hy2⟩:=hyl
 simp only at hy2
 unfold Num.cells
 simp only
 have H5':∀w,Calls Tryz.prog 209 #[.agg #[.int .u64 x0,.int .u64 x1,.int .u64 x2],.agg #[.int .u64 5,.int .u64 0,.int .u64 0]] w fun e w'=>e=.returned (.agg #[.int .u64 y0,.int .u64 y1,.int .u64 y2])/\Below w.heap.size w w':=H5
 have K5:=h_ H5'
 clear H5 H5'
 by_cases h3:3<y2
 ·rw[if_pos h3]
  have h3':(3:Int)<(y2:Int):=by omega
  have hsub:=aG1 y2 hy2 h3
  obtain⟨z,hz⟩:∃z,y2 - 4=z:=⟨_,rfl⟩
  simp only[hz]at hsub ⊢
  clear hz hy2
  go_enter Tryz.func226,Tryz.ntmps226
  go_wp2_with fail
  (with_reducible refine(K5.out _).mono ?_)
  rintro e w1 ⟨rfl,b1⟩
  have rX:row w1 w.heap.size=#[.int .u64 x0,.int .u64 x1,.int .u64 x2]:=by rw[aA b1 (by simp;omega)];simp[go_sem]
  have rR:row w1 (w.heap.size+1)=(aH 3 (Value.int .u64 0)).toArray:=by rw[aA b1 (by simp)];simp[go_sem]
  have z1:=(b1).size
  try simp at z1
  replace b1:=cJ b1 (show Below (w).heap.size w _ from by(repeat (first | exact Below.refl _ _ | refine Below.al ?_ _ | refine Below.drew ?_ | refine Below.sr ?_ _ | refine Below.sc ?_ _))) (by first | (simp;done) | (simp;omega) | omega)
  have q1:w.heap.size+1<w1.heap.size:=by omega
  have q2:w.heap.size<w1.heap.size:=by omega
  go_wp2_with fail
  have hfin:=aB (w:=w1) (g:=w.heap.size+1) (c:=#[Value.int .u64 y0,.int .u64 y1,.int .u64 z]) (by rw[rR];simp) (by rw[rR];simp)
  have hfz:=setRow_size w1 (w.heap.size+1) #[Value.int .u64 y0,.int .u64 y1,.int .u64 z]
  (try simp only[Exit.inBlock,Exit.then])
  refine bodyPost_ret (aV rfl (aK rfl ?_)) rfl ⟨?_,?_⟩
  ·first | (rw[hfin];simp;done) | (rw[aD _ _ (by rw[hfz];omega),hfin];simp)
  ·first | (rw[hfin];done) | rw[aD _ _ (by rw[hfz];omega),hfin]
  ·exact Below.alloc (Below.setRow b1 (by omega) _) (by simp;omega) _
 ·rw[if_neg h3]
  have h3':¬(3:Int)<(y2:Int):=by omega
  go_enter Tryz.func226,Tryz.ntmps226
  go_wp2_with fail
  (with_reducible refine(K5.out _).mono ?_)
  rintro e w1 ⟨rfl,b1⟩
  have rX:row w1 w.heap.size=#[.int .u64 x0,.int .u64 x1,.int .u64 x2]:=by rw[aA b1 (by simp;omega)];simp[go_sem]
  have rR:row w1 (w.heap.size+1)=(aH 3 (Value.int .u64 0)).toArray:=by rw[aA b1 (by simp)];simp[go_sem]
  have z1:=(b1).size
  try simp at z1
  replace b1:=cJ b1 (show Below (w).heap.size w _ from by(repeat (first | exact Below.refl _ _ | refine Below.al ?_ _ | refine Below.drew ?_ | refine Below.sr ?_ _ | refine Below.sc ?_ _))) (by first | (simp;done) | (simp;omega) | omega)
  have q1:w.heap.size+1<w1.heap.size:=by omega
  have q2:w.heap.size<w1.heap.size:=by omega
  go_wp2_with fail
  have hfin:=aB (w:=w1) (g:=w.heap.size+1) (c:=#[Value.int .u64 x0,.int .u64 x1,.int .u64 x2]) (by rw[rR];simp) (by rw[rR];simp)
  have hfz:=setRow_size w1 (w.heap.size+1) #[Value.int .u64 x0,.int .u64 x1,.int .u64 x2]
  (try simp only[Exit.inBlock,Exit.then])
  refine bodyPost_ret (aV rfl (aK rfl ?_)) rfl ⟨?_,?_⟩
  ·first | (rw[hfin];simp;done) | (rw[aD _ _ (by rw[hfz];omega),hfin];simp)
  ·first | (rw[hfin];done) | rw[aD _ _ (by rw[hfz];omega),hfin]
  ·exact Below.alloc (Below.setRow b1 (by omega) _) (by simp;omega) _
end
section
open Go.RowKit
def aJM (n:Nat):List UInt8:=(List.range 8).map fun k=>iR ((n:Int) / 2^(8*k))
theorem mY (n:Nat):(aJM n).length=8:=by simp[aJM]
def aIQ (n:Nat) (m:Nat):List UInt8:=(List.range m).map fun k=>iR ((n:Int) / 2^(8*k))
theorem aEZ (n m:Nat):aIQ n (m+1)=aIQ n m++[iR ((n:Int) / 2^(8*m))]:=by simp[aIQ,List.range_succ]
theorem uG (n:Nat) (w:World):
  Calls Tryz.prog 152 #[.int .u64 n] w fun e w'=>e=.returned (.string ⟨(aJM n).toArray⟩)/\Below w.heap.size w w':=by
 go_enter Tryz.func152,Tryz.ntmps152
 go_wp2_with fail
 go_loopw [3,5] (fun v i wr=>∃k:Nat,k<=8/\i=.int .i64 k/\wr.ownsRow w.heap.size 5 1 v k (u8s (aIQ n k))/\Below w.heap.size w wr) (fun _ i _=>8 - (intOf i).toNat)
 case atStart=>exact⟨0,by omega,rfl,World.ownsRow_nil _ _ _ _,Below.refl _ _⟩
 case round=>
  obtain⟨k,hk,rfl,hown,hbel⟩:=hrel
  by_cases hlt:k<8
  ·have h1:(k:Int)<8:=by omega
   obtain⟨p,hp⟩:∃p,8*k=p:=⟨_,rfl⟩
   have ep:(8:Int)*(k:Int)=(p:Int):=by omega
   have hB:=t6 ((n:Int) / 2^p)
   have HP:=h_ hp
   have HB:=h_ hB.symm
   have hsz:=hbel.size
   clear hp hB
   go_wp2_with (at_builtin;refine jX rfl rfl inferInstance w.heap.size _ k _ rfl hown _ (iR ((n:Int) / 2^p)) rfl HB.out (by omega) hsz ?_)
   intro v' w2 hown' hb2
   go_wp2_with fail
   go_roundw
   case rel=>exact⟨k+1,by omega,by simp,by rw[aEZ,HP.out,gC];exact hown',hbel.trans hb2⟩
   case measure=>simp[intOf];omega
  ·obtain rfl:k=8:=by omega
   rw[show((8:Nat):Int)=8 from rfl]
   have hc:=aAK (P:=Tryz.prog) (src:=168) (dst:=9) hown
   go_wp2_with fail
   go_ret
   exact⟨rfl,hbel⟩
def j0 (n:Nat):List UInt8:=[0,0,0,0]++aJM n
theorem aAi (n:Nat):(j0 n).length=12:=by simp[j0,mY]
theorem aG3 (n:Nat) (w:World):
  Calls Tryz.prog 116 #[.int .u64 n] w fun e w'=>e=.returned (.string ⟨(j0 n).toArray⟩)/\Below w.heap.size w w':=by
 go_enter Tryz.func116,Tryz.ntmps116
 go_wp2_with fail
 refine(uG n _).mono ?_
 rintro e w1 ⟨rfl,b1⟩
 go_wp2_with fail
 go_ret
 exact⟨rfl,b1⟩
/-! ### mac.Same -/
end
section
open Go.RowKit
theorem aD3:(Tryz.prog.info? 347).map (·.size)=some 2:=by kernel_rfl
theorem aIR:liesAt Tryz.prog Tryz.prog.depth 347 (2 / Tryz.prog.cellsOf 347) 0 347 1=true:=by kernel_rfl
theorem aIS:(Tryz.prog.info? 5).map (fun i=>(i.zero,i.size,i.bytes))=some (some (.int .u8 0),1,1):=by kernel_rfl
set_option maxRecDepth 100000 in
theorem wD (b:Nat) (w:World) (h0:w.cell? ⟨b,0,none⟩=some (.pointer (some ⟨b,0,none⟩))):
  Calls Tryz.prog 229 #[.pointer (some ⟨b,0,none⟩)] w fun e w'=>e=.returned (.tuple #[])/\w'=w:=by
 obtain⟨j,hj,_⟩:=Option.map_eq_some_iff.1 aD3
 go_enter Tryz.func229,Tryz.ntmps229
 go_wp2_with fail
 rw[Lib.run_neq_ptr_same w _ Tryz.underlying345 hj]
 go_wp2_with fail
 go_end0
 exact⟨rfl,rfl⟩
set_option maxRecDepth 100000 in
theorem uH (b:Nat) (w:World) (h0:w.cell? ⟨b,0,none⟩=some (.pointer none)) (hsh:w.shape? b=some (347,2)) (hfz:w.frozen? ⟨b,0,none⟩=false):
  Calls Tryz.prog 229 #[.pointer (some ⟨b,0,none⟩)] w fun e w'=>e=.returned (.tuple #[])/\w'=w.setCell ⟨b,0,none⟩ (.pointer (some ⟨b,0,none⟩)):=by
 obtain⟨j,hj,hjs⟩:=Option.map_eq_some_iff.1 aD3
 go_enter Tryz.func229,Tryz.ntmps229
 go_wp2_with fail
 rw[Lib.run_to_unsafe w ⟨b,0,none⟩ Tryz.underlying345 Tryz.underlying375 hj (by rw[hjs];decide) hsh (Nat.zero_lt_succ 1)]
 simp only[Result.andThen]
 rw[Oper.upon_value]
 go_wp2_with fail
 rw[run_callFunc_extern Tryz.func235 kr_ kr_ kr_ (e:=Extern.AbiNoEscape.same) kr_]
 rw[Lib.run_noEscape]
 simp only[Result.andThen]
 rw[Oper.upon_value]
 go_wp2_with fail
 rw[Lib.run_from_unsafe w ⟨b,0,none⟩ Tryz.underlying375 Tryz.underlying345 hj hsh aIR]
 simp only[Result.andThen]
 rw[Oper.upon_value]
 go_wp2_with fail
 go_end0
 exact⟨rfl,rfl⟩
theorem aAj (B b:Nat) (bs:List Value) (w:World) (h:Lib.IsBuilder 347 5 B b bs w):
  Calls Tryz.prog 229 #[.pointer (some ⟨b,0,none⟩)] w fun e w'=>e=.returned (.tuple #[])/\(Lib.BuilderAt 347 5 B b (.pointer (some ⟨b,0,none⟩)) bs w'/\Below B w w'):=by
 rcases h with h | h
 ·refine(uH b w h.cell0 h.shape h.frozen0).mono ?_
  rintro e w' ⟨rfl,rfl⟩
  exact⟨rfl,h.used _,(Below.refl B w).setCell (p:=⟨b,0,none⟩) h.1 _⟩
 ·refine(wD b w h.cell0).mono ?_
  rintro e w' ⟨rfl,rfl⟩
  exact⟨rfl,h,Below.refl B _⟩
set_option maxRecDepth 100000 in
theorem uJ (B b:Nat) (bs:List Value) (s:ByteArray) (w:World) (h:Lib.IsBuilder 347 5 B b bs w) (hlen:bs.length+s.size<=140737488355328) (hBw:B<=w.heap.size):
  Calls Tryz.prog 212 #[.pointer (some ⟨b,0,none⟩),.string s] w fun e w'=>e=.returned (.tuple #[.int .i64 s.size,.nilIface])/\(Lib.BuilderAt 347 5 B b (.pointer (some ⟨b,0,none⟩)) (bs++Lib.strCells s) w'/\Below B w w'):=by
 obtain⟨i0,hi,hz0,hz1,hz2⟩:=info_parts aIS
 go_enter Tryz.func212,Tryz.ntmps212
 go_wp2_with fail
 refine(aAj B b bs _ h).mono ?_
 rintro e w1 ⟨rfl,h1,hb1⟩
 obtain⟨hB,v,hbk,hown,hne⟩:=h1
 have c0:w1.cell? ⟨b,0,none⟩=some (.pointer (some ⟨b,0,none⟩)):=by rw[Lib.cell_of_heap hbk];rfl
 have c1:w1.cell? ⟨b,1,none⟩=some v:=by rw[Lib.cell_of_heap hbk];rfl
 go_wp2_with (at_builtin;refine Lib.wpList_append_own_string _ rfl _ _ 168 9 rfl B 5 i0 Tryz.underlying168 Tryz.underlying9 hi hz0 hz1 hz2 _ _ _ rfl hown s rfl ?c3 ?c4 ?c5 ?_)
 case c3=>unfold maxLen;omega
 case c4=>omega
 case c5=>have:=hb1.size;omega
 intro v' w2 hown' hgrow _
 have hlt:b<w1.heap.size:=by
  rcases Nat.lt_or_ge b w1.heap.size with h' | h'
  ·exact h'
  ·simp[Array.getElem?_eq_none h']at hbk
 have hb2:w2.heap[b]? =some (.cells #[.pointer (some ⟨b,0,none⟩),v] 347 (0,0)):=by
  rw[hgrow.block b hlt (fun e=>hne e.symm)]
  exact hbk
 have d0:w2.cell? ⟨b,0,none⟩=some (.pointer (some ⟨b,0,none⟩)):=by rw[Lib.cell_of_heap hb2];rfl
 have d1:w2.cell? ⟨b,1,none⟩=some v:=by rw[Lib.cell_of_heap hb2];rfl
 have f1:w2.frozen? ⟨b,1,none⟩=false:=Lib.frozen_of_heap hb2 1
 have hrow:row w2 b=#[.pointer (some ⟨b,0,none⟩),v]:=by unfold row;rw[hb2];simp
 obtain⟨ao,n',cap,rfl⟩:∃ao n' cap,v'=.slice ao n' cap:=by
  rcases hown'.2 with ⟨hv,_⟩ | ⟨g,cap,cur,hv,_⟩
  ·exact⟨_,_,_,hv⟩
  ·exact⟨_,_,_,hv⟩
 go_wp2_with fail
 go_ret2
 have hset:w2.setRow b #[.pointer (some ⟨b,0,none⟩),.slice ao n' cap]=w2.setCell ⟨b,1,none⟩ (.slice ao n' cap):=by
  rw[eQ (.slice ao n' cap) (by rw[hrow];exact Nat.zero_lt_succ _),hrow]
  rfl
 rw[hset]
 refine⟨rfl,?_,?_⟩
 ·exact Lib.BuilderAt.put (T:=347) (e:=5) hB hb2 (bs':=bs++Lib.strCells s) (by simpa[Lib.strCells_length]using hown') (by decide)
 ·exact Below.setCell (p:=⟨b,1,none⟩) (hb1.grown hgrow (by have:=hb1.size;omega) (fun k hk=>(hown.lt k hk).1)) hB _
end
section
open Go.RowKit
theorem aAk {B:Nat} {e:TypeId} {k:Nat} {v:Value} {n:Nat} {xs:List Value} {w w':World} (h:w.ownsRow B e k v n xs) (hb:Below w.heap.size w w'):w'.ownsRow B e k v n xs:=
 h.kept (row:=none) ⟨hb.os,hb.tape,hb.output,hb.size,fun j hj _=>hb.block j hj⟩ (by cases hv:v.ownBlock<;>simp)
theorem kY {T e:TypeId} {B b:Nat} {p:Value} {bs:List Value} {w w':World} (h:Lib.BuilderAt T e B b p bs w) (hb:Below w.heap.size w w'):Lib.BuilderAt T e B b p bs w':=by
 have hlt:=h.lt
 obtain⟨hB,v,hbk,hown,hne⟩:=h
 exact⟨hB,v,by rw[hb.block b hlt];exact hbk,aAk hown hb,hne⟩
theorem kZ {T e:TypeId} {B b:Nat} {bs:List Value} {w w':World} (h:Lib.IsBuilder T e B b bs w) (hb:Below w.heap.size w w'):Lib.IsBuilder T e B b bs w':=
 h.imp (fun h=>kY h hb) (fun h=>kY h hb)
theorem qP (B b:Nat) (l0 l:List UInt8) (w:World) (h:Lib.IsBuilder 347 5 B b (Lib.byteCells l0) w) (hlen:l0.length+l.length<=140737488355328) (hBw:B<=w.heap.size):
  Calls Tryz.prog 212 #[.pointer (some ⟨b,0,none⟩),.string ⟨l.toArray⟩] w fun e w'=>e=.returned (.tuple #[.int .i64 l.length,.nilIface])/\(Lib.IsBuilder 347 5 B b (Lib.byteCells (l0++l)) w'/\Below B w w'):=by
 have e1:(ByteArray.mk l.toArray).size=l.length:=by simp[ByteArray.size]
 refine(uJ B b _ ⟨l.toArray⟩ w h (by rw[e1];simpa[Lib.byteCells]using hlen) hBw).mono ?_
 rintro e w' ⟨rfl,h1,h2⟩
 rw[e1]
 refine⟨rfl,.inr ?_,h2⟩
 have:Lib.byteCells (l0++l)=Lib.byteCells l0++Lib.strCells ⟨l.toArray⟩:=by simp[Lib.byteCells,Lib.strCells]
 rw[this]
 exact h1
def aLZ (n:Nat):Nat:=(16 - n%16)%16
def aLq (l:List UInt8):List UInt8:=l++List.replicate (aLZ l.length) 0
theorem aCT (n:Nat):Lib.repeatL [(0:UInt8)] n=List.replicate n 0:=by
 induction n with
 | zero=>rfl
 | succ n ih=>rw[Lib.repeatL,ih];rfl
theorem aCU (q:Nat) (w:World) (hq:q<16):
  Calls Tryz.prog 193 #[.string ⟨#[0]⟩,.int .i64 q] w fun e w'=>e=.returned (.string ⟨(List.replicate q (0:UInt8)).toArray⟩)/\Below w.heap.size w w':=by
 refine(Tryz.strings_Repeat ⟨#[0]⟩ q w (by omega) (by show 1*q<=_;omega)).mono ?_
 rintro e w' ⟨rfl,h⟩
 refine⟨?_,h⟩
 rw[show(ByteArray.mk #[(0:UInt8)]).data.toList=[0]from rfl,aCT]
def aH2 (ps:List (List UInt8)):List Value:=ps.map fun l=>.string ⟨l.toArray⟩
@[simp, go_sem] theorem aKw (ps : List (List UInt8)) : (aH2 ps).length = ps.length := by simp [aH2]
@[simp, go_sem] theorem aMN (ps : List (List UInt8)) (k : Nat) (h : k < ps.length) : (aH2 ps)[k]? = some (.string ⟨ps[k].toArray⟩) := by simp [aH2, h]
@[simp, go_sem] theorem aJN (ps : List (List UInt8)) (k : Nat) (h : k < (aH2 ps).length) : (aH2 ps)[k] = .string ⟨(ps[k]'(by simpa using h)).toArray⟩ := by simp [aH2]
def iU (ps:List (List UInt8)) (k:Nat):List UInt8:=(ps.take k).flatMap aLq
def j8 (ps:List (List UInt8)) (k:Nat):List UInt8:=(ps.take k).flatMap fun l=>aJM l.length
theorem xU (ps:List (List UInt8)) (k:Nat) (h:k<ps.length):iU ps (k+1)=iU ps k++aLq ps[k]:=by
 rw[iU,iU,List.take_succ_eq_append_getElem h,List.flatMap_append]
 simp
theorem xV (ps:List (List UInt8)) (k:Nat) (h:k<ps.length):j8 ps (k+1)=j8 ps k++aJM ps[k].length:=by
 rw[j8,j8,List.take_succ_eq_append_getElem h,List.flatMap_append]
 simp
theorem aCV (l:List UInt8):(aLq l).length<=l.length+16:=by
 have h:aLZ l.length<16:=Nat.mod_lt _ (by omega)
 rw[aLq,List.length_append,List.length_replicate]
 omega
theorem k8 (ps:List (List UInt8)) (M:Nat) (h:∀p∈ps,p.length<=M) (k:Nat):(iU ps k).length<=k*(M+16):=by
 induction k with
 | zero=>simp[iU]
 | succ k ih=>
  by_cases hk:k<ps.length
  ·rw[xU ps k hk]
   have:=aCV ps[k]
   have:=h _ (List.getElem_mem hk)
   rw[List.length_append,Nat.succ_mul]
   omega
  ·have:iU ps (k+1)=iU ps k:=by
    rw[iU,iU,List.take_of_length_le (by omega),List.take_of_length_le (by omega)]
   rw[this,Nat.succ_mul];omega
theorem qQ (ps:List (List UInt8)) (k:Nat):(j8 ps k).length<=k*8:=by
 induction k with
 | zero=>simp[j8]
 | succ k ih=>
  by_cases hk:k<ps.length
  ·rw[xV ps k hk]
   simp only[List.length_append,mY]
   omega
  ·have:j8 ps (k+1)=j8 ps k:=by
    rw[j8,j8,List.take_of_length_le (by omega),List.take_of_length_le (by omega)]
   rw[this];omega
def aBI (ps:List (List UInt8)):List UInt8:=iU ps ps.length++j8 ps ps.length
theorem aIT (ps:List (List UInt8)) (g:Nat) (w:World) (hg:g<w.heap.size) (hr:row w g=(aH2 ps).toArray) (hn:ps.length<=4) (hl:∀p∈ps,p.length<=100000):
  Calls Tryz.prog 184 #[.slice (some ⟨g,0,none⟩) ps.length ps.length] w fun e w'=>e=.returned (.string ⟨(aBI ps).toArray⟩)/\Below w.heap.size w w':=by
 have hn2:(ps.length:Int)<=4:=by omega
 have hHL:=h_ hl
 clear hl
 go_enter Tryz.func184,Tryz.ntmps184
 go_wp2_with fail
 have hB0:Lib.IsBuilder 347 5 w.heap.size w.heap.size (Lib.byteCells (iU ps 0)) (w.alloc (.cells #[.pointer none,.slice none 0 0] 347)):=Lib.fresh_isBuilder _ _ w
 go_loopw [10] (fun i wr=>∃k:Nat,k<=ps.length/\i=.int .i64 k/\Lib.IsBuilder 347 5 w.heap.size w.heap.size (Lib.byteCells (iU ps k)) wr/\Below w.heap.size w wr) (fun i _=>ps.length - (intOf i).toNat)
 case atStart=>exact⟨0,by omega,rfl,hB0,eD⟩
 case round=>
  obtain⟨k,hk,rfl,hb,hbel⟩:=hrel
  have rP:row wr g=(aH2 ps).toArray:=(aA hbel hg).trans hr
  by_cases hlt:k<ps.length
  ·have h1:(k:Int)<ps.length:=by omega
   have hp:ps[k].length<=100000:=hHL.out _ (List.getElem_mem hlt)
   obtain⟨l,el⟩:∃l,ps[k]=l:=⟨_,rfl⟩
   rw[el]at hp
   have hp2:(l.length:Int)<=100000:=by omega
   obtain⟨q,eq⟩:∃q,aLZ l.length=q:=⟨_,rfl⟩
   obtain⟨r,er⟩:∃r,l.length%16=r:=⟨_,rfl⟩
   have hr16:(r:Int)<16:=by omega
   have hq:q<16:=by rw[<-eq];exact Nat.mod_lt _ (by omega)
   have e1:(l.length:Int)%16=(r:Int):=by omega
   have e2:(16 - (r:Int))%16=(q:Int):=by rw[<-eq,aLZ,er];omega
   have e3:(-(r:Int))%16=(q:Int):=by rw[<-eq,aLZ,er];omega
   have hpn:aLq l=l++List.replicate q 0:=by rw[aLq,eq]
   have HP:=h_ hpn
   clear hpn eq er
   go_wp2_with fail
   refine(aCU q wr hq).mono ?_
   rintro e w1 ⟨rfl,c1⟩
   have hb1:=kZ hb c1
   have hbel1:Below w.heap.size w w1:=hbel.trans (c1.mono hbel.size)
   have hlen:=k8 ps 100000 hHL.out k
   have hk4:k<=4:=by omega
   have hlen2:(iU ps k).length<=400064:=Nat.le_trans hlen (Nat.mul_le_mul_right (100000+16) hk4)
   clear e1 e2 e3 hlen
   go_wp2_with fail
   refine(qP w.heap.size w.heap.size (iU ps k) (l++List.replicate q 0) _ hb1 (by rw[List.length_append,List.length_replicate];omega) hbel1.size).mono ?_
   rintro e w2 ⟨rfl,hb2,c2⟩
   clear hlen2
   have hpl:iU ps (k+1)=iU ps k++(l++List.replicate q 0):=by rw[xU ps k hlt,el,HP.out]
   have HPL:=h_ hpl
   clear hpl
   go_wp2_with fail
   go_roundw
   case rel=>exact⟨k+1,by omega,by simp,by rw[HPL.out];exact hb2,hbel1.trans c2⟩
   case measure=>simp[intOf];omega
  ·obtain rfl:k=ps.length:=by omega
   go_wp2_with fail
   have hlen2:(iU ps ps.length).length<=400064:=Nat.le_trans (k8 ps 100000 hHL.out _) (Nat.mul_le_mul_right (100000+16) hn)
   have hb0:Lib.IsBuilder 347 5 w.heap.size w.heap.size (Lib.byteCells (iU ps ps.length++j8 ps 0)) wr:=by
    rw[show j8 ps 0=[]from rfl,List.append_nil]
    exact hb
   obtain⟨P,hP⟩:∃P,iU ps ps.length=P:=⟨_,rfl⟩
   rw[hP]at hb0 hlen2
   have HPP:=h_ hP
   have HL2:=h_ hlen2
   clear hb rP hlen2 hP hlt
   go_loopw [26] (fun i wr=>∃k:Nat,k<=ps.length/\i=.int .i64 k/\Lib.IsBuilder 347 5 w.heap.size w.heap.size (Lib.byteCells (P++j8 ps k)) wr/\Below w.heap.size w wr) (fun i _=>ps.length - (intOf i).toNat)
   case atStart=>exact⟨0,by omega,rfl,hb0,hbel⟩
   case round=>
    clear hb0 hbel
    obtain⟨k,hk,rfl,hb,hbel⟩:=hrel
    have rP:row wr g=(aH2 ps).toArray:=(aA hbel hg).trans hr
    by_cases hlt:k<ps.length
    ·have h1:(k:Int)<ps.length:=by omega
     have hp:ps[k].length<=100000:=hHL.out _ (List.getElem_mem hlt)
     obtain⟨l,el⟩:∃l,ps[k]=l:=⟨_,rfl⟩
     rw[el]at hp
     have hp2:(l.length:Int)<=100000:=by omega
     go_wp2_with fail
     refine(uG l.length wr).mono ?_
     rintro e w1 ⟨rfl,c1⟩
     have hb1:=kZ hb c1
     have hbel1:Below w.heap.size w w1:=hbel.trans (c1.mono hbel.size)
     have hlen:=qQ ps k
     go_wp2_with fail
     refine(qP w.heap.size w.heap.size (P++j8 ps k) (aJM l.length) _ hb1 (by have:=HL2.out;rw[List.length_append,mY];omega) hbel1.size).mono ?_
     rintro e w2 ⟨rfl,hb2,c2⟩
     clear hlen
     have hpl:P++j8 ps (k+1)=P++j8 ps k++aJM l.length:=by rw[xV ps k hlt,el,List.append_assoc]
     have HPL:=h_ hpl
     clear hpl
     go_wp2_with fail
     go_roundw
     case rel=>exact⟨k+1,by omega,by simp,by rw[HPL.out];exact hb2,hbel1.trans c2⟩
     case measure=>simp[intOf];omega
    ·obtain rfl:k=ps.length:=by omega
     go_wp2_with fail
     refine(Tryz.Builder_String_any w.heap.size w.heap.size _ _ hb hbel.size).mono ?_
     rintro e w1 ⟨rfl,c1⟩
     go_wp2_with fail
     go_ret
     exact⟨by rw[aBI,HPP.out];rfl,hbel.trans c1⟩
end
end Go.Proofs.YtiagbbknkdgmeaaGreat
