/- Texts of this proof, merged: Key, Hus, HusC. -/
import Derived.Test.YtiagbbknkdgmeaaGreatJ5
import Derived.Test.YtiagbbknkdgmeaaGreatJ2
import Derived.Test.YtiagbbknkdgmeaaGreatJ3
set_option linter.unusedSimpArgs false
set_option linter.unusedVariables false
set_option maxHeartbeats 8000000
set_option maxRecDepth 20000
namespace Go.Proofs.YtiagbbknkdgmeaaGreat
section
open Go.RowKit
def okA (ls:List Leaf) (k:Value):Prop:=∃xs:List Value,k=.agg xs.toArray/\eG ls xs=true
def dZ:Value->Value->Bool
 | .agg a,.agg b=>ceq a.toList b.toList
 | _,_=>false
theorem aJH:∀{ls:List Leaf} {xs ys:List Value},eG ls xs=true->eG ls ys=true->ceq xs ys=true->xs=ys
 | [],[],[],_,_,_=>rfl
 | l::ls,x::xs,y::ys,hx,hy,h=>by
  simp only[eG,ceq,Bool.and_eq_true]at hx hy h
  obtain⟨hx1,hx2⟩:=hx
  obtain⟨hy1,hy2⟩:=hy
  obtain⟨h1,h2⟩:=h
  rw[aJH hx2 hy2 h2]
  congr 1
  cases l<;>cases x<;>cases y<;>simp_all[Leaf.ok,veq]
  exact ByteArray.ext (by
   rw[ByteArray.toList_eq,ByteArray.toList_eq]at h1
   exact Array.ext' h1)
 | [],_::_,_,hx,_,_=>by simp[eG]at hx
 | [],[],_::_,_,hy,_=>by simp[eG]at hy
 | _::_,[],_,hx,_,_=>by simp[eG]at hx
 | _::_,_::_,[],_,hy,_=>by simp[eG]at hy
theorem nW {l:Leaf} {ls:List Leaf} {xs:List Value} (h:eG (l::ls) xs=true):∃x r,xs=x::r/\l.ok x=true/\eG ls r=true:=by
 cases xs with
 | nil=>simp[eG]at h
 | cons x r=>
  simp only[eG,Bool.and_eq_true]at h
  exact⟨x,r,rfl,h.1,h.2⟩
theorem aDJ {xs:List Value} (h:eG [] xs=true):xs=[]:=by
 cases xs with
 | nil=>rfl
 | cons x r=>simp[eG]at h
theorem o6 {k:IntKind} {x:Value} (h:(Leaf.int k).ok x=true):∃v,x=.int k v:=by
 cases x<;>simp[Leaf.ok]at h
 exact⟨_,by rw[h]⟩
theorem aEx {x:Value} (h:Leaf.str.ok x=true):∃l:List UInt8,x=.string ⟨l.toArray⟩:=by
 cases x<;>simp[Leaf.ok]at h
 rename_i s
 exact⟨s.data.toList,by simp⟩
theorem aDK (n:Nat):∀{ls:List Leaf} {xs:List Value},eG ls xs=true->((xs.zip xs).all fun(x,y)=>Instr.sameBits (n+1) x y)=true
 | [],[],_=>rfl
 | l::ls,x::xs,h=>by
  simp only[eG,Bool.and_eq_true]at h
  simp only[List.zip_cons_cons,List.all_cons,Bool.and_eq_true]
  refine⟨?_,aDK n h.2⟩
  have h1:=h.1
  cases l<;>cases x<;>simp_all[Leaf.ok,Instr.sameBits]
  exact beq_self_eq_true (α:=Array UInt8) _
 | [],_::_,h=>by simp[eG]at h
 | _::_,[],h=>by simp[eG]at h
theorem qI {P:Program} {kt:TypeId} {ls:List Leaf} {fs:Array Field} [hC:PlainC P kt ls] (hu:P.underlying kt=some (.struct fs)) (hc:∀k,okA ls k->∀e w,(Instr.checkKey e 10000 kt k).run P w=.ok () w):
  KeyTy P kt (okA ls) dZ where
 check:=hc
 equal:=by
  rintro _ _ ⟨xs,rfl,hx⟩ ⟨ys,rfl,hy⟩ w
  obtain⟨D,hD,h⟩:=hC.plain
  have:=h.eq 10000 w xs ys (by omega) hx hy
  simp only[mkV,if_true]at this
  exact this
 under:=by
  refine⟨_,hu,?_⟩
  rintro _ _ ⟨xs,rfl,hx⟩ ⟨ys,rfl,hy⟩
  rfl
 eq:=by
  rintro _ _ ⟨xs,rfl,hx⟩ ⟨ys,rfl,hy⟩ h
  rw[aJH hx hy h]
 refl:=by
  rintro _ ⟨xs,rfl,hx⟩
  exact aDD hx
 bits:=by
  rintro _ ⟨xs,rfl,hx⟩
  have:=aDK 9998 hx
  show(xs.toArray.size==xs.toArray.size&&(xs.toArray.toList.zip xs.toArray.toList).all fun(x,y)=>Instr.sameBits 9999 x y)=true
  simp only[beq_self_eq_true,Bool.true_and]
  exact this
end
section
open Go.RowKit
structure HB where
 v:Int
 ip:List UInt8
 mac:Vector UInt8 6
 age:Int
def hkV (v:Int) (ip:List UInt8):Value:=.agg [Value.int .i64 v,Value.string ⟨ip.toArray⟩].toArray
def hvV (mac:Vector UInt8 6) (age:Int):Value:=.agg (u8v mac++[Value.int .i64 age]).toArray
def lM (m:List HB):List (Value×Value):=m.map fun b=>(hkV b.v b.ip,hvV b.mac b.age)
def HB.is (b:HB) (v:Int) (ip:List UInt8):Bool:=v==b.v&&ip==b.ip
def jO (v:Int) (ip:List UInt8):List HB->Option HB
 | []=>none
 | b::l=>if b.is v ip then some b else jO v ip l
def tP (b:HB):List HB->List HB
 | []=>[b]
 | c::l=>if c.is b.v b.ip then b::l else c::tP b l
def aKf (v:Int) (ip:List UInt8):List HB->List HB
 | []=>[]
 | b::l=>if b.is v ip then l else b::aKf v ip l
theorem okH (v:Int) (ip:List UInt8):okA (.int .i64::(.str::[])) (hkV v ip):=⟨_,rfl,rfl⟩
theorem o7 (m:List HB):∀p∈lM m,okA (.int .i64::(.str::[])) p.1:=by
 intro p hp
 obtain⟨b,_,rfl⟩:=List.mem_map.1 hp
 exact okH _ _
theorem aAZ (v:Int) (ip:List UInt8) (b:HB):dZ (hkV v ip) (hkV b.v b.ip)=b.is v ip:=by
 simp only[dZ,hkV,HB.is,ceq,veq,Bool.and_true,ByteArray.toList_eq]
theorem aNl (v:Int) (ip:List UInt8):∀(m:List HB) (i:Nat),(wV dZ (hkV v ip) (lM m) i).map (·.2)=(jO v ip m).map fun b=>hvV b.mac b.age
 | [],_=>rfl
 | b::m,i=>by
  simp only[lM,List.map_cons,wV,jO,aAZ]
  by_cases h:b.is v ip=true
  ·rw[if_pos h,if_pos h]
   rfl
  ·rw[if_neg h,if_neg h]
   exact aNl v ip m (i+1)
theorem aLJ (v:Int) (ip:List UInt8) (m:List HB):tL dZ (hkV v ip) (lM m)=(jO v ip m).map fun b=>hvV b.mac b.age:=aNl v ip m 0
theorem sU (b:HB):∀m:List HB,sQ dZ (hkV b.v b.ip) (hvV b.mac b.age) (lM m)=lM (tP b m)
 | []=>rfl
 | c::m=>by
  simp only[lM,List.map_cons,sQ,tP,aAZ]
  by_cases h:c.is b.v b.ip=true
  ·rw[if_pos h,if_pos h]
   rfl
  ·rw[if_neg h,if_neg h,List.map_cons]
   congr 1
   exact sU b m
theorem aDL (v:Int) (ip:List UInt8):∀m:List HB,yP dZ (hkV v ip) (lM m)=lM (aKf v ip m)
 | []=>rfl
 | c::m=>by
  simp only[lM,List.map_cons,yP,aKf,aAZ]
  by_cases h:c.is v ip=true
  ·rw[if_pos h,if_pos h]
   try rfl
  ·rw[if_neg h,if_neg h,List.map_cons]
   congr 1
   exact aDL v ip m
theorem aEy (v:Int) (ip:List UInt8) (e:Bool) (w:World):(Instr.checkKey e 10000 200 (hkV v ip)).run Tryz.prog w=.ok () w:=by
 kernel_rfl
theorem lO:KeyTy Tryz.prog 200 (okA (.int .i64::(.str::[]))) dZ:=by
 refine qI Tryz.underlying200 ?_
 rintro k ⟨xs,rfl,hx⟩ e w
 obtain⟨x,r,rfl,h1,h2⟩:=nW hx
 obtain⟨y,r2,rfl,h3,h4⟩:=nW h2
 obtain rfl:=aDJ h4
 obtain⟨v,rfl⟩:=o6 h1
 obtain⟨ip,rfl⟩:=aEx h3
 exact aEy v ip e w
theorem iG:Tryz.prog.underlying 182=some (.map 200 202):=Tryz.underlying182
theorem aGe (w:World):(zeroValue 202).run Tryz.prog w=.ok (hvV (Vector.replicate 6 0) 0) w:=by
 kernel_rfl
structure HushT (w:World) (T M:Nat) (time:Int) (m:List HB):Prop where
 row:row w T=#[.int .i64 time,.map (some M)]
 ok:mapOk w M
 map:eB w M=lM m
end
section
open Go.RowKit
theorem HushT.lt {w:World} {T M:Nat} {time:Int} {m:List HB} (h:HushT w T M time m):T<w.heap.size:=aM (i:=0) (by rw[h.row];simp)
theorem HushT.below {B:Nat} {w w':World} {T M:Nat} {time:Int} {m:List HB} (h:HushT w T M time m) (hb:Below B w w') (hT:T<B) (hM:M<B):HushT w' T M time m:=
 ⟨by rw[aA hb hT,h.row],aR hb hM h.ok,by rw[aT hb hM,h.map]⟩
theorem aIl (time:Int) (w:World) (h:time<1∨1000000<time):
  Calls Tryz.prog 37 #[.int .i64 time] w fun e w'=>e=.returned (.tuple #[.pointer none,.int .i64 1])/\Below w.heap.size w w':=by
 go_enter Tryz.func37,Tryz.ntmps37
 by_cases h1:time<1
 ·go_wp2_with fail
  go_ret2
  exact⟨rfl,Below.refl _ _⟩
 ·have h2:1000000<time:=by omega
  go_wp2_with fail
  go_ret2
  exact⟨rfl,Below.refl _ _⟩
theorem aGf (time:Int) (w:World) (h1:1<=time) (h2:time<=1000000):
  Calls Tryz.prog 37 #[.int .i64 time] w fun e w'=>e=.returned (.tuple #[.pointer (some ⟨w.heap.size+1,0,none⟩),.int .i64 0])/\Below w.heap.size w w'/\HushT w' (w.heap.size+1) w.heap.size time []/\w'.heap.size=w.heap.size+2:=by
 have h3:¬time<1:=by omega
 have h4:¬1000000<time:=by omega
 go_enter Tryz.func37,Tryz.ntmps37
 go_wp2_with fail
 go_ret2
 refine⟨rfl,?_,⟨?_,?_,?_⟩,?_⟩
 ·(repeat (first | exact Below.refl _ _ | refine Below.al ?_ _ | refine Below.drew ?_ | refine Below.sr ?_ _ | refine Below.sc ?_ _))
 ·simp[go_sem]
 ·refine(bD (Below.heap_alloc _ _ _ (by simp))).2 (aAS _ rfl)
 ·rw[wT _ _ (by simp),aDH _ _ _ rfl];rfl
 ·simp
def eT (v:Int) (ip:List UInt8) (m:List HB):Vector UInt8 6×Bool:=match jO v ip m with | some b=>(b.mac,true) | none=>(Vector.replicate 6 0,false)
theorem aKg (v:Int) (ip:List UInt8) (m:List HB):∃age:Int,∀W M,mapOk W M->eB W M=lM m->
  (Instr.lookup 182 (.map (some M)) (.agg #[.int .i64 v,.string ⟨ip.toArray⟩]) true).run Tryz.prog W=.ok (.tuple #[.agg (u8v (eT v ip m).1++[Value.int .i64 age]).toArray,.bool (eT v ip m).2]) W:=by
 refine⟨match jO v ip m with | some b=>b.age | none=>0,fun W M h1 h2=>?_⟩
 have h:=yO lO iG (aGe W) h1 (okH v ip) (by rw[h2];exact o7 m) true
 rw[h2,aLJ]at h
 refine Eq.trans h ?_
 unfold eT
 cases jO v ip m<;>rfl
theorem nX (v:Int) (ip:List UInt8) (w:World) {T M:Nat} {time:Int} {m:List HB} (h:HushT w T M time m):
  Calls Tryz.prog 130 #[.pointer (some ⟨T,0,none⟩),.int .i64 v,.string ⟨ip.toArray⟩] w fun e w'=>e=.returned (.tuple #[.agg (u8v (eT v ip m).1).toArray,.bool (eT v ip m).2])/\Below w.heap.size w w':=by
 have hr:=h.row
 have hlt:=h.lt
 have hMlt:=h.ok.lt
 obtain⟨age,hl⟩:=aKg v ip m
 obtain⟨fm,hfm⟩:∃x,(eT v ip m).1=x:=⟨_,rfl⟩
 obtain⟨fh,hfh⟩:∃x,(eT v ip m).2=x:=⟨_,rfl⟩
 rw[hfm,hfh]at hl ⊢
 have hM:=h.ok
 have hL:=h.map
 clear hfm hfh
 go_enter Tryz.func130,Tryz.ntmps130
 go_wp2_with fail
 ((try simp only[Exit.inBlock,Exit.then]);refine bodyPost_ret (aS rfl (aK rfl ?_) aP) rfl ?_;(simp[go_sem]))
 refine⟨by simp[go_sem],?_⟩
 (repeat (first | exact Below.refl _ _ | refine Below.al ?_ _ | refine Below.drew ?_ | refine Below.sr ?_ _ | refine Below.sc ?_ _))
end
end Go.Proofs.YtiagbbknkdgmeaaGreat
