/- A daemon's configuration as an argument, with its ports and their slices of numbers. -/
import Derived.Test.YtiagbbknkdgmeaaGreatJ25
import Derived.Test.YtiagbbknkdgmeaaGreatJ24
set_option linter.unusedSimpArgs false
set_option linter.unusedVariables false
set_option maxHeartbeats 8000000
set_option maxRecDepth 20000
namespace Go.Proofs.YtiagbbknkdgmeaaGreat
open Go.RowKit Go.Shelf
theorem IntsAt.offN {w:World} {a:Option Addr} {l:List Int} (h:IntsAt w a l):ElemsOff [] w a 1 (l.map fun v=>[Value.int .i64 v]):=
 ⟨h.1,fun i x hx=>by obtain⟨b,off,e,hl,hr⟩:=h.2 i x hx;exact⟨b,off,e,hl,List.not_mem_nil,hr⟩⟩
theorem aNi {l:List Value} (h:7<=l.length):∃a b c d e f g r,l=a::b::c::d::e::f::g::r:=by
 rcases l with _ | ⟨a,_ | ⟨b,_ | ⟨c,_ | ⟨d,_ | ⟨e,_ | ⟨f,_ | ⟨g,r⟩⟩⟩⟩⟩⟩⟩
 all_goals (first | exact⟨_,_,_,_,_,_,_,_,rfl⟩ | (simp at h))
theorem good_b32:tM Tryz.prog 27 (cS 32 (.int .u8)):=
 wW (sS Tryz.underlying5 kr_) Tryz.underlying27 kr_
theorem good_b8:tM Tryz.prog 22 (cS 8 (.int .u8)):=
 wW (sS Tryz.underlying5 kr_) Tryz.underlying22 kr_
theorem vO {n:Nat} {l:List Value} (h:gP (cS n (.int .u8)) l):∃m:Vector UInt8 n,l=u8v m:=by
 obtain⟨m,r,e,h2⟩:=aDG (n:=n) (ls:=[]) (by rw[List.append_nil];exact h)
 rw[tH h2,List.append_nil]at e
 exact⟨m,e⟩
section
variable {H:Type} {enc:TypeId×Value->H} {w:World} {base:Nat} {spare:Nat->Bool} {held:Bool} {fuel:Nat}
theorem aFL {cs:List Value} {x:DataW H×List MemPlace} (h:DataW.trod enc Tryz.prog w base spare held fuel 57 cs=some x):∃(q:PortX) (ta:Option Addr) (tc:Nat),cs=dW ta tc q/\IntsAt w ta q.p.tagged:=by
 have hc39:Tryz.prog.cellsOf 57=39:=by kernel_rfl
 have hc1:Tryz.prog.cellsOf 3=1:=by kernel_rfl
 have hcs:Tryz.prog.cellsOf 55=1:=by kernel_rfl
 have hcb:Tryz.prog.cellsOf 4=1:=by kernel_rfl
 have hck:Tryz.prog.cellsOf 27=32:=by kernel_rfl
 obtain⟨xs,n2,_,_,hl2,hxl,hxs⟩:=DataW.trod_struct Tryz.underlying57 h
 rw[hc39]at hl2
 obtain⟨k0,k1,k2,k3,k4,k5,k6,kr,rfl⟩:=aNi (l:=cs) (by omega)
 have f0:DataW.trod enc Tryz.prog w base spare held n2 3 (([k0,k1,k2,k3,k4,k5,k6]++kr).take (Tryz.prog.cellsOf 3))=xs[0]? :=hxs 0 _ rfl
 have f1:DataW.trod enc Tryz.prog w base spare held n2 55 ((([k0,k1,k2,k3,k4,k5,k6]++kr).drop 1).take (Tryz.prog.cellsOf 55))=xs[1]? :=hxs 1 _ rfl
 have f2:DataW.trod enc Tryz.prog w base spare held n2 3 ((([k0,k1,k2,k3,k4,k5,k6]++kr).drop 2).take (Tryz.prog.cellsOf 3))=xs[2]? :=hxs 2 _ rfl
 have f3:DataW.trod enc Tryz.prog w base spare held n2 3 ((([k0,k1,k2,k3,k4,k5,k6]++kr).drop 3).take (Tryz.prog.cellsOf 3))=xs[3]? :=hxs 3 _ rfl
 have f4:DataW.trod enc Tryz.prog w base spare held n2 4 ((([k0,k1,k2,k3,k4,k5,k6]++kr).drop 4).take (Tryz.prog.cellsOf 4))=xs[4]? :=hxs 4 _ rfl
 have f5:DataW.trod enc Tryz.prog w base spare held n2 3 ((([k0,k1,k2,k3,k4,k5,k6]++kr).drop 5).take (Tryz.prog.cellsOf 3))=xs[5]? :=hxs 5 _ rfl
 have f6:DataW.trod enc Tryz.prog w base spare held n2 4 ((([k0,k1,k2,k3,k4,k5,k6]++kr).drop 6).take (Tryz.prog.cellsOf 4))=xs[6]? :=hxs 6 _ rfl
 have f7:DataW.trod enc Tryz.prog w base spare held n2 27 ((([k0,k1,k2,k3,k4,k5,k6]++kr).drop 7).take (Tryz.prog.cellsOf 27))=xs[7]? :=hxs 7 _ rfl
 have hxl8:xs.length=8:=by rw[hxl];rfl
 rw[List.getElem?_eq_getElem (by omega)]at f0 f1 f2 f3 f4 f5 f6 f7
 rw[hc1]at f0 f2 f3 f5
 rw[hcs]at f1
 rw[hcb]at f4 f6
 rw[hck]at f7
 obtain⟨v0,e0,_,_⟩:=DataW.trod_int Tryz.underlying3 f0
 obtain⟨v2,e2,_,_⟩:=DataW.trod_int Tryz.underlying3 f2
 obtain⟨v3,e3,_,_⟩:=DataW.trod_int Tryz.underlying3 f3
 obtain⟨v4,e4,_⟩:=DataW.trod_bool Tryz.underlying4 f4
 obtain⟨v5,e5,_,_⟩:=DataW.trod_int Tryz.underlying3 f5
 obtain⟨v6,e6,_⟩:=DataW.trod_bool Tryz.underlying4 f6
 obtain⟨v7,e7⟩:=vO (good_b32.2 _ _ _ _ _ _ _ _ _ f7)
 simp only[List.cons_append,List.nil_append,List.drop,List.take,List.cons.injEq,and_true]at e0 e2 e3 e4 e5 e6 e7 f1
 obtain⟨ta,l,tc,e1,hi1⟩:=aEQ (c:=k1) Tryz.underlying55 Tryz.underlying3 hc1 f1
 have hkr:kr.take 32=kr:=List.take_of_length_le (by simp at hl2;omega)
 have e7':kr=u8v v7:=by rw[<-hkr];first | exact e7 | (simpa using e7)
 exact⟨⟨⟨v0,l,v2,v3⟩,v4,v5,v6,v7⟩,ta,tc,by rw[e0,e1,e2,e3,e4,e5,e6,e7'];rfl,hi1⟩
theorem aDw {c:Value} {x:DataW H×List MemPlace} (h:DataW.trod enc Tryz.prog w base spare held fuel 23 [c]=some x):
  ∃pa ps cap,c=.slice pa (List.length (α:=PortX) ps) cap/\PXOff [] w pa ps:=by
 have hc39:Tryz.prog.cellsOf 57=39:=by kernel_rfl
 rcases Go.Deep.open_slice Tryz.underlying23 h with ⟨h1,_⟩ | ⟨a',len,cap,m,n,D,Pl,h1,hb,hl,hm,hmm,_,hxx⟩
 ·rw[List.cons.injEq]at h1
  exact⟨none,[],0,h1.1,Nat.zero_le _,fun i r h=>by simp at h⟩
 ·rw[List.cons.injEq]at h1
  obtain⟨rfl,_⟩:=h1
  have hlm:len<=m:=by rw[hmm];split<;>omega
  have hget:∀i,i<len->∃(q:PortX) (ta:Option Addr) (tc:Nat),w.cells? base (Addr.add a' (i*39)) 39=some (dW ta tc q)/\IntsAt w ta q.p.tagged:=by
   intro i hi
   obtain⟨cs',c1,c2⟩:=hxx i (by omega)
   rw[hc39]at c1
   obtain⟨q,ta,tc,rfl,hi1⟩:=aFL c2
   exact⟨q,ta,tc,c1,hi1⟩
  obtain⟨f,hf⟩:∃f:Nat->PortX×Option Addr×Nat,∀i,i<len->w.cells? base (Addr.add a' (i*39)) 39=some (dW (f i).2.1 (f i).2.2 (f i).1)/\IntsAt w (f i).2.1 (f i).1.p.tagged:=by
   refine⟨fun i=>if hi:i<len then (Classical.choose (hget i hi),Classical.choose (Classical.choose_spec (hget i hi)),Classical.choose (Classical.choose_spec (Classical.choose_spec (hget i hi))))else (⟨⟨0,[],0,0⟩,false,0,false,Vector.replicate 32 0⟩,none,0),fun i hi=>?_⟩
   dsimp only
   rw[dif_pos hi]
   exact Classical.choose_spec (Classical.choose_spec (Classical.choose_spec (hget i hi)))
  refine⟨some a',(List.range len).map fun i=>(f i).1,cap,by simp,by simp;omega,fun i r hr=>?_⟩
  rw[List.getElem?_map]at hr
  have hi:i<len:=by
   rcases Nat.lt_or_ge i len with h | h
   ·exact h
   ·rw[List.getElem?_eq_none (by simpa using h)]at hr;simp at hr
  rw[List.getElem?_range hi]at hr
  simp only[Option.map_some,Option.some.injEq]at hr
  subst hr
  obtain⟨g1,g2⟩:=hf i hi
  obtain⟨_,hlen,c3⟩:=World.cells?_some g1
  have h0:=c3 0 (by omega)
  have hsp:a'.spot=none:=by
   obtain⟨q1,_⟩:=hf 0 (by omega)
   obtain⟨_,_,q3⟩:=World.cells?_some q1
   have q4:=q3 0 (by omega)
   rw[Nat.zero_mul,oE,oE]at q4
   exact aBD q4
  obtain⟨b,off,sp⟩:=a'
  dsimp only at hsp
  subst hsp
  have hlt:b<w.heap.size:=by
   rcases Nat.lt_or_ge b w.heap.size with hlt | hge
   ·exact hlt
   ·rw[fP,fP]at h0
    simp[World.cell?,Array.getElem?_eq_none hge,dW]at h0
  refine⟨b,off,(f i).2.1,(f i).2.2,rfl,hlt,List.not_mem_nil,fun W hW j u hj=>?_,g2.offN⟩
  have hjl:=(List.getElem?_eq_some_iff.1 hj).1
  have c4:=c3 j (by omega)
  rw[hj,fP,fP]at c4
  rw[<-c4]
  have hW2:W.heap[b]? =w.heap[b]? :=hW
  simp only[World.cell?,hW2]
theorem aFM {cs:List Value} {x:DataW H×List MemPlace} (h:DataW.trod enc Tryz.prog w base spare held fuel 25 cs=some x):
  ∃id ma he de ageing pa ps cap,cs=hZ id ma he de ageing pa (List.length (α:=PortX) ps) cap/\PXOff [] w pa ps:=by
 have hc13:Tryz.prog.cellsOf 25=13:=by kernel_rfl
 have hc1:Tryz.prog.cellsOf 3=1:=by kernel_rfl
 have hcs:Tryz.prog.cellsOf 23=1:=by kernel_rfl
 have hck:Tryz.prog.cellsOf 22=8:=by kernel_rfl
 obtain⟨xs,n2,_,_,hl2,hxl,hxs⟩:=DataW.trod_struct Tryz.underlying25 h
 rw[hc13]at hl2
 have f0:DataW.trod enc Tryz.prog w base spare held n2 22 ((cs.drop 0).take (Tryz.prog.cellsOf 22))=xs[0]? :=hxs 0 _ rfl
 have f1:DataW.trod enc Tryz.prog w base spare held n2 3 ((cs.drop 8).take (Tryz.prog.cellsOf 3))=xs[1]? :=hxs 1 _ rfl
 have f2:DataW.trod enc Tryz.prog w base spare held n2 3 ((cs.drop 9).take (Tryz.prog.cellsOf 3))=xs[2]? :=hxs 2 _ rfl
 have f3:DataW.trod enc Tryz.prog w base spare held n2 3 ((cs.drop 10).take (Tryz.prog.cellsOf 3))=xs[3]? :=hxs 3 _ rfl
 have f4:DataW.trod enc Tryz.prog w base spare held n2 3 ((cs.drop 11).take (Tryz.prog.cellsOf 3))=xs[4]? :=hxs 4 _ rfl
 have f5:DataW.trod enc Tryz.prog w base spare held n2 23 ((cs.drop 12).take (Tryz.prog.cellsOf 23))=xs[5]? :=hxs 5 _ rfl
 have hxl6:xs.length=6:=by rw[hxl];rfl
 rw[List.getElem?_eq_getElem (by omega)]at f0 f1 f2 f3 f4 f5
 rw[hc1]at f1 f2 f3 f4
 rw[hcs]at f5
 rw[hck]at f0
 obtain⟨v0,e0⟩:=vO (good_b8.2 _ _ _ _ _ _ _ _ _ f0)
 obtain⟨v1,e1,_,_⟩:=DataW.trod_int Tryz.underlying3 f1
 obtain⟨v2,e2,_,_⟩:=DataW.trod_int Tryz.underlying3 f2
 obtain⟨v3,e3,_,_⟩:=DataW.trod_int Tryz.underlying3 f3
 obtain⟨v4,e4,_,_⟩:=DataW.trod_int Tryz.underlying3 f4
 have hd:∀k,k<13->∃c,(cs.drop k).take 1=[c]/\cs.drop k=c::cs.drop (k+1):=fun k hk=>by
  rw[List.drop_eq_getElem_cons (by omega)]
  exact⟨_,rfl,rfl⟩
 obtain⟨c8,d8,g8⟩:=hd 8 (by omega)
 obtain⟨c9,d9,g9⟩:=hd 9 (by omega)
 obtain⟨c10,d10,g10⟩:=hd 10 (by omega)
 obtain⟨c11,d11,g11⟩:=hd 11 (by omega)
 obtain⟨c12,d12,g12⟩:=hd 12 (by omega)
 rw[d8]at e1
 rw[d9]at e2
 rw[d10]at e3
 rw[d11]at e4
 rw[d12]at f5
 obtain⟨pa,ps,cap,e5,hp⟩:=aDw f5
 have hend:cs.drop 13=[]:=List.drop_eq_nil_of_le (by omega)
 have hcs2:cs=cs.take 8++cs.drop 8:=(List.take_append_drop 8 cs).symm
 simp only[List.cons.injEq,and_true]at e1 e2 e3 e4
 refine⟨v0,v1,v2,v3,v4,pa,ps,cap,?_,hp⟩
 rw[hcs2,g8,g9,g10,g11,g12,hend,e1,e2,e3,e4,e5,show cs.take 8=u8v v0 from by simpa using e0]
 rfl
end
theorem aHU {w:World} {v:Value} {r:Reach} {base:Nat} (hv:Value.okWide Tryz.prog w r base 25 v) (hr:aF9 Tryz.prog w 25 v):
  ∃id ma he de ageing pa ps cap,v=.agg (hZ id ma he de ageing pa (List.length (α:=PortX) ps) cap).toArray/\PXOff [] w pa ps:=by
 obtain⟨H,enc,base',spare,held,fuel,x,hx⟩:=hr
 obtain⟨cs,rfl⟩:∃cs,v=.agg cs:=by
  unfold Value.okWide at hv
  rw[Tryz.underlying25]at hv
  obtain⟨cs,h1,_⟩:=hv
  exact⟨cs,h1⟩
 have hx':DataW.trod enc Tryz.prog w base' spare held fuel 25 cs.toList=some x:=by simpa[Value.cells]using hx
 obtain⟨id,ma,he,de,ageing,pa,ps,cap,e,hp⟩:=aFM hx'
 exact⟨id,ma,he,de,ageing,pa,ps,cap,by rw[<-e],hp⟩
end Go.Proofs.YtiagbbknkdgmeaaGreat
