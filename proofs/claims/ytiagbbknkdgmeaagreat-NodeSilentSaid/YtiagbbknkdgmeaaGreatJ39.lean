/- Texts of this proof, merged: Nod, NodP. -/
import Derived.Test.YtiagbbknkdgmeaaGreatJ25
import Derived.Test.YtiagbbknkdgmeaaGreatJ26
import Derived.Test.YtiagbbknkdgmeaaGreatJ38
set_option linter.unusedSimpArgs false
set_option linter.unusedVariables false
set_option maxHeartbeats 8000000
set_option maxRecDepth 20000
namespace Go.Proofs.YtiagbbknkdgmeaaGreat
section
open Go.RowKit Go.Shelf
def cY (id:Vector UInt8 8) (ma he de ageing:Int) (pa:Option Addr) (n cap:Nat) (mac:Vector UInt8 6) (br sp:Option Addr) (ea:Option Addr) (ne ec:Nat) (q:Option Addr) (sent ch:Int):List Value:=
 u8v id++(.int .i64 ma::.int .i64 he::.int .i64 de::.int .i64 ageing::.slice pa n cap::(u8v mac++[.pointer br,.pointer sp,.slice ea ne ec,.pointer q,.int .u32 sent,.int .i64 ch]))
def aAF (L M:Nat) (pl:Int):Array Value:=#[.pointer (some ⟨L,0,none⟩),.map (some M),.int .i64 pl,.bool false,.int .i64 0]
def tA (e:Option Nat):Value:=.pointer (e.map fun b=>⟨b,0,none⟩)
def EndAt (w:World) (B:Nat) (x:PortX) (r k p d:Int) (b:Nat):Prop:=B<=b/\∃L M,∃pl:Nat,w.heap[b]? =some (.cells (aAF L M pl) 95 (0,0))/\B<=L/\row w L=(aCd x.psk.toList x.greets r k p d).cells.toArray
def EndsT (w:World) (B:Nat) (ps:List PortX) (r k p d:Int) (es:List (Option Nat)):Prop:=
 es.length=ps.length/\∀(i:Nat) (x:PortX),ps[i]? =some x->(x.link=false/\es[i]? =some none)∨(x.link=true/\∃b,es[i]? =some (some b)/\EndAt w B x r k p d b)
theorem aBU {w:World} {b:Nat} {c:Array Value} {t:TypeId} (h:w.heap[b]? =some (.cells c t (0,0))):row w b=c:=by
 unfold row
 rw[h]
 simp
theorem EndAt.kept {w w':World} {B:Nat} {x:PortX} {r k p d:Int} {b:Nat} (h:EndAt w B x r k p d b) (hb:∀j c,B<=j->w.heap[j]? =some (.cells c 95 (0,0))->w'.heap[j]? =w.heap[j]?) (hl:∀j,B<=j->row w j=(aCd x.psk.toList x.greets r k p d).cells.toArray->row w' j=row w j):EndAt w' B x r k p d b:=by
 obtain⟨h1,L,M,pl,h2,h3,h4⟩:=h
 exact⟨h1,L,M,pl,(hb b _ h1 h2).trans h2,h3,(hl L h3 h4).trans h4⟩
theorem EndAt.append {w w':World} {B B':Nat} {e:TypeId} {sz:Nat} {v:Value} {l:List (List Value)} {x:PortX} {r k p d:Int} {b:Nat} (h:EndAt w B x r k p d b) (hown:OwnL w B' e sz v l) (he:e≠95) (hk:∀X,X<w.heap.size->v.ownBlock≠some X->w'.heap[X]? =w.heap[X]?)
  (hu:∀X,v.ownBlock=some X->∀n:Int,(row w X)[0]? ≠some (.int .u8 n)):EndAt w' B x r k p d b:=by
 refine h.kept (fun j c _ hj=>hk j (Array.getElem?_eq_some_iff.1 hj).1 fun e2=>?_) (fun j _ hj=>aJ (hk j (aM (i:=0) (by rw[hj];simp[aCd,LinkT.cells])) fun e2=>?_))
 ·obtain⟨_,_,cur,h3⟩:=hown.blk e2
  rw[hj]at h3
  simp only[Option.some.injEq,Obj.cells.injEq]at h3
  exact he h3.2.1.symm
 ·obtain⟨z,l',hz⟩:∃z l',(aCd x.psk.toList x.greets r k p d).cells=Value.int .u8 z::l':=by
   have hl:x.psk.toList.length=32:=by simp
   unfold aCd LinkT.cells
   dsimp only
   cases hp:x.psk.toList with
   | nil=>rw[hp]at hl;simp at hl
   | cons c l=>exact⟨_,_,rfl⟩
  refine hu j e2 z ?_
  rw[hj,hz]
  rfl
theorem aEc {w:World} {B:Nat} {e:TypeId} {sz:Nat} {v y:Value} {ys:List Value} {l:List (List Value)} (h:OwnL w B e sz v l) (h0:l[0]? =some (y::ys)) {X:Nat} (hX:v.ownBlock=some X):(row w X)[0]? =some y:=by
 cases l with
 | nil=>simp at h0
 | cons a l=>
  simp only[List.getElem?_cons_zero,Option.some.injEq]at h0
  subst h0
  obtain⟨g,cap,rest,rfl,hr,_⟩:=aAf h (by simp)
  simp only[Value.ownBlock,Option.some.injEq]at hX
  subst hX
  rw[hr]
  simp
theorem EndsT.append {w w':World} {B B':Nat} {e:TypeId} {sz:Nat} {v:Value} {l:List (List Value)} {ps:List PortX} {r k p d:Int} {es:List (Option Nat)} (h:EndsT w B ps r k p d es) (hown:OwnL w B' e sz v l) (he:e≠95) (hk:∀X,X<w.heap.size->v.ownBlock≠some X->w'.heap[X]? =w.heap[X]?)
  (h0:(∀x∈ps,x.link=false)∨∃y ys,l[0]? =some (y::ys)/\∀n:Int,y≠.int .u8 n):EndsT w' B ps r k p d es:=by
 refine⟨h.1,fun i x hx=>?_⟩
 rcases h.2 i x hx with h1 | ⟨h1,b,h2,h3⟩
 ·exact .inl h1
 ·refine .inr ⟨h1,b,h2,h3.append hown he hk fun X hX n=>?_⟩
  rcases h0 with h0 | ⟨y,ys,h0,hy⟩
  ·rw[h0 x (List.mem_of_getElem? hx)]at h1
   cases h1
  ·rw[aEc hown h0 hX]
   intro hc
   exact hy n (Option.some.inj hc)
theorem EndsT.below {w w':World} {B:Nat} {ps:List PortX} {r k p d:Int} {es:List (Option Nat)} (h:EndsT w B ps r k p d es) (hb:Below w.heap.size w w'):EndsT w' B ps r k p d es:=by
 refine⟨h.1,fun i x hx=>?_⟩
 rcases h.2 i x hx with h1 | ⟨h1,b,h2,h3⟩
 ·exact .inl h1
 ·exact .inr ⟨h1,b,h2,h3.kept (fun j c _ hj=>hb.block j (Array.getElem?_eq_some_iff.1 hj).1) (fun j _ hj=>aA hb (aM (i:=0) (by rw[hj];simp[aCd,LinkT.cells])))⟩
theorem EndsT.set {w:World} {B N:Nat} {ps:List PortX} {r k p d:Int} {es:List (Option Nat)} (h:EndsT w B ps r k p d es) (hN:N<B) (c:Array Value):EndsT (w.setRow N c) B ps r k p d es:=by
 refine⟨h.1,fun i x hx=>?_⟩
 rcases h.2 i x hx with h1 | ⟨h1,b,h2,h3⟩
 ·exact .inl h1
 ·exact .inr ⟨h1,b,h2,h3.kept (fun j c2 hj _=>aO _ _ _ (by omega)) (fun j hj _=>aC _ _ _ (by omega))⟩
theorem OwnL.beside {w w':World} {B B':Nat} {e e':TypeId} {sz sz':Nat} {v v':Value} {l l':List (List Value)} (h:OwnL w B e sz v l) (h':OwnL w B' e' sz' v' l') (he:e≠e') (hk:∀X,X<w.heap.size->v'.ownBlock≠some X->w'.heap[X]? =w.heap[X]?):OwnL w' B e sz v l:=
 h.keep fun X hX=>hk X (h.blk hX).2.1 (h.apart h' he hX)
theorem iM {w w':World} {B b:Nat} {e t:TypeId} {sz:Nat} {v:Value} {l:List (List Value)} {c:Array Value} (h:w.heap[b]? =some (.cells c t (0,0))) (h':OwnL w B e sz v l) (ht:t≠e) (hk:∀X,X<w.heap.size->v.ownBlock≠some X->w'.heap[X]? =w.heap[X]?):w'.heap[b]? =some (.cells c t (0,0)):=by
 refine(hk b (Array.getElem?_eq_some_iff.1 h).1 fun e2=>?_).trans h
 obtain⟨_,_,cur,h3⟩:=h'.blk e2
 rw[h]at h3
 simp only[Option.some.injEq,Obj.cells.injEq]at h3
 exact ht h3.2.1
theorem jE {w w':World} {B b:Nat} {e:TypeId} {sz:Nat} {v:Value} {l:List (List Value)} (h':OwnL w B e sz v l) (hb:b<w.heap.size) (hB:b<B) (hk:∀X,X<w.heap.size->v.ownBlock≠some X->w'.heap[X]? =w.heap[X]?):row w' b=row w b:=
 aJ (hk b hb fun e2=>by have:=(h'.blk e2).1;omega)
theorem EndsT.snoc_tap {w:World} {B:Nat} {ps:List PortX} {r k p d:Int} {es:List (Option Nat)} (h:EndsT w B ps r k p d es) {x:PortX} (hx:x.link=false):EndsT w B (ps++[x]) r k p d (es++[none]):=by
 refine⟨by simp[h.1],fun i y hy=>?_⟩
 rcases Nat.lt_or_ge i ps.length with hi | hi
 ·rw[List.getElem?_append_left hi]at hy
  rcases h.2 i y hy with ⟨h1,h2⟩ | ⟨h1,b,h2,h3⟩
  ·exact .inl ⟨h1,by rw[List.getElem?_append_left (by rw[h.1];exact hi)];exact h2⟩
  ·exact .inr ⟨h1,b,by rw[List.getElem?_append_left (by rw[h.1];exact hi)];exact h2,h3⟩
 ·have hl:=(List.getElem?_eq_some_iff.1 hy).1
  have hie:i=ps.length:=by simp at hl;omega
  subst hie
  simp at hy
  subst hy
  exact .inl ⟨hx,by rw[<-h.1];simp⟩
theorem EndsT.snoc_link {w:World} {B:Nat} {ps:List PortX} {r k p d:Int} {es:List (Option Nat)} (h:EndsT w B ps r k p d es) {x:PortX} (hx:x.link=true) {b:Nat} (hb:EndAt w B x r k p d b):EndsT w B (ps++[x]) r k p d (es++[some b]):=by
 refine⟨by simp[h.1],fun i y hy=>?_⟩
 rcases Nat.lt_or_ge i ps.length with hi | hi
 ·rw[List.getElem?_append_left hi]at hy
  rcases h.2 i y hy with ⟨h1,h2⟩ | ⟨h1,b,h2,h3⟩
  ·exact .inl ⟨h1,by rw[List.getElem?_append_left (by rw[h.1];exact hi)];exact h2⟩
  ·exact .inr ⟨h1,b,by rw[List.getElem?_append_left (by rw[h.1];exact hi)];exact h2,h3⟩
 ·have hl:=(List.getElem?_eq_some_iff.1 hy).1
  have hie:i=ps.length:=by simp at hl;omega
  subst hie
  simp at hy
  subst hy
  exact .inr ⟨hx,b,by rw[<-h.1];simp,hb⟩
theorem EndsT.append2 {w w':World} {B B':Nat} {e:TypeId} {sz:Nat} {v:Value} {l:List (List Value)} {ps:List PortX} {r k p d:Int} {es:List (Option Nat)} (h:EndsT w B ps r k p d es) (hown:OwnL w B' e sz v l) (he:e≠95) (hk:∀X,X<w.heap.size->v.ownBlock≠some X->w'.heap[X]? =w.heap[X]?)
  (hu:∀X,v.ownBlock=some X->∀n:Int,(row w X)[0]? ≠some (.int .u8 n)):EndsT w' B ps r k p d es:=by
 refine⟨h.1,fun i x hx=>?_⟩
 rcases h.2 i x hx with h1 | ⟨h1,b,h2,h3⟩
 ·exact .inl h1
 ·exact .inr ⟨h1,b,h2,h3.append hown he hk hu⟩
end
section
open Go.RowKit Go.Shelf
structure PartsI (w0 w:World) (N:Nat) (row0:Option Addr->Nat->Nat->Array Value) (ps:List PortX) (r k p d:Int) (j:Nat) (ppa:Option Addr) (ppc:Nat) (rows:List (List Value)) (ca:Option Addr) (cc:Nat) (cs:List Int) (ea:Option Addr) (ec:Nat) (es:List (Option Nat)):Prop where
 rN:row w N=row0 ea j ec
 lr:rows.length=j
 own1:OwnL w w0.heap.size 64 4 (.slice ppa j ppc) rows
 rows:∀(q:Nat) (x:PortX),q<j->ps[q]? =some x->∃ta tc,rows[q]? =some (j7 ta tc x.p)/\ElemsOff [N] w0 ta 1 (x.p.tagged.map fun v=>[Value.int .i64 v])
 own2:OwnL w w0.heap.size 3 1 (.slice ca cs.length cc) (cs.map fun c=>[Value.int .i64 c])
 nolink:cs=[]->∀x∈ps.take j,x.link=false
 nil2:cs=[]->ca=none
 own3:OwnL w w0.heap.size 91 1 (.slice ea j ec) (es.map fun e=>[tA e])
 ends:EndsT w w0.heap.size (ps.take j) r k p d es
 low:BelowBut w0.heap.size N w0 w
theorem aHC:(Tryz.prog.info? 91).map (fun i=>(i.zero.map (·.cells.size),i.size,i.bytes))=some (some 1,1,8):=by kernel_rfl
theorem aHD:(Tryz.prog.info? 3).map (fun i=>(i.zero.map (·.cells.size),i.size,i.bytes))=some (some 1,1,8):=by kernel_rfl
section
variable (id:Vector UInt8 8) (ma he de ageing:Int) (pa:Option Addr) (cap:Nat) (ps:List PortX) (mac:Vector UInt8 6) (qq:Option Addr) (N:Nat) (r k p d:Int) (w:World)
theorem aHE (hN:row w N=(cY id ma he de ageing pa ps.length cap mac none none none 0 0 qq 0 0).toArray) (h:PXOff [N] w pa ps) (hn:ps.length<=32) (hT:nB r k p d):
  Calls Tryz.prog 18 #[.pointer (some ⟨N,0,none⟩),.agg #[.int .i64 r,.int .i64 k,.int .i64 p,.int .i64 d]] w fun e w'=>∃ppa ppc ca cc cs,e=.returned (.tuple #[.slice ppa ps.length ppc,.slice ca cs.length cc,.int .i64 0])/\∃rows ea ec es,PartsI w w' N (fun ea j ec=>(cY id ma he de ageing pa ps.length cap mac none none ea j ec qq 0 0).toArray) ps r k p d ps.length ppa ppc rows ca cc cs ea ec es:=by
 have zN:N<w.heap.size:=aM (i:=0) (by rw[hN];simp[cY])
 have hnI:(ps.length:Int)<=32:=by omega
 unfold cY at hN
 go_enter Tryz.func18,Tryz.ntmps18
 obtain⟨w1,hw1⟩:∃x,w.alloc (.cells #[Value.int .i64 r,.int .i64 k,.int .i64 p,.int .i64 d] 44)=x:=⟨_,rfl⟩
 have b1:Below w.heap.size w w1:=by rw[<-hw1];exact ba_
 have z1:w1.heap.size=w.heap.size+1:=by rw[<-hw1,aF]
 have r1:row w1 w.heap.size=#[Value.int .i64 r,.int .i64 k,.int .i64 p,.int .i64 d]:=by rw[<-hw1];exact aE _ _ _ rfl
 have rN1:=(aA b1 zN).trans hN
 have k01:w.heap.size<w1.heap.size:=by omega
 have E1:w1.heap[w.heap.size]? =some (.cells #[Value.int .i64 r,.int .i64 k,.int .i64 p,.int .i64 d] 44 (0,0)):=by rw[<-hw1];exact Array.getElem?_push_size
 go_wp2_with fail
 (try clear hw1)
 clear z1 hN
 have e1:w1.heap[w.heap.size]? =some (.cells #[Value.int .i64 r,.int .i64 k,.int .i64 p,.int .i64 d] 44 (0,0)):=E1
 go_loopw [7,8,19] (fun u c i wr=>∃(j:Nat) (ppa:Option Addr) (ppc:Nat) (rows:List (List Value)) (ca:Option Addr) (cc:Nat) (cs:List Int) (ea:Option Addr) (ec:Nat) (es:List (Option Nat)),j<=ps.length/\i=.int .i64 j/\u=.slice ppa j ppc/\c=.slice ca cs.length cc/\cs.length<=j/\PartsI w wr N (fun ea j ec=>(cY id ma he de ageing pa ps.length cap mac none none ea j ec qq 0 0).toArray) ps r k p d j ppa ppc rows ca cc cs ea ec es/\wr.heap[w.heap.size]? =some (.cells #[Value.int .i64 r,.int .i64 k,.int .i64 p,.int .i64 d] 44 (0,0))) (fun _ _ i _=>ps.length - (intOf i).toNat)
 case atStart=>exact⟨0,none,0,[],none,0,[],none,0,[],by omega,rfl,rfl,rfl,Nat.le_refl _,⟨rN1,rfl,OwnL.nil _ _ _ _,(fun q r hq _=>by omega),OwnL.nil _ _ _ _,(fun _ x hx=>by simp at hx),fun _=>rfl,OwnL.nil _ _ _ _,⟨rfl,fun i x hx=>by simp at hx⟩,BelowBut.of b1⟩,e1⟩
 case round=>
  obtain⟨j,ppa,ppc,rows,ca,cc,cs,ea,ec,es,hj,rfl,rfl,rfl,hcj,hI,hTm⟩:=hrel
  clear rN1 r1 b1 e1
  have zr:=hI.low.size
  have rN:=hI.rN
  unfold cY at rN
  by_cases hlt:j<ps.length
  ·have hltI:(j:Int)<(ps.length:Int):=by omega
   obtain⟨pb,po,ta,tc,rfl,hpb,hrd⟩:=h.get hlt
   obtain⟨x,hx⟩:∃x,ps[j]=x:=⟨_,rfl⟩
   rw[hx]at hrd
   have hld:=aGN (hrd wr (BelowS.one hI.low (by simp))).1
   have hit:=(hrd w (BelowS.of (Below.refl _ _))).2
   obtain⟨o,ho⟩:∃o,po+j*39=o:=⟨_,rfl⟩
   rw[ho]at hld
   have HIT:=h_ hit
   have HX:=h_ hx
   have HI:=h_ hI
   have HTm:=h_ hTm
   clear hrd hit hx hI hTm
   unfold dW at hld
   obtain⟨w2,hw2⟩:∃y,wr.alloc (.cells (Value.int .i64 x.p.native::Value.slice ta x.p.tagged.length tc::Value.int .i64 x.p.hor::Value.int .i64 x.p.lim::Value.bool x.link::Value.int .i64 x.rate::Value.bool x.greets::u8v x.psk).toArray 66)=y:=⟨_,rfl⟩
   have b2:Below wr.heap.size wr w2:=by rw[<-hw2];exact ba_
   have z2:w2.heap.size=wr.heap.size+1:=by rw[<-hw2,aF]
   have r2:row w2 wr.heap.size=(Value.int .i64 x.p.native::Value.slice ta x.p.tagged.length tc::Value.int .i64 x.p.hor::Value.int .i64 x.p.lim::Value.bool x.link::Value.int .i64 x.rate::Value.bool x.greets::u8v x.psk).toArray:=by rw[<-hw2];exact aE _ _ _ rfl
   have k2:w.heap.size<=w2.heap.size:=by omega
   have own1:=HI.out.own1.below b2
   have own2:=HI.out.own2.below b2
   have own3:=HI.out.own3.below b2
   have rN2:=(aA b2 (show N<wr.heap.size by omega)).trans rN
   have HO1:=h_ own1
   have HO2:=h_ own2
   have HO3:=h_ own3
   have HZ2:=h_ z2
   have hle10:rows.length<=10000:=by have:=HI.out.lr;omega
   have HL:=h_ hle10
   clear own1 own2 own3 z2 hle10
   have tm2:w2.heap[w.heap.size]? =some (.cells #[Value.int .i64 r,.int .i64 k,.int .i64 p,.int .i64 d] 44 (0,0)):=(b2.block _ (Array.getElem?_eq_some_iff.1 HTm.out).1).trans HTm.out
   have ends2:=HI.out.ends.below b2
   have hfirst:(∀y∈ps.take j,y.link=false)∨∃y ys,rows[0]? =some (y::ys)/\∀n:Int,y≠.int .u8 n:=by
    by_cases hj0:j=0
    ·subst hj0
     exact .inl (fun y hy=>by simp at hy)
    ·obtain⟨ta0,tc0,h0,_⟩:=HI.out.rows 0 ps[0] (by omega) (List.getElem?_eq_getElem (by omega))
     exact .inr ⟨_,_,h0,fun n e=>by cases e⟩
   have hefirst:(∀y∈ps.take j,y.link=false)∨∃y ys,(es.map fun e=>[tA e])[0]? =some (y::ys)/\∀n:Int,y≠.int .u8 n:=by
    by_cases hj0:j=0
    ·subst hj0
     exact .inl (fun y hy=>by simp at hy)
    ·have hel:es.length=j:=by rw[HI.out.ends.1,List.length_take];omega
     exact .inr ⟨_,_,by rw[List.getElem?_map,List.getElem?_eq_getElem (show 0<es.length by omega)];rfl,fun n e=>by cases e⟩
   have hcfirst:(∀y∈ps.take j,y.link=false)∨∃y ys,(cs.map fun c=>[Value.int .i64 c])[0]? =some (y::ys)/\∀n:Int,y≠.int .u8 n:=by
    cases cs with
    | nil=>exact .inl (HI.out.nolink rfl)
    | cons c cs=>exact .inr ⟨_,_,rfl,fun n e=>by cases e⟩
   have HF1:=h_ hfirst
   have HF2:=h_ hcfirst
   have HF3:=h_ hefirst
   have HE2:=h_ ends2
   clear hfirst hcfirst hefirst ends2
   go_wp2_with (at_builtin;(refine dM rfl rfl Tryz.underlying84 aAd (by decide) (by decide) w.heap.size _ _ rfl HO1.out [Value.int .i64 x.p.native,Value.slice ta x.p.tagged.length tc,Value.int .i64 x.p.hor,Value.int .i64 x.p.lim] rfl rfl rfl HL.out k2 ?_))
   intro v4 w4 hown4 b4 hk4
   obtain⟨ppa4,ppc4,hv4,_⟩:=hown4.elems
   have hlr:=HI.out.lr
   simp only[List.length_append,List.length_singleton,hlr]at hv4
   subst hv4
   have z4:w2.heap.size<=w4.heap.size:=b4.size
   have rN4:=(jE HO1.out (show N<w2.heap.size by omega) zN hk4).trans rN2
   have r4:=(aJ (hk4 wr.heap.size (by have:=HZ2.out;omega) (fun e=>by have:=(HI.out.own1.blk e).2.1;omega))).trans r2
   have HO24:=h_ (HO2.out.beside HO1.out (by decide) hk4)
   have HO34:=h_ (HO3.out.beside HO1.out (by decide) hk4)
   have tm4:=iM tm2 HO1.out (by decide) hk4
   have HE4:=h_ (HE2.out.append HO1.out (by decide) hk4 HF1.out)
   have low4:BelowBut w.heap.size N w w4:=(HI.out.low.trans ((BelowBut.of b2).mono (by omega))).trans (BelowBut.of b4)
   have hrows4:∀(q:Nat) (y:PortX),q<j+1->ps[q]? =some y->∃ta' tc',(rows++[[Value.int .i64 x.p.native,Value.slice ta x.p.tagged.length tc,Value.int .i64 x.p.hor,Value.int .i64 x.p.lim]])[q]? =some (j7 ta' tc' y.p)/\ElemsOff [N] w ta' 1 (y.p.tagged.map fun v=>[Value.int .i64 v]):=by
    intro q y hq hy
    by_cases hqk:q<j
    ·obtain⟨ta',tc',e1,e2⟩:=HI.out.rows q y hqk hy
     exact⟨ta',tc',by rw[List.getElem?_append_left (by omega)];exact e1,e2⟩
    ·have hqe:q=j:=by omega
     subst hqe
     rw[List.getElem?_eq_getElem hlt,HX.out]at hy
     cases hy
     exact⟨ta,tc,by rw[List.getElem?_append_right (by omega),hlr,Nat.sub_self];rfl,HIT.out⟩
   have HR4:=h_ hrows4
   have HO14:=h_ hown4
   have HT4:=h_ tm4
   have HLW:=h_ low4
   have k4:w.heap.size<=w4.heap.size:=by omega
   have kP:wr.heap.size<w4.heap.size:=by have:=HZ2.out;omega
   clear hrows4 hown4 tm4 low4 hk4 HO1 HO2 HO3 HE2 tm2 b2 r2 rN2 hld b4
   cases hxl:x.link with
   | false=>
    rw[hxl]at r4
    have hel:es.length=j:=by rw[HI.out.ends.1,List.length_take];omega
    have hle10:(es.map fun e=>[tA e]).length<=10000:=by rw[List.length_map,hel];omega
    have HL5:=h_ hle10
    clear hle10
    go_wp2_with (at_builtin;(refine dM rfl rfl Tryz.underlying80 aHC (by decide) (by decide) w.heap.size _ _ rfl HO34.out [Value.pointer none] rfl rfl rfl HL5.out k4 ?_))
    intro v5 w5 hown5 b5 hk5
    obtain⟨ea5,ec5,hv5,_⟩:=hown5.elems
    simp only[List.length_append,List.length_singleton,List.length_map,hel]at hv5
    subst hv5
    have z5:w4.heap.size<=w5.heap.size:=b5.size
    have rN5:=(jE HO34.out (show N<w4.heap.size by omega) zN hk5).trans rN4
    have HO15:=h_ (HO14.out.beside HO34.out (by decide) hk5)
    have HO25:=h_ (HO24.out.beside HO34.out (by decide) hk5)
    have HT5:=h_ (iM HT4.out HO34.out (by decide) hk5)
    have HE5:=h_ (HE4.out.append HO34.out (by decide) hk5 HF3.out)
    have low5:BelowBut w.heap.size N w w5:=HLW.out.trans (BelowBut.of b5)
    obtain⟨w6,hw6⟩:∃y,w5.setRow N (u8v id++(Value.int .i64 ma::Value.int .i64 he::Value.int .i64 de::Value.int .i64 ageing::Value.slice (some ⟨pb,po,none⟩) ps.length cap::(u8v mac++[Value.pointer none,Value.pointer none,Value.slice ea5 (j+1) ec5,Value.pointer qq,Value.int .u32 0,Value.int .i64 0]))).toArray=y:=⟨_,rfl⟩
    have rN6:row w6 N=(u8v id++(Value.int .i64 ma::Value.int .i64 he::Value.int .i64 de::Value.int .i64 ageing::Value.slice (some ⟨pb,po,none⟩) ps.length cap::(u8v mac++[Value.pointer none,Value.pointer none,Value.slice ea5 (j+1) ec5,Value.pointer qq,Value.int .u32 0,Value.int .i64 0]))).toArray:=by rw[<-hw6];exact aB (by rw[rN5];simp) (by rw[rN5];simp)
    have hkN:∀X,w.heap.size<=X->w6.heap[X]? =w5.heap[X]? :=fun X hX=>by rw[<-hw6];exact aO _ _ _ (by omega)
    have low6:BelowBut w.heap.size N w w6:=by rw[<-hw6];exact low5.trans (BelowBut.set _ _)
    have PI:PartsI w w6 N (fun ea j ec=>(cY id ma he de ageing (some ⟨pb,po,none⟩) ps.length cap mac none none ea j ec qq 0 0).toArray) ps r k p d (j+1) ppa4 ppc4 (rows++[[Value.int .i64 x.p.native,Value.slice ta x.p.tagged.length tc,Value.int .i64 x.p.hor,Value.int .i64 x.p.lim]]) ca cc cs ea5 ec5 (es++[none]):=
     ⟨rN6,by simp[hlr],HO15.out.keep fun X hX=>hkN X (HO15.out.blk hX).1,HR4.out,HO25.out.keep fun X hX=>hkN X (HO25.out.blk hX).1,fun e y hy=>by
      rw[List.take_succ_eq_append_getElem hlt,HX.out]at hy
      rcases List.mem_append.1 hy with hy | hy
      ·exact HI.out.nolink e y hy
      ·rw[List.mem_singleton.1 hy];exact hxl,HI.out.nil2,by
      rw[List.map_append]
      exact hown5.keep fun X hX=>hkN X (hown5.blk hX).1,by
      rw[List.take_succ_eq_append_getElem hlt,HX.out]
      exact((hw6▸HE5.out.set zN _:EndsT w6 w.heap.size (ps.take j) r k p d es)).snoc_tap hxl,low6⟩
    have tm6:=(hkN w.heap.size (Nat.le_refl _)).trans HT5.out
    have HPI:=h_ PI
    have HT6:=h_ tm6
    clear PI tm6 hown5 hk5 low5 low6 hkN rN6 rN4 r4 HO14 HO24 HO34 HT4 HE4 HLW HI b5
    go_wp2_with fail
    (try rw[hw6])
    (try clear hw6)
    go_roundw
    case rel=>exact⟨j+1,ppa4,ppc4,_,ca,cc,cs,ea5,ec5,_,by omega,by simp,rfl,rfl,by omega,HPI.out,HT6.out⟩
    case measure=>simp[intOf];omega
   | true=>
    rw[hxl]at r4
    have hel:es.length=j:=by rw[HI.out.ends.1,List.length_take];omega
    have rT4:=aBU HT4.out
    have hNew:∀W,Calls Tryz.prog 16 #[.agg (u8v x.psk).toArray,.bool x.greets,.agg #[.int .i64 r,.int .i64 k,.int .i64 p,.int .i64 d]] W fun e w'=>∃L,e=.returned (.tuple #[.pointer (some ⟨L,0,none⟩),.int .i64 0])/\W.heap.size<=L/\L<w'.heap.size/\row w' L=(aCd x.psk.toList x.greets r k p d).cells.toArray/\Below W.heap.size W w':=fun W=>yD x.psk.toList x.greets r k p d W (by simp) hT
    have HNew:=h_ hNew
    clear hNew
    go_wp2_with fail
    (with_reducible refine(HNew.out _).mono ?_)
    rintro e w5 ⟨L,rfl,gL,zL,rL,b5⟩
    have z5:=b5.size
    have rN5:=(aA b5 (show N<w4.heap.size by omega)).trans rN4
    have r5:=(aA b5 kP).trans r4
    have HO35:=HO34.out.below b5
    obtain⟨w6,hw6⟩:∃y,w5.alloc (Obj.map #[] 0)=y:=⟨_,rfl⟩
    have b6:Below w5.heap.size w5 w6:=by rw[<-hw6];exact ba_
    have z6:w6.heap.size=w5.heap.size+1:=by rw[<-hw6,aF]
    obtain⟨w7,hw7⟩:∃y,w6.alloc (.cells #[Value.pointer (some ⟨L,0,none⟩),.map (some w5.heap.size),.int .i64 (cs.length:Int),.bool false,.int .i64 0] 95)=y:=⟨_,rfl⟩
    have b7:Below w6.heap.size w6 w7:=by rw[<-hw7];exact ba_
    have z7:w7.heap.size=w6.heap.size+1:=by rw[<-hw7,aF]
    have hE7:w7.heap[w6.heap.size]? =some (.cells (aAF L w5.heap.size (cs.length:Int)) 95 (0,0)):=by rw[<-hw7];exact Array.getElem?_push_size
    have b57:Below w5.heap.size w5 w7:=b6.trans (b7.mono (by omega))
    have b47:Below w4.heap.size w4 w7:=b5.trans (b57.mono z5)
    have rN7:=(aA b57 (show N<w5.heap.size by omega)).trans rN5
    have r7:=(aA b57 (show wr.heap.size<w5.heap.size by omega)).trans r5
    have rL7:=(aA b57 zL).trans rL
    have HO17:=h_ (HO14.out.below b47)
    have HO27:=h_ (HO24.out.below b47)
    have HO37:=h_ (HO34.out.below b47)
    have HT7:=h_ ((b47.block w.heap.size (Array.getElem?_eq_some_iff.1 HT4.out).1).trans HT4.out)
    have HE7:=h_ (HE4.out.below b47)
    have low7:BelowBut w.heap.size N w w7:=HLW.out.trans ((BelowBut.of b47).mono k4)
    have k7:w.heap.size<=w7.heap.size:=by omega
    have gb:w.heap.size<=w6.heap.size:=by omega
    have gL':w.heap.size<=L:=by omega
    have hb7:w6.heap.size<w7.heap.size:=by omega
    have hL7:L<w7.heap.size:=by omega
    have hP7:wr.heap.size<w7.heap.size:=by omega
    have ho34:∀X,(Value.slice ea j ec).ownBlock=some X->X<w4.heap.size:=fun X e=>(HO34.out.blk e).2.1
    have ho14:∀X,(Value.slice ca cs.length cc).ownBlock=some X->X<w4.heap.size:=fun X e=>(HO24.out.blk e).2.1
    have hle10:(es.map fun e=>[tA e]).length<=10000:=by rw[List.length_map,hel];omega
    have hcl10:(cs.map fun c=>[Value.int .i64 c]).length<=10000:=by rw[List.length_map];omega
    have HL5:=h_ hle10
    have HL6:=h_ hcl10
    have hPE:wr.heap.size<w4.heap.size:=kP
    have HZ7:=h_ z7
    have HZ6:=h_ z6
    have hL4:w4.heap.size<=L:=gL
    have hE4:w4.heap.size<=w6.heap.size:=by omega
    clear hle10 hcl10 z6 z7 b6 b7 b57 b47 r5 rL rN4 r4 HO14 HO24 HO34 HT4 HE4 HLW b5 rT4 HO35
    go_wp2_with (at_builtin;(refine dM rfl rfl Tryz.underlying80 aHC (by decide) (by decide) w.heap.size _ _ rfl HO37.out [Value.pointer (some ⟨w6.heap.size,0,none⟩)] rfl rfl rfl HL5.out k7 ?_))
    intro v8 w8 hown8 b8 hk8
    obtain⟨ea8,ec8,hv8,_⟩:=hown8.elems
    simp only[List.length_append,List.length_singleton,List.length_map,hel]at hv8
    subst hv8
    have z8:w7.heap.size<=w8.heap.size:=b8.size
    have rN8:=(jE HO37.out (show N<w7.heap.size by omega) zN hk8).trans rN7
    have r8:=(aJ (hk8 wr.heap.size hP7 (fun e=>by have:=HO37.out.blk e;have h2:=HI.out.own3.blk e;omega))).trans r7
    have HO18:=h_ (HO17.out.beside HO37.out (by decide) hk8)
    have HO28:=h_ (HO27.out.beside HO37.out (by decide) hk8)
    have HT8:=h_ (iM HT7.out HO37.out (by decide) hk8)
    have HE8:=h_ (HE7.out.append HO37.out (by decide) hk8 HF3.out)
    have HEA8:EndAt w8 w.heap.size x r k p d w6.heap.size:=⟨gb,L,w5.heap.size,cs.length,(hk8 _ hb7 (fun e=>by have:=ho34 _ e;omega)).trans hE7,gL',(aJ (hk8 L hL7 (fun e=>by have:=ho34 _ e;omega))).trans rL7⟩
    have low8:BelowBut w.heap.size N w w8:=low7.trans (BelowBut.of b8)
    obtain⟨w9,hw9⟩:∃y,w8.setRow N (u8v id++(Value.int .i64 ma::Value.int .i64 he::Value.int .i64 de::Value.int .i64 ageing::Value.slice (some ⟨pb,po,none⟩) ps.length cap::(u8v mac++[Value.pointer none,Value.pointer none,Value.slice ea8 (j+1) ec8,Value.pointer qq,Value.int .u32 0,Value.int .i64 0]))).toArray=y:=⟨_,rfl⟩
    have rN9:row w9 N=(u8v id++(Value.int .i64 ma::Value.int .i64 he::Value.int .i64 de::Value.int .i64 ageing::Value.slice (some ⟨pb,po,none⟩) ps.length cap::(u8v mac++[Value.pointer none,Value.pointer none,Value.slice ea8 (j+1) ec8,Value.pointer qq,Value.int .u32 0,Value.int .i64 0]))).toArray:=by rw[<-hw9];exact aB (by rw[rN8];simp) (by rw[rN8];simp)
    have hkN:∀X,w.heap.size<=X->w9.heap[X]? =w8.heap[X]? :=fun X hX=>by rw[<-hw9];exact aO _ _ _ (by omega)
    have z9:w9.heap.size=w8.heap.size:=by rw[<-hw9,setRow_size]
    have low9:BelowBut w.heap.size N w w9:=by rw[<-hw9];exact low8.trans (BelowBut.set _ _)
    have HO19:=h_ (HO18.out.keep (w':=w9) fun X hX=>hkN X (HO18.out.blk hX).1)
    have HO29:=h_ (HO28.out.keep (w':=w9) fun X hX=>hkN X (HO28.out.blk hX).1)
    have HO39:=h_ (hown8.keep (w':=w9) fun X hX=>hkN X (hown8.blk hX).1)
    have HT9:=h_ ((hkN w.heap.size (Nat.le_refl _)).trans HT8.out)
    have hE9:EndsT w9 w.heap.size (ps.take j) r k p d es:=by rw[<-hw9];exact HE8.out.set zN _
    have hEA9:EndAt w9 w.heap.size x r k p d w6.heap.size:=HEA8.kept (fun q c hq _=>hkN q hq) (fun q hq _=>aJ (hkN q hq))
    have HE9:=h_ (hE9.snoc_link hxl hEA9)
    have r9:=(aJ (hkN wr.heap.size (by omega))).trans r8
    have HL9:=h_ low9
    have k9:w.heap.size<=w9.heap.size:=by omega
    have HZ9:=h_ z9
    have ho28:∀X,(Value.slice ca cs.length cc).ownBlock=some X->X<w4.heap.size:=ho14
    clear hE9 hEA9 HEA8 hown8 HO18 HO28 HO17 HO27 HO37 HT7 HT8 HE7 HE8 hk8 low8 low9 rN7 r7 r8 rL7 hE7 low7 b8 z9
    go_wp2_with fail
    (try clear hw9)
    (with_reducible refine(aII _ _).mono ?_)
    rintro e w10 ⟨⟨co,rfl⟩,b10⟩
    have z10:w9.heap.size<=w10.heap.size:=b10.size
    have HO1A:=h_ (HO19.out.below b10)
    have HO2A:=h_ (HO29.out.below b10)
    have HO3A:=h_ (HO39.out.below b10)
    have HTA:=h_ ((b10.block w.heap.size (Array.getElem?_eq_some_iff.1 HT9.out).1).trans HT9.out)
    have HEB:=h_ (HE9.out.below b10)
    have rNA:=(aA b10 (show N<w9.heap.size by omega)).trans rN9
    have lowA:BelowBut w.heap.size N w w10:=HL9.out.trans (BelowBut.of (b10.mono k9))
    have kA:w.heap.size<=w10.heap.size:=by omega
    have huA:∀X,(Value.slice ca cs.length cc).ownBlock=some X->∀n:Int,(row w10 X)[0]? ≠some (.int .u8 n):=by
     intro X hX n
     cases hcs:cs with
     | nil=>
      rw[HI.out.nil2 hcs]at hX
      cases hX
     | cons c0 cs0=>
      have:=HO2A.out
      rw[hcs]at this hX
      rw[aEc this rfl hX]
      intro hc
      cases hc
    have HUA:=h_ huA
    clear huA b10 HO19 HO29 HO39 HT9 HE9 rN9 HL9 r9
    go_wp2_with (at_builtin;(refine dM rfl rfl Tryz.underlying55 aHD (by decide) (by decide) w.heap.size _ _ rfl HO2A.out [Value.int .i64 co] rfl rfl rfl HL6.out kA ?_))
    intro v11 w11 hown11 b11 hk11
    obtain⟨ca11,cc11,hv11,_⟩:=hown11.elems
    simp only[List.length_append,List.length_singleton,List.length_map]at hv11
    subst hv11
    have z11:w10.heap.size<=w11.heap.size:=b11.size
    have rNB:=(jE HO2A.out (show N<w10.heap.size by omega) zN hk11).trans rNA
    have PI:PartsI w w11 N (fun ea j ec=>(cY id ma he de ageing (some ⟨pb,po,none⟩) ps.length cap mac none none ea j ec qq 0 0).toArray) ps r k p d (j+1) ppa4 ppc4 (rows++[[Value.int .i64 x.p.native,Value.slice ta x.p.tagged.length tc,Value.int .i64 x.p.hor,Value.int .i64 x.p.lim]]) ca11 cc11 (cs++[co]) ea8 ec8 (es++[some w6.heap.size]):=
     ⟨rNB,by simp[hlr],HO1A.out.beside HO2A.out (by decide) hk11,HR4.out,by
      rw[List.map_append,List.length_append,List.length_singleton]
      exact hown11,fun e=>by simp at e,fun e=>by simp at e,by
      rw[List.map_append]
      exact HO3A.out.beside HO2A.out (by decide) hk11,by
      rw[List.take_succ_eq_append_getElem hlt,HX.out]
      exact HEB.out.append2 HO2A.out (by decide) hk11 HUA.out,lowA.trans (BelowBut.of b11)⟩
    have tmB:=iM HTA.out HO2A.out (by decide) hk11
    have HPI:=h_ PI
    have HTB:=h_ tmB
    have hcl:(cs++[co]).length=cs.length+1:=by simp
    clear PI tmB hown11 hk11 lowA rNA rNB HO1A HO2A HO3A HTA HEB HUA HI b11
    go_wp2_with fail
    go_roundw
    case rel=>exact⟨j+1,ppa4,ppc4,_,ca11,cc11,cs++[co],ea8,ec8,_,by omega,by simp,rfl,by rw[hcl],by rw[hcl];omega,HPI.out,HTB.out⟩
    case measure=>simp[intOf];omega
  ·obtain rfl:j=ps.length:=by omega
   have hltI:¬(ps.length:Int)<(ps.length:Int):=by omega
   have HI:=h_ hI
   clear hI
   go_wp2_with fail
   go_ret3
   exact⟨ppa,ppc,ca,cc,cs,rfl,rows,ea,ec,es,HI.out⟩
end
end
end Go.Proofs.YtiagbbknkdgmeaaGreat
