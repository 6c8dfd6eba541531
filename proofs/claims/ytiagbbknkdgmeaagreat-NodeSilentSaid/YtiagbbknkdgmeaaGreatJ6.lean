/- Texts of this proof, merged: Slc, Slx, Gen, Lst, Off. -/
import Derived.Deep.Slices
import Derived.OpenShut
import Derived.Test.YtiagbbknkdgmeaaGreatJ3
import Derived.Test.YtiagbbknkdgmeaaGreatRegJ
import Derived.Test.YtiagbbknkdgmeaaGreatJ5
import Derived.Laws.AppendOwn
set_option linter.unusedSimpArgs false
set_option linter.unusedVariables false
set_option maxHeartbeats 8000000
set_option maxRecDepth 20000
namespace Go.Proofs.YtiagbbknkdgmeaaGreat
section
open Go.RowKit
theorem kH:∀{l1 l2:List Leaf} {a b:List Value},gP l1 a->gP l2 b->gP (l1++l2) (a++b)
 | [],_,[],_,_,h=>h
 | _::_,_,_::_,_,h1,h2=>⟨h1.1,kH h1.2 h2⟩
 | [],_,_::_,_,h,_=>by cases h
 | _::_,_,[],_,h,_=>by cases h
def tM (P:Program) (t:TypeId) (ls:List Leaf):Prop:=
 P.cellsOf t=ls.length/\∀(H:Type) (enc:TypeId×Value->H) (w:World) (base:Nat) (spare:Nat->Bool) (held:Bool) (fuel:Nat) (cs:List Value) (x:DataW H×List MemPlace),DataW.trod enc P w base spare held fuel t cs=some x->gP ls cs
section
variable {P:Program} {t:TypeId}
theorem sS {k:IntKind} (hu:P.underlying t=some (.int k)) (hc:P.cellsOf t=1):tM P t [.int k]:=by
 refine⟨hc,fun H enc w base spare held fuel cs x h=>?_⟩
 obtain⟨n,rfl,_,hw⟩:=DataW.trod_int hu h
 refine⟨⟨rfl,?_⟩,trivial⟩
 have:=hw
 simp[Lit.wf]at this
 exact this
theorem aIi (hu:P.underlying t=some .string) (hc:P.cellsOf t=1):tM P t [.str]:=by
 refine⟨hc,fun H enc w base spare held fuel cs x h=>?_⟩
 obtain⟨s,rfl,_,hs⟩:=DataW.trod_string hu h
 exact⟨hs,trivial⟩
theorem qG {ls:List Leaf}:∀(n:Nat) (cs:List Value),cs.length=n*ls.length->(∀i,i<n->gP ls ((cs.drop (i*ls.length)).take ls.length))->gP (List.replicate n ls).flatten cs
 | 0,cs,hl,_=>by
  have:cs=[]:=List.eq_nil_of_length_eq_zero (by simpa using hl)
  subst this
  trivial
 | n+1,cs,hl,h=>by
  have h0:=h 0 (by omega)
  simp only[Nat.zero_mul,List.drop_zero]at h0
  have hr:=qG n (cs.drop ls.length) (by rw[List.length_drop,hl,Nat.succ_mul,Nat.add_sub_cancel]) fun i hi=>by
   have:=h (i+1) (by omega)
   rw[List.drop_drop,show ls.length+i*ls.length=(i+1)*ls.length by rw[Nat.succ_mul];omega]
   exact this
  have:=kH h0 hr
  rw[List.take_append_drop]at this
  simpa[List.replicate_succ]using this
theorem wW {n:Nat} {e:TypeId} {ls:List Leaf} (he:tM P e ls) (hu:P.underlying t=some (.array n e)) (hc:P.cellsOf t=n*ls.length):tM P t (List.replicate n ls).flatten:=by
 refine⟨by rw[hc];simp,fun H enc w base spare held fuel cs x h=>?_⟩
 obtain⟨xs,m,_,_,hl,hxl,hx⟩:=DataW.trod_array hu h
 refine qG n cs (by rw[hl,hc]) fun i hi=>?_
 have:=hx i hi
 rw[he.1]at this
 rw[List.getElem?_eq_getElem (by omega)]at this
 exact he.2 _ _ _ _ _ _ _ _ _ this
def aKc:Nat->List (TypeId×List Leaf)->List (TypeId×Nat)
 | _,[]=>[]
 | o,(t,l)::r=>(t,o)::aKc (o+l.length) r
theorem qH:∀(ts:List (TypeId×List Leaf)) (o:Nat) (cs:List Value),cs.length=o+(ts.map (·.2)).flatten.length->
  (∀(i:Nat) (t:TypeId) (f:List Leaf),ts[i]? =some (t,f)->∀o':Nat,(aKc o ts)[i]? =some (t,o')->gP f ((cs.drop o').take f.length))->gP (ts.map (·.2)).flatten (cs.drop o)
 | [],o,cs,hl,_=>by
  rw[List.drop_of_length_le (by simpa using Nat.le_of_eq hl)]
  trivial
 | (t,l)::r,o,cs,hl,h=>by
  have h0:=h 0 t l rfl o rfl
  have hr:=qH r (o+l.length) cs (by rw[hl];simp;omega) fun i t' f hi o' ho=>h (i+1) t' f hi o' ho
  have:=kH h0 hr
  rw[show cs.drop (o+l.length)=(cs.drop o).drop l.length by rw[List.drop_drop],List.take_append_drop]at this
  simpa using this
theorem aCn {fs:Array Field} (ts:List (TypeId×List Leaf)) (hts:∀p∈ts,tM P p.1 p.2) (hu:P.underlying t=some (.struct fs)) (hf:fs.toList.map (fun f=>(f.type,f.offset))=aKc 0 ts)
  (hc:P.cellsOf t=(ts.map (·.2)).flatten.length):tM P t (ts.map (·.2)).flatten:=by
 refine⟨hc,fun H enc w base spare held fuel cs x h=>?_⟩
 obtain⟨xs,n,_,_,hl,hxl,hx⟩:=DataW.trod_struct hu h
 have:=qH ts 0 cs (by rw[hl,hc,Nat.zero_add]) fun i t' f hi o' ho=>?_
 ·simpa using this
 ·rw[<-hf,List.getElem?_map]at ho
  cases hfi:fs.toList[i]? with
  | none=>rw[hfi]at ho;cases ho
  | some fl=>
   rw[hfi]at ho
   simp only[Option.map_some,Option.some.injEq,Prod.mk.injEq]at ho
   have hfi2:fs[i]? =some fl:=by simpa using hfi
   have h1:=hx i fl hfi2
   have hg:=hts (t',f) (List.mem_of_getElem? hi)
   rw[ho.1,ho.2,hg.1]at h1
   have hil:i<xs.length:=by
    rw[hxl]
    have:=(List.getElem?_eq_some_iff.1 hfi).1
    simpa using this
   rw[List.getElem?_eq_getElem hil]at h1
   exact hg.2 _ _ _ _ _ _ _ _ _ h1
end
theorem fP (b o k:Nat):Addr.add ⟨b,o,none⟩ k=⟨b,o+k,none⟩:=by
 unfold Addr.add
 split
 ·rename_i h
  rw[h]
  rfl
 ·rfl
def blk (w:World) (b:Nat):Option Obj:=w.heap[b]?
section
variable {w:World}
@[go_sem] theorem aLI (o : Obj) (n : Nat) (hn : n < w.heap.size) : blk (w.alloc o) n = blk w n := Below.heap_alloc w o n hn
@[go_sem] theorem aMD (n : Nat) : blk w.drew n = blk w n := rfl
@[go_sem] theorem aLm (g k : Nat) (c : Array Value) (h : k ≠ g) : blk (w.setRow g c) k = blk w k := aO g k c h
theorem gV {B b:Nat} {w w':World} (h:Below B w w') (hb:b<B):blk w' b=blk w b:=h.block b hb
end
def aMZ (w:World) (n:Nat) (v:Value) (l:List (List Value)):Prop:=
 (v=.slice none 0 0/\l=[])∨
 ∃b off cap,v=.slice (some ⟨b,off,none⟩) l.length cap/\l.length<=cap/\cap<=maxLen/\(l≠[]->b<w.heap.size)/\∀W,blk W b=blk w b->∀(i:Nat) (x:List Value),l[i]? =some x->W.rangeAt b (off+i*n) x
theorem aKd {H:Type} {enc:TypeId×Value->H} {P:Program} {w:World} {base:Nat} {spare:Nat->Bool} {held:Bool} {fuel:Nat} {t e:TypeId} {ls:List Leaf} {v:Value} {x:DataW H×List MemPlace}
  (hu:P.underlying t=some (.slice e)) (he:tM P e ls) (hpos:0<ls.length) (hv:∃a len cap,v=.slice a len cap) (hs:∀a len cap,v=.slice (some a) len cap->a.spot=none) (h:DataW.trod enc P w base spare held fuel t [v]=some x):
  ∃l:List (List Value),aMZ w ls.length v l/\∀y∈l,gP ls y:=by
 rcases Go.Deep.open_slice hu h with ⟨h1,_⟩ | ⟨a,len,cap,m,n,D,Pl,h1,hb,hl,hm,hmm,_,hx⟩
 ·rw[List.cons.injEq]at h1
  exact⟨[],.inl ⟨h1.1,rfl⟩,by simp⟩
 ·rw[List.cons.injEq]at h1
  obtain⟨rfl,_⟩:=h1
  have hsp:=hs a len cap rfl
  obtain⟨b,off,sp⟩:=a
  dsimp only at hsp
  subst hsp
  have hlm:len<=m:=by rw[hmm];split<;>omega
  obtain⟨f,hf⟩:∃f:Nat->List Value,∀i,i<len->w.cells? base (Addr.add ⟨b,off,none⟩ (i*P.cellsOf e)) (P.cellsOf e)=some (f i)/\gP ls (f i):=by
   refine⟨fun i=>(w.cells? base (Addr.add ⟨b,off,none⟩ (i*P.cellsOf e)) (P.cellsOf e)).getD [],fun i hi=>?_⟩
   obtain⟨cs',c1,c2⟩:=hx i (by omega)
   dsimp only
   rw[c1]
   exact⟨rfl,he.2 _ _ _ _ _ _ _ _ _ c2⟩
  refine⟨(List.range len).map f,.inr ?_,?_⟩
  ·refine⟨b,off,cap,by simp,by simpa using hl,hm,?_,?_⟩
   ·intro hne
    have h0:0<len:=by
     rcases Nat.eq_zero_or_pos len with e | e
     ·subst e;simp at hne
     ·exact e
    obtain⟨c1,_⟩:=hf 0 h0
    obtain⟨_,hlen,c2⟩:=World.cells?_some c1
    have c3:=c2 0 (by rw[he.1];exact hpos)
    rw[List.getElem?_eq_getElem (by rw[hlen,he.1];exact hpos)]at c3
    rcases Nat.lt_or_ge b w.heap.size with hlt | hge
    ·exact hlt
    ·rw[fP,fP]at c3
     simp[World.cell?,Array.getElem?_eq_none hge]at c3
   ·intro W hW i x hix
    rw[List.getElem?_map]at hix
    cases hr:(List.range len)[i]? with
    | none=>rw[hr]at hix;cases hix
    | some k=>
     rw[hr]at hix
     obtain⟨hi,rfl⟩:=List.getElem?_eq_some_iff.1 hr
     simp only[Option.map_some,Option.some.injEq,List.getElem_range]at hix
     rw[List.length_range]at hi
     obtain⟨c1,_⟩:=hf i hi
     obtain⟨_,hlen,c2⟩:=World.cells?_some c1
     intro j v hj
     rw[<-hix]at hj
     have hjl:j<(f i).length:=(List.getElem?_eq_some_iff.1 hj).1
     have c3:=c2 j (by omega)
     rw[hj,he.1]at c3
     rw[<-c3]
     have hW2:W.heap[b]? =w.heap[b]? :=hW
     rw[fP,fP]
     simp only[World.cell?,hW2]
  ·intro y hy
   obtain⟨i,hi,rfl⟩:=List.mem_map.1 hy
   exact(hf i (by simpa using hi)).2
end
section
open Go.RowKit
section
variable {P:Program} {w:World}
theorem cI {t n b off:Nat} [hA:AggOf P t n] {l:List Value} (h:w.rangeAt b off l) (hl:l.length=n):(mC t (.pointer (some ⟨b,off,none⟩))).run P w=.ok (.agg l.toArray) w:=by
 obtain⟨d,hu,hd⟩:=hA.agg
 have:=run_loadVar_mid (P:=P) w b off t l d h hu hd (by rw[hA.size,hl])
 simp only[mC,Instr.loadAt,Instr.sureAddr,Sem.run_bind,Sem.run_pure,Result.andThen_ok,this]
theorem aKe {n:Nat} {v:Value} {l:List (List Value)} (h:aMZ w n v l):∃a cap,v=.slice a l.length cap/\l.length<=maxLen/\
  ∀(i:Nat) (x:List Value),l[i]? =some x->∃b off,a=some ⟨b,off,none⟩/\b<w.heap.size/\∀W,blk W b=blk w b->W.rangeAt b (off+i*n) x:=by
 rcases h with ⟨rfl,rfl⟩ | ⟨b,off,cap,rfl,h1,h2,h3,h4⟩
 ·exact⟨none,0,rfl,Nat.zero_le _,fun i x h=>by simp at h⟩
 ·refine⟨_,cap,rfl,by omega,fun i x hx=>⟨b,off,rfl,h3 (fun e=>by rw[e]at hx;simp at hx),fun W hW=>h4 W hW i x hx⟩⟩
def aF9 (P:Program) (w:World) (t:TypeId) (v:Value):Prop:=
 ∃(H:Type) (enc:TypeId×Value->H) (base:Nat) (spare:Nat->Bool) (held:Bool) (fuel:Nat) (x:DataW H×List MemPlace),DataW.trod enc P w base spare held fuel t v.cells.toList=some x
theorem aAT {H:Type} {enc:TypeId×Value->H} {base:Nat} {spare:Nat->Bool} {held:Bool}:∀{ts:List TypeId} {vs:List Value} {ds:List (DataW H)} {ps:List MemPlace},DataW.TrodAll enc P w base spare held ts vs ds ps->
  ∀(j:Nat) t v,ts[j]? =some t->vs[j]? =some v->aF9 P w t v
 | [],[],_,_,_,j,t,v,h,_=>by simp at h
 | t0::ts,v0::vs,d::ds,ps,h,j,t,v,h1,h2=>by
  obtain⟨p,q,⟨f,hf⟩,hr,_⟩:=h
  cases j with
  | zero=>
   simp only[List.getElem?_cons_zero,Option.some.injEq]at h1 h2
   subst h1 h2
   exact⟨H,enc,base,spare,held,f,_,hf⟩
  | succ j=>exact aAT hr j t v (by simpa using h1) (by simpa using h2)
 | [],_::_,[],_,h,_,_,_,_,_=>by cases h
 | [],_::_,_::_,_,h,_,_,_,_,_=>by cases h
 | _::_,[],[],_,h,_,_,_,_,_=>by cases h
 | _::_,[],_::_,_,h,_,_,_,_,_=>by cases h
 | _::_,_::_,[],_,h,_,_,_,_,_=>by cases h
theorem aIj {t e:TypeId} {ls:List Leaf} {v:Value} {r:Reach} {base:Nat} (hu:P.underlying t=some (.slice e)) (he:tM P e ls) (hpos:0<ls.length) (hv:Value.okWide P w r base t v) (hr:aF9 P w t v):
  ∃l:List (List Value),aMZ w ls.length v l/\∀y∈l,gP ls y:=by
 obtain⟨H,enc,base',spare,held,fuel,x,hx⟩:=hr
 obtain⟨a,len,cap,rfl⟩:=Go.WideShapes.okWide_slice hu hv
 refine aKd hu he hpos ⟨a,len,cap,rfl⟩ ?_ hx
 intro a' len' cap' e
 cases e
 unfold Value.okWide at hv
 rw[hu]at hv
 simp only[Cell.okWide,hu,Cell.ok]at hv
 exact hv.2.2.2.1
end
def XS (l:List (Nat×Array Value)) (X:World->Prop) (w:World):Prop:=Rws l w/\X w
def GrowP (X:World->Prop):Prop:=∀w w1,X w->Below w.heap.size w w1->X w1
theorem XS.grow {l:List (Nat×Array Value)} {X:World->Prop} (hX:GrowP X) (w w1:World) (h:XS l X w) (hb:Below w.heap.size w w1):XS l X w1:=⟨Rws.grow l w w1 h.1 hb,hX _ _ h.2 hb⟩
section
variable {P:Program} {ops:Array Oper} {Q:Exit->Act->World->Prop} {md:Region.Mode}
theorem sI {id:Nat} {a:Act} {w:World} (l:List (Nat×Array Value)) (X:World->Prop) (hG:GrowP X) (hm:P.follows .mixedOrders=true) (hS:Rws l w) (hX:X w)
  (h:XS l X w.drew->bR P .any ops Q (XS l X) ops.size (Array.replicate ops.size false) a w.drew):(Code.region id ops true).wp P Q a w:=
 wp_region_held hm (gR _ _ _ _ (h (XS.grow hG w _ ⟨hS,hX⟩ (Below.drew (Below.refl _ _)))))
end
section
variable {P:Program} {ops:Array Oper} {Q:Exit->Act->World->Prop} {id:Nat} {a:Act} {w:World}
theorem nV (l:List (Nat×Array Value)) (X:World->Prop) (hG:GrowP X) (hX:X w) (h:XS l X w.drew->bR P .any ops Q (XS l X) ops.size (Array.replicate ops.size false) a w.drew) (hm:P.follows .mixedOrders=true:=by rfl) (hS:Rws l w:=by simp only[Rws];(repeat (first | exact trivial | refine⟨(by first | assumption | (simp[go_sem, *];done)),(by first | omega | (simp;done) | (simp;omega)),?_⟩))):(Code.region id ops true).wp P Q a w:=sI l X hG hm hS hX h
end
end
section
open Go.RowKit
theorem GrowP.and {X Y:World->Prop} (h:GrowP X) (k:GrowP Y):GrowP fun w=>X w/\Y w:=fun w w1 hx hb=>⟨h w w1 hx.1 hb,k w w1 hx.2 hb⟩
theorem aAU:GrowP fun _=>True:=fun _ _ _ _=>trivial
theorem d6 (W:World):GrowP fun w=>Below W.heap.size W w:=fun w w1 h hb=>h.trans (hb.mono h.size)
section
variable {P:Program} {ops:Array Oper} {Q:Exit->Act->World->Prop} {md:Region.Mode}
theorem sp (i:Nat) {oi:Oper} {v:Value} {fuel:Nat} {listed:Array Bool} {a a':Act} {w:World} {l:List (Nat×Array Value)} {X:World->Prop} (hG:GrowP X) (hS:XS l X w)
  (h:bR P md ops Q (XS l X) fuel (listed.setIfInBounds i true) a' w)
  (hi:ops[i]? =some oi:=by simp only[List.getElem?_toArray,List.getElem?_cons_succ,List.getElem?_cons_zero];rfl)
  (hs:Region.noSelect ops=true:=by kernel_rfl) (hf:Region.free md ops listed i=true:=by kernel_rfl) (hr:(Region.ready md ops listed).contains i=true:=by kernel_rfl)
  (hQ:∀c a w,Q (.panic c) (a.put oi.dst v) w->Q (.panic c) a w:=by first | exact fun _ _ _ h=>h | exact fun _ _ _ h=>by cases h.1)
  (hw:Region.wanted oi (yielded ops a.tmps)=true:=by rfl)
  (hy:∀w',XS l X w'->mD P (fun u w''=>u=v/\Below w'.heap.size w' w'') ((execOp a.eval oi).run P w'):=by
   intro w' hS'
   obtain⟨hS',hX'⟩:=hS'
   simp only[Rws]at hS'
   go_simp
   refine⟨?_,Below.refl _ _⟩
   rfl)
  (hp:a.put oi.dst v=a':=by first | (simp only[Act.put,List.setIfInBounds_toArray,List.set_cons_zero,List.set_cons_succ];rfl) | rfl):
  bR P md ops Q (XS l X) (fuel+1) listed a w:=
 cU hi hs hf hr hQ (XS.grow hG) (Or.inl ⟨hw,hy⟩) hS (hp▸h)
theorem sn (i:Nat) {oi:Oper} {fuel:Nat} {listed:Array Bool} {a a':Act} {w:World} {l:List (Nat×Array Value)} {X:World->Prop} (hG:GrowP X) (hS:XS l X w)
  (h:bR P md ops Q (XS l X) fuel (listed.setIfInBounds i true) a' w)
  (hi:ops[i]? =some oi:=by simp only[List.getElem?_toArray,List.getElem?_cons_succ,List.getElem?_cons_zero];rfl)
  (hs:Region.noSelect ops=true:=by kernel_rfl) (hf:Region.free md ops listed i=true:=by kernel_rfl) (hr:(Region.ready md ops listed).contains i=true:=by kernel_rfl)
  (hQ:∀c a w,Q (.panic c) (a.put oi.dst undef) w->Q (.panic c) a w:=by first | exact fun _ _ _ h=>h | exact fun _ _ _ h=>by cases h.1)
  (hw:Region.wanted oi (yielded ops a.tmps)=false:=by rfl)
  (hp:a.put oi.dst undef=a':=by first | (simp only[Act.put,List.setIfInBounds_toArray,List.set_cons_zero,List.set_cons_succ];rfl) | rfl):
  bR P md ops Q (XS l X) (fuel+1) listed a w:=
 cU hi hs hf hr hQ (XS.grow hG) (Or.inr ⟨hw,rfl⟩) hS (hp▸h)
theorem sc (i:Nat) {oi:Oper} {v:Value} {fuel:Nat} {listed:Array Bool} {a a':Act} {w:World} {l:List (Nat×Array Value)} {X:World->Prop} (hG:GrowP X) (hS:XS l X w)
  (hy:∀w',XS l X w'->mD P (fun u w''=>u=v/\Below w'.heap.size w' w'') ((execOp a.eval oi).run P w'))
  (h:bR P md ops Q (XS l X) fuel (listed.setIfInBounds i true) a' w)
  (hi:ops[i]? =some oi:=by simp only[List.getElem?_toArray,List.getElem?_cons_succ,List.getElem?_cons_zero];rfl)
  (hs:Region.noSelect ops=true:=by kernel_rfl) (hf:Region.free md ops listed i=true:=by kernel_rfl) (hr:(Region.ready md ops listed).contains i=true:=by kernel_rfl)
  (hQ:∀c a w,Q (.panic c) (a.put oi.dst v) w->Q (.panic c) a w:=by first | exact fun _ _ _ h=>h | exact fun _ _ _ h=>by cases h.1)
  (hw:Region.wanted oi (yielded ops a.tmps)=true:=by rfl)
  (hp:a.put oi.dst v=a':=by first | (simp only[Act.put,List.setIfInBounds_toArray,List.set_cons_zero,List.set_cons_succ];rfl) | rfl):
  bR P md ops Q (XS l X) (fuel+1) listed a w:=
 cU hi hs hf hr hQ (XS.grow hG) (Or.inl ⟨hw,hy⟩) hS (hp▸h)
theorem i8 {i k:Nat} {oi ok:Oper} {dA:Tmp} {zi cA:Array Value} {ti:TypeId} {fuel:Nat} {listed:Array Bool} {a:Act} {w:World} {S:World->Prop} (hG:∀w w1,S w->Below w.heap.size w w1->S w1)
  (hoi:ops[i]? =some oi) (hok:ops[k]? =some ok) (ni:News P oi dA zi ti)
  (r0:Region.ready md ops listed=[i]) (r1:Region.ready md ops (listed.setIfInBounds i true)=[k])
  (gk:ok.guard=none) (dk:ok.dst=none) (sA:cA.size=zi.size) (pA:0<zi.size)
  (vk:∀A w1,row w1 A=zi->mF ((execOp ((a.put (some dA) (ptr A)).eval) ok).run P w1) (w1.setRow A cA)) (hS:S w)
  (h:∀A w2,w.heap.size<=A->A<w2.heap.size->Below w.heap.size w w2->row w2 A=cA->S w2->bR P md ops Q S fuel ((listed.setIfInBounds i true).setIfInBounds k true) (a.put (some dA) (ptr A)) w2):
  bR P md ops Q S (fuel+1+1) listed a w:=by
 refine cL hoi ni.guard r0 fun w1 b1=>?_
 have e1:=b1.size
 have bA:Below w.heap.size w (w1.alloc (.cells zi ti)):=Below.alloc b1 e1 _
 refine⟨_,_,_,ni.run a w1,rfl,hG _ _ hS bA,?_⟩
 rw[ni.dst]
 refine cL hok gk r1 fun w3 b3=>?_
 have e3:=b3.size
 rw[aF]at e3
 have rA:row w3 w1.heap.size=zi:=by rw[aA b3 (by rw[aF];omega),aE _ _ _ rfl]
 obtain⟨n,v,hv,hn⟩:=vk w1.heap.size w3 rA
 have bB:Below w.heap.size w (w3.setRow w1.heap.size cA):=Below.setRow (Below.trans bA (b3.mono (by rw[aF];omega))) e1 _
 have hS2:=hG _ _ hS bB
 refine⟨n,v,_,hv,hn,hS2,?_⟩
 rw[dk]
 refine h w1.heap.size _ e1 (by rw[setRow_size];omega) bB ?_ hS2
 exact aB (by rw[rA];exact pA) (by rw[rA];exact sA)
end
end
section
open Go.RowKit
def ElemsAt (w:World) (a:Option Addr) (sz:Nat) (l:List (List Value)):Prop:=
 l.length<=maxLen/\∀(i:Nat) (x:List Value),l[i]? =some x->∃b off,a=some ⟨b,off,none⟩/\b<w.heap.size/\∀W,blk W b=blk w b->W.rangeAt b (off+i*sz) x
theorem ElemsAt.nil (w:World) (a:Option Addr) (sz:Nat):ElemsAt w a sz []:=⟨Nat.zero_le _,fun i x h=>by simp at h⟩
theorem ElemsAt.below {w w':World} {a:Option Addr} {sz:Nat} {l:List (List Value)} (h:ElemsAt w a sz l) (hb:Below w.heap.size w w'):ElemsAt w' a sz l:=by
 refine⟨h.1,fun i x hx=>?_⟩
 obtain⟨b,off,e,hl,hr⟩:=h.2 i x hx
 exact⟨b,off,e,Nat.lt_of_lt_of_le hl hb.size,fun W hW=>hr W (hW.trans (gV hb hl))⟩
def OwnL (w:World) (B:Nat) (e:TypeId) (sz:Nat) (v:Value) (l:List (List Value)):Prop:=(∀x∈l,x.length=sz)/\w.ownsRow B e sz v l.length l.flatten
theorem OwnL.nil (w:World) (B:Nat) (e:TypeId) (sz:Nat):OwnL w B e sz (.slice none 0 0) []:=⟨by simp,by simp,.inl ⟨rfl,rfl⟩⟩
theorem tN {sz:Nat}:∀{l:List (List Value)},(∀x∈l,x.length=sz)->∀{i:Nat} {x:List Value},l[i]? =some x->∀{j:Nat} {v:Value},x[j]? =some v->l.flatten[i*sz+j]? =some v
 | [],_,i,x,h,_,_,_=>by simp at h
 | y::l,hl,0,x,h,j,v,hj=>by
  simp only[List.getElem?_cons_zero,Option.some.injEq]at h
  subst h
  rw[List.flatten_cons,List.getElem?_append_left (by have:=(List.getElem?_eq_some_iff.1 hj).1;omega)]
  simpa using hj
 | y::l,hl,i+1,x,h,j,v,hj=>by
  have hy:=hl y (by simp)
  rw[List.flatten_cons,List.getElem?_append_right (by rw[hy,Nat.succ_mul];omega),hy,show(i+1)*sz+j - sz=i*sz+j by rw[Nat.succ_mul];omega]
  exact tN (fun z hz=>hl z (by simp[hz])) (by simpa using h) hj
theorem OwnL.elems {w:World} {B:Nat} {e:TypeId} {sz:Nat} {v:Value} {l:List (List Value)} (h:OwnL w B e sz v l):∃a cap,v=.slice a l.length cap/\ElemsAt w a sz l:=by
 obtain⟨hl,hlen,⟨rfl,h0⟩ | ⟨g,cap,cur,rfl,hg0,hg,hc1,hc2,hsz,ht⟩⟩:=h
 ·have:l=[]:=List.eq_nil_of_length_eq_zero h0
  subst this
  exact⟨none,0,rfl,ElemsAt.nil _ _ _⟩
 ·refine⟨_,cap,rfl,by omega,fun i x hx=>⟨g,0,rfl,?_,fun W hW j u hj=>?_⟩⟩
  ·rcases Nat.lt_or_ge g w.heap.size with h1 | h1
   ·exact h1
   ·rw[Array.getElem?_eq_none h1]at hg;cases hg
  ·have hf:=tN hl hx hj
   have hbl:W.heap[g]? =some (.cells cur e (0,0)):=by
    have:blk W g=some (.cells cur e (0,0)):=by rw[hW];exact hg
    exact this
   have hi:=(List.getElem?_eq_some_iff.1 hx).1
   have hk:i*sz+j<l.length*sz:=by
    have hjl:=(List.getElem?_eq_some_iff.1 hj).1
    rw[hl x (List.mem_of_getElem? hx)]at hjl
    have:(i+1)*sz<=l.length*sz:=Nat.mul_le_mul_right _ hi
    rw[Nat.succ_mul]at this
    omega
   rw[<-ht,List.getElem?_take_of_lt hk]at hf
   unfold World.cell?
   rw[hbl]
   simpa using hf
theorem OwnL.below {w w':World} {B:Nat} {e:TypeId} {sz:Nat} {v:Value} {l:List (List Value)} (h:OwnL w B e sz v l) (hb:Below w.heap.size w w'):OwnL w' B e sz v l:=by
 obtain⟨hl,hlen,⟨rfl,h0⟩ | ⟨g,cap,cur,rfl,hg0,hg,hr⟩⟩:=h
 ·exact⟨hl,hlen,.inl ⟨rfl,h0⟩⟩
 ·refine⟨hl,hlen,.inr ⟨g,cap,cur,rfl,hg0,?_,hr⟩⟩
  rw[hb.block g ?_]
  ·exact hg
  ·rcases Nat.lt_or_ge g w.heap.size with h1 | h1
   ·exact h1
   ·rw[Array.getElem?_eq_none h1]at hg;cases hg
theorem aGa:∀(l p z:List Value),z.length=l.length->List.foldl (fun(cs:Array Value) (x:Value×Nat)=>cs.setIfInBounds x.2 x.1) (p++z).toArray (l.zipIdx p.length)=(p++l).toArray
 | [],p,[],_=>by simp
 | x::l,p,y::z,h=>by
  rw[List.zipIdx_cons,List.foldl_cons]
  have e:(p++y::z).toArray.setIfInBounds p.length x=((p++[x])++z).toArray:=by
   rw[List.setIfInBounds_toArray,List.set_append_right _ _ (Nat.le_refl _),Nat.sub_self,List.set_cons_zero,List.append_assoc]
   rfl
  simp only[e]
  have ih:=aGa l (p++[x]) z (by simpa using h)
  rw[List.length_append,List.length_singleton]at ih
  rw[ih,List.append_assoc]
  rfl
section
variable {P:Program}
theorem iO {w:World} {ops:Array Oper} {rest:List Oper} {o:Oper} {a:Act} {Q:Exit->Act->World->Prop} (hgd:o.guard=none) {s x:Operand} {t e:TypeId} {sz bytes:Nat}
  (ho:o.op=.call {callee:=.builtin .append,args:=#[s,x],argTypes:=#[t,t]}) (ht:P.underlying t=some (.slice e))
  (hinfo:(P.info? e).map (fun i=>(i.zero.map (·.cells.size),i.size,i.bytes))=some (some sz,sz,bytes)) (hsz:0<sz) (hby:bytes<=1000)
  (base:Nat) (v:Value) (l:List (List Value)) (hs:a.eval s=v) (hown:OwnL w base e sz v l)
  (u:List Value) (hx:a.eval x=.slice (some ⟨w.heap.size,0,none⟩) 1 1) (hu:u.length=sz) (hone:eC u=true) (hn:l.length<=10000) (hbase:base<=w.heap.size)
  (h:∀v' w',OwnL w' base e sz v' (l++[u])->Below base w w'->(∀X,X<w.heap.size->v.ownBlock≠some X->row w' X=row w X)->wpList P ops Q rest (a.put o.dst v') w'):
  wpList P ops Q (o::rest) a (w.alloc (.cells u.toArray e)):=by
 obtain⟨hl,hown⟩:=hown
 have hi:∃i z,P.info? e=some i/\i.zero=some z/\i.size=sz/\i.bytes=bytes/\z.cells.size=sz:=by
  cases hi:P.info? e with
  | none=>rw[hi]at hinfo;simp at hinfo
  | some i=>
   rw[hi]at hinfo
   simp at hinfo
   obtain⟨⟨z,h1,h2⟩,h3,h4⟩:=hinfo
   exact⟨i,z,rfl,h1,h3,h4,h2⟩
 obtain⟨i0,z,hi,hz,h32,hb32,hzs⟩:=hi
 refine wpList_append_own (P:=P) _ hgd s x _ ho base e i0 z sz bytes ht hi hz h32 hb32 hzs hsz v l.length l.flatten hs (World.ownsRow.alloc hown _) ⟨w.heap.size,0,none⟩ 1 1 u hx (by rw[Nat.one_mul];exact hu) ?_ (by unfold eC at hone;simpa using hone) ?_ ?_ ?_ ?_
 ·intro j y hj
  have hlt:=(List.getElem?_eq_some_iff.1 hj).1
  have:(⟨w.heap.size,0,none⟩:Addr).add j=⟨w.heap.size,j,none⟩:=by
   simp[Addr.add]
   try exact fun h=>h.symm
  have hr:row (w.alloc (.cells u.toArray e)) w.heap.size=u.toArray:=aE _ _ _ rfl
  rw[this,aQ (by rw[hr];simpa using hlt),hr,List.getElem?_toArray]
  exact hj
 ·unfold maxLen;omega
 ·have:=Nat.mul_le_mul (show l.length+1<=10001 by omega) hby;omega
 ·simp;omega
 ·intro v' w' h1 h2 _
  refine h v' w' ⟨?_,?_⟩ (((Below.refl base w).alloc hbase _).grown h2 (by simp;omega) fun k hk=>(World.ownsRow.lt hown k hk).1) (fun X hX hne=>by rw[aJ (h2.block X (by simp;omega) (fun e=>hne e.symm)),aD _ _ (by omega)])
  ·intro y hy
   rcases List.mem_append.1 hy with hy | hy
   ·exact hl y hy
   ·rw[List.mem_singleton.1 hy];exact hu
  ·simp only[List.length_append,List.length_singleton,List.flatten_append,List.flatten_cons,List.flatten_nil,List.append_nil]
   exact h1
end
end
section
open Go.RowKit
structure BelowS (B:Nat) (S:List Nat) (w w':World):Prop where
 os:w'.os=w.os
 tape:w'.tape=w.tape
 output:w'.output=w.output
 size:w.heap.size<=w'.heap.size
 block:∀k,k<B->k∉S->w'.heap[k]? =w.heap[k]?
theorem BelowS.of {B:Nat} {S:List Nat} {w w':World} (h:Below B w w'):BelowS B S w w':=⟨h.os,h.tape,h.output,h.size,fun k hk _=>h.block k hk⟩
theorem BelowS.one {B M:Nat} {S:List Nat} {w w':World} (h:BelowBut B M w w') (hM:M∈S):BelowS B S w w':=⟨h.os,h.tape,h.output,h.size,fun k hk hn=>h.block k hk fun e=>hn (e▸hM)⟩
theorem BelowS.trans {B:Nat} {S:List Nat} {a b c:World} (h:BelowS B S a b) (k:BelowS B S b c):BelowS B S a c:=
 ⟨k.os.trans h.os,k.tape.trans h.tape,k.output.trans h.output,Nat.le_trans h.size k.size,fun i hi hn=>(k.block i hi hn).trans (h.block i hi hn)⟩
theorem BelowS.mono {B B':Nat} {S:List Nat} {w w':World} (h:BelowS B S w w') (hB:B'<=B):BelowS B' S w w':=⟨h.os,h.tape,h.output,h.size,fun k hk hn=>h.block k (Nat.lt_of_lt_of_le hk hB) hn⟩
theorem BelowS.next {S:List Nat} {a b c:World} (h:BelowS a.heap.size S a b) (k:BelowS b.heap.size S b c):BelowS a.heap.size S a c:=h.trans (k.mono h.size)
theorem BelowS.below {B B':Nat} {S:List Nat} {w w':World} (h:BelowS B S w w') (hB:B'<=B) (hS:∀s∈S,B'<=s):Below B' w w':=
 ⟨h.os,h.tape,h.output,h.size,fun k hk=>h.block k (by omega) fun hm=>by have:=hS k hm;omega⟩
theorem BelowS.row {B b:Nat} {S:List Nat} {w w':World} (h:BelowS B S w w') (hb:b<B) (hn:b∉S):Go.Proofs.YtiagbbknkdgmeaaGreat.row w' b=Go.Proofs.YtiagbbknkdgmeaaGreat.row w b:=aJ (h.block b hb hn)
theorem BelowS.set {B b:Nat} {S:List Nat} (w:World) (c:Array Value) (hb:b∈S):BelowS B S w (w.setRow b c):=⟨rfl,rfl,rfl,by simp,fun k _ hn=>aO b k c fun e=>hn (e▸hb)⟩
def ElemsOff (S:List Nat) (w:World) (a:Option Addr) (sz:Nat) (l:List (List Value)):Prop:=
 l.length<=maxLen/\∀(i:Nat) (x:List Value),l[i]? =some x->∃b off,a=some ⟨b,off,none⟩/\b<w.heap.size/\b∉S/\∀W,blk W b=blk w b->W.rangeAt b (off+i*sz) x
theorem ElemsOff.elems {S:List Nat} {w:World} {a:Option Addr} {sz:Nat} {l:List (List Value)} (h:ElemsOff S w a sz l):ElemsAt w a sz l:=
 ⟨h.1,fun i x hx=>by obtain⟨b,off,e,hb,_,hr⟩:=h.2 i x hx;exact⟨b,off,e,hb,hr⟩⟩
theorem ElemsOff.nil (S:List Nat) (w:World) (a:Option Addr) (sz:Nat):ElemsOff S w a sz []:=⟨Nat.zero_le _,fun i x h=>by simp at h⟩
theorem ElemsOff.kept {S:List Nat} {w w':World} {a:Option Addr} {sz:Nat} {l:List (List Value)} (h:ElemsOff S w a sz l) (hb:BelowS w.heap.size S w w'):ElemsOff S w' a sz l:=by
 refine⟨h.1,fun i x hx=>?_⟩
 obtain⟨b,off,e,hl,hn,hr⟩:=h.2 i x hx
 exact⟨b,off,e,Nat.lt_of_lt_of_le hl hb.size,hn,fun W hW=>hr W (hW.trans (hb.block b hl hn))⟩
theorem ElemsOff.below {S:List Nat} {w w':World} {a:Option Addr} {sz:Nat} {l:List (List Value)} (h:ElemsOff S w a sz l) (hb:Below w.heap.size w w'):ElemsOff S w' a sz l:=h.kept (BelowS.of hb)
theorem OwnL.off {w:World} {B:Nat} {e:TypeId} {sz:Nat} {v:Value} {l:List (List Value)} (h:OwnL w B e sz v l) (S:List Nat) (hS:∀s∈S,s<B∨w.heap.size<=s):∃a cap,v=.slice a l.length cap/\ElemsOff S w a sz l:=by
 obtain⟨a,cap,e1,he⟩:=h.elems
 refine⟨a,cap,e1,he.1,fun i x hx=>?_⟩
 obtain⟨b,off,e2,hl,hr⟩:=he.2 i x hx
 refine⟨b,off,e2,hl,fun hm=>?_,hr⟩
 obtain⟨_,_,h3⟩:=h
 have hbB:B<=b:=by
  rcases h3 with ⟨h4,h5⟩ | ⟨g,cap',cur,h4,h5,_⟩
  ·rw[e1,e2]at h4
   cases h4
  ·rw[e1,e2]at h4
   simp only[Value.slice.injEq,Option.some.injEq,Addr.mk.injEq]at h4
   omega
 rcases hS b hm with h | h<;>omega
theorem aDI {B M k:Nat} {w w':World} (h:BelowBut B M w w') (hk:k<B) (hn:k≠M):eB w' k=eB w k:=bQ (h.block k hk hn)
theorem aAV {B M k:Nat} {w w':World} (h:BelowBut B M w w') (hk:k<B) (hn:k≠M) (hm:mapOk w k):mapOk w' k:=(bD (h.block k hk hn)).2 hm
end
end Go.Proofs.YtiagbbknkdgmeaaGreat
