/- Texts of this proof, merged: Map, MapR, MapS. -/
import Derived.Maps.RangeRun
import Derived.MapKept
import Derived.Test.YtiagbbknkdgmeaaGreatRegJ
set_option linter.unusedSimpArgs false
set_option linter.unusedVariables false
set_option maxHeartbeats 8000000
set_option maxRecDepth 20000
namespace Go.Proofs.YtiagbbknkdgmeaaGreat
section
open Go.RowKit
open Go.ChangeMaps (setBlock)
theorem jL {α β:Type} (f:α->β):∀(l:List α) (i:Nat),(l.eraseIdx i).map f=(l.map f).eraseIdx i
 | [],_=>rfl
 | _::_,0=>rfl
 | x::l,i+1=>by
  rw[List.eraseIdx_cons_succ,List.map_cons,List.map_cons,List.eraseIdx_cons_succ,jL f l i]
def j4 (e:MapEntry):Value×Value:=(e.key,e.val)
def eB (w:World) (b:Nat):List (Value×Value):=
 match w.heap[b]? with
 | some (.map es _)=>es.toList.map j4
 | _=>[]
def mapOk (w:World) (b:Nat):Prop:=∃es clock,w.heap[b]? =some (.map es clock)/\(∀x∈es.toList,x.born<clock)/\(es.toList.map (·.born)).Nodup
theorem bQ {w w':World} {b:Nat} (h:w'.heap[b]? =w.heap[b]?):eB w' b=eB w b:=by unfold eB;rw[h]
theorem bD {w w':World} {b:Nat} (h:w'.heap[b]? =w.heap[b]?):mapOk w' b↔mapOk w b:=by unfold mapOk;rw[h]
theorem aT {B b:Nat} {w w':World} (h:Below B w w') (hb:b<B):eB w' b=eB w b:=bQ (h.block b hb)
theorem aR {B b:Nat} {w w':World} (h:Below B w w') (hb:b<B) (hm:mapOk w b):mapOk w' b:=(bD (h.block b hb)).2 hm
theorem mapOk.lt {w:World} {b:Nat} (h:mapOk w b):b<w.heap.size:=by
 obtain⟨es,c,h,_⟩:=h
 rcases Nat.lt_or_ge b w.heap.size with hlt | hge
 ·exact hlt
 ·rw[Array.getElem?_eq_none hge]at h;cases h
section
variable {w:World}
@[go_sem] theorem wT (o : Obj) (n : Nat) (hn : n < w.heap.size) : eB (w.alloc o) n = eB w n := bQ (Below.heap_alloc w o n hn)
@[go_sem] theorem aKa (o : Obj) (n : Nat) (hn : n < w.heap.size) : mapOk (w.alloc o) n = mapOk w n := propext (bD (Below.heap_alloc w o n hn))
@[go_sem] theorem aDH (es : Array MapEntry) (c n : Nat) (hn : n = w.heap.size) : eB (w.alloc (.map es c)) n = es.toList.map j4 := by
 subst hn
 unfold eB
 rw[heap_alloc_new]
theorem aAS (n:Nat) (hn:n=w.heap.size):mapOk (w.alloc (.map #[] 0)) n:=by
 subst hn
 exact⟨#[],0,heap_alloc_new _ _,by simp,by simp⟩
@[go_sem] theorem aJF (P : Program) (t : TypeId) : (Instr.makeMap t none).run P w = .ok (.map (some w.heap.size)) (w.alloc (.map #[] 0)) := by
 simp[Instr.makeMap,Result.andThen]
@[go_sem] theorem aLG (n : Nat) : eB w.drew n = eB w n := rfl
@[go_sem] theorem aLl (n : Nat) : mapOk w.drew n = mapOk w n := rfl
theorem wU (g k:Nat) (c:Array Value) (es:Array MapEntry) (cl:Nat) (h:w.heap[k]? =some (.map es cl)):(w.setRow g c).heap[k]? =some (.map es cl):=by
 simp only[World.setRow,Array.getElem?_modify]
 by_cases hg:g=k
 ·subst hg
  rw[if_pos rfl,h]
  rfl
 ·rw[if_neg hg,h]
@[go_sem] theorem fS (g k : Nat) (c : Array Value) (h : mapOk w k) : mapOk (w.setRow g c) k := by
 obtain⟨es,cl,h,h2⟩:=h
 exact⟨es,cl,wU g k c es cl h,h2⟩
theorem gT (g k:Nat) (c:Array Value) (h:mapOk w k):eB (w.setRow g c) k=eB w k:=by
 obtain⟨es,cl,h,h2⟩:=h
 unfold eB
 rw[wU g k c es cl h,h]
end
structure KeyTy (P:Program) (kt:TypeId) (ok:Value->Prop) (same:Value->Value->Bool):Prop where
 check:∀k,ok k->∀e w,(Instr.checkKey e 10000 kt k).run P w=.ok () w
 equal:∀a b,ok a->ok b->∀w,(Op.equal kt a b).run P w=.ok (same a b) w
 under:∃d,P.underlying kt=some d/\∀a b,ok a->ok b->Instr.sameNow d a b=none
 eq:∀a b,ok a->ok b->same a b=true->a=b
 refl:∀a,ok a->same a a=true
 bits:∀a,ok a->Instr.sameBits 10000 a a=true
section
variable {P:Program} {kt:TypeId} {ok:Value->Prop} {same:Value->Value->Bool}
def wV (same:Value->Value->Bool) (k:Value):List (Value×Value)->Nat->Option (Nat×Value)
 | [],_=>none
 | p::l,i=>if same k p.1 then some (i,p.2)else wV same k l (i+1)
def tL (same:Value->Value->Bool) (k:Value) (l:List (Value×Value)):Option Value:=(wV same k l 0).map (·.2)
theorem mG (K:KeyTy P kt ok same) {k:Value} (hk:ok k) (w:World):∀(l:List MapEntry) (i:Nat),(∀e∈l,ok e.key)->(Instr.findAsking kt k l i).run P w=.ok (wV same k (l.map j4) i) w
 | [],i,_=>by simp[Instr.findAsking,wV]
 | e::l,i,h=>by
  have ih:=mG K hk w l (i+1) fun x hx=>h x (by simp[hx])
  have h2:wV same k ((e::l).map j4) i=if same k e.key=true then some (i,e.val)else wV same k (l.map j4) (i+1):=rfl
  rw[Instr.findAsking,Sem.run_bind,K.equal k e.key hk (h e (by simp)) w,h2]
  simp only[Result.andThen]
  by_cases hs:same k e.key=true
  ·simp[hs]
  ·simp only[hs,if_false]
   exact ih
theorem mO (K:KeyTy P kt ok same) {k:Value} (hk:ok k) (w:World) (l:List MapEntry) (h:∀e∈l,ok e.key):(Instr.findKey kt k l).run P w=.ok (wV same k (l.map j4) 0) w:=by
 obtain⟨d,hd,hn⟩:=K.under
 have hu:=run_underlying hd w
 rw[Instr.findKey,Sem.run_bind,hu]
 simp only[Result.andThen]
 cases l with
 | nil=>simp[Instr.findNow,wV]
 | cons e l=>
  rw[Instr.findNow,hn k e.key hk (h e (by simp))]
  exact mG K hk w (e::l) 0 h
theorem yO (K:KeyTy P kt ok same) {t et:TypeId} (ht:P.underlying t=some (.map kt et)) {z:Value} {w:World} (hz:(zeroValue et).run P w=.ok z w) {b:Nat} (hm:mapOk w b) {k:Value} (hk:ok k) (ha:∀p∈eB w b,ok p.1) (c:Bool):
  (Instr.lookup t (.map (some b)) k c).run P w=.ok (if c then .tuple #[(tL same k (eB w b)).getD z,.bool (tL same k (eB w b)).isSome]else (tL same k (eB w b)).getD z) w:=by
 obtain⟨es,cl,hb,h1,h2⟩:=hm
 have hl:eB w b=es.toList.map j4:=by unfold eB;rw[hb]
 rw[hl]at ha ⊢
 have hu:=run_underlying ht w
 have hf:=mO K hk w es.toList fun e he=>ha (j4 e) (List.mem_map_of_mem he)
 simp only[Instr.lookup,Sem.run_bind,hu,Result.andThen,Go.MapKept.run_getObj_map hb,Sem.run_pure,K.check k hk,hf]
 unfold tL
 cases hp:wV same k (es.toList.map j4) 0 with
 | none=>cases c<;>simp[hz,Result.andThen]
 | some p=>cases c<;>simp[Result.andThen]
def sQ (same:Value->Value->Bool) (k v:Value):List (Value×Value)->List (Value×Value)
 | []=>[(k,v)]
 | p::l=>if same k p.1 then (k,v)::l else p::sQ same k v l
def yP (same:Value->Value->Bool) (k:Value):List (Value×Value)->List (Value×Value)
 | []=>[]
 | p::l=>if same k p.1 then l else p::yP same k l
structure Turn (b:Nat) (w w':World):Prop where
 os:w'.os=w.os
 tape:w'.tape=w.tape
 output:w'.output=w.output
 size:w'.heap.size=w.heap.size
 block:∀k,k≠b->w'.heap[k]? =w.heap[k]?
theorem Turn.row {b:Nat} {w w':World} (h:Turn b w w') {k:Nat} (hk:k≠b):row w' k=row w k:=aJ (h.block k hk)
theorem Turn.of_set {w:World} {b:Nat} {o:Obj}:Turn b w (setBlock w b o):=
 ⟨rfl,rfl,rfl,by simp[setBlock],fun k hk=>by simp[setBlock,Array.getElem?_setIfInBounds,Ne.symm hk]⟩
theorem aCl (k v:Value) (hs:∀p,p∈([]:List (Value×Value))->True):∀(l:List (Value×Value)) (i j:Nat) (x:Value),wV same k l j=some (i,x)->(∀p∈l,same k p.1=true->p.1=k)->
  j<=i/\i - j<l.length/\sQ same k v l=l.set (i - j) (k,v)/\(∃y,l[i - j]? =some (k,y))/\yP same k l=l.eraseIdx (i - j)
 | [],i,j,x,h,_=>by simp[wV]at h
 | p::l,i,j,x,h,hk=>by
  unfold wV at h
  by_cases hp:same k p.1=true
  ·rw[if_pos hp]at h
   cases h
   simp only[Nat.sub_self,Nat.le_refl,sQ,yP,if_pos hp,true_and,List.length_cons,List.set_cons_zero,List.getElem?_cons_zero,List.eraseIdx_cons_zero,and_true]
   refine⟨by omega,⟨p.2,?_⟩⟩
   rw[<-hk p (by simp) hp]
  ·rw[if_neg hp]at h
   obtain⟨h1,h2,h3,⟨y,h4⟩,h5⟩:=aCl k v hs l i (j+1) x h fun q hq=>hk q (by simp[hq])
   obtain⟨d,hd⟩:∃d,i - j=d+1:=⟨i - (j+1),by omega⟩
   have hd2:i - (j+1)=d:=by omega
   rw[hd2]at h2 h3 h4 h5
   refine⟨by omega,by simp;omega,?_,⟨y,?_⟩,?_⟩
   ·rw[sQ,if_neg hp,hd,List.set_cons_succ,h3]
   ·rw[hd,List.getElem?_cons_succ,h4]
   ·rw[yP,if_neg hp,hd,List.eraseIdx_cons_succ,h5]
theorem sR (k v:Value):∀(l:List (Value×Value)) (j:Nat),wV same k l j=none->sQ same k v l=l++[(k,v)]/\yP same k l=l
 | [],j,_=>⟨rfl,rfl⟩
 | p::l,j,h=>by
  unfold wV at h
  by_cases hp:same k p.1=true
  ·rw[if_pos hp]at h;cases h
  ·rw[if_neg hp]at h
   obtain⟨h1,h2⟩:=sR k v l (j+1) h
   rw[sQ,if_neg hp,h1,yP,if_neg hp,h2]
   exact⟨rfl,rfl⟩
theorem aJG (K:KeyTy P kt ok same) {k:Value} (hk:ok k) {l:List (Value×Value)} (ha:∀p∈l,ok p.1):∀p∈l,same k p.1=true->p.1=k:=fun p hp h=>(K.eq k p.1 hk (ha p hp) h).symm
theorem mP (K:KeyTy P kt ok same) {t et:TypeId} (ht:P.underlying t=some (.map kt et)) {w:World} {b:Nat} (hm:mapOk w b) {k:Value} (hk:ok k) (ha:∀p∈eB w b,ok p.1) (v:Value):
  ∃w',(Instr.mapUpdate t (.map (some b)) k v).run P w=.ok () w'/\Turn b w w'/\mapOk w' b/\eB w' b=sQ same k v (eB w b)/\
   (tL same k (eB w b)≠none->∀es cl,w.heap[b]? =some (.map es cl)->∃es',w'.heap[b]? =some (.map es' cl)/\es'.toList.map (fun e=>(e.key,e.born))=es.toList.map (fun e=>(e.key,e.born))):=by
 obtain⟨es,cl,hb,h1,h2⟩:=hm
 have hlt:b<w.heap.size:=mapOk.lt ⟨es,cl,hb,h1,h2⟩
 have hl:eB w b=es.toList.map j4:=by unfold eB;rw[hb]
 rw[hl]at ha ⊢
 have hu:=run_underlying ht w
 have hf:=mO K hk w es.toList fun e he=>ha (j4 e) (List.mem_map_of_mem he)
 have hke:=aJG K hk ha
 simp only[Instr.mapUpdate,Sem.run_bind,hu,Result.andThen,Go.MapKept.run_getObj_map hb,K.check k hk,hf]
 cases hp:wV same k (es.toList.map j4) 0 with
 | none=>
  obtain⟨g1,_⟩:=sR k v _ 0 hp
  simp only[Go.MapKept.run_setObj_map _ hb]
  refine⟨setBlock w b (.map (es.push {key:=k,val:=v,born:=cl}) (cl+1)),rfl,Turn.of_set,⟨es.push {key:=k,val:=v,born:=cl},cl+1,?_,?_,?_⟩,?_,?_⟩
  ·simp[setBlock,Array.getElem?_setIfInBounds,hlt]
  ·intro x hx
   simp only[Array.toList_push,List.mem_append,List.mem_singleton]at hx
   rcases hx with hx | rfl
   ·have:=h1 x hx;omega
   ·simp
  ·simp only[Array.toList_push,List.map_append,List.map_cons,List.map_nil]
   rw[List.nodup_append]
   refine⟨h2,by simp,fun x hx y hy=>?_⟩
   obtain⟨e,he,rfl⟩:=List.mem_map.1 hx
   have:=h1 e he
   simp only[List.mem_singleton]at hy
   omega
  ·rw[g1]
   simp[eB,setBlock,Array.getElem?_setIfInBounds,hlt,j4]
  ·intro hne
   exact absurd (by unfold tL;rw[hp];rfl) hne
 | some p=>
  obtain⟨i,x⟩:=p
  obtain⟨g1,g2,g3,⟨y,g4⟩,_⟩:=aCl k v (fun _ _=>trivial) _ i 0 x hp hke
  rw[Nat.sub_zero]at g2 g3 g4
  rw[List.length_map]at g2
  have g2':i<es.size:=by simpa using g2
  have hkey:(es[i]?.map (·.key)).getD k=k:=by
   rw[List.getElem?_map]at g4
   have:es.toList[i]? =es[i]? :=by simp
   rw[this]at g4
   cases he:es[i]? with
   | none=>rfl
   | some e=>
    rw[he]at g4
    simp only[Option.map_some,j4,Option.some.injEq,Prod.mk.injEq]at g4
    simp[g4.1]
  have hks:(Instr.keyThatStays k k).run P w=.ok k w:=by simp[Instr.keyThatStays,K.bits k hk]
  simp only[hkey,hks,Sem.run_bind,Result.andThen,Go.MapKept.run_setObj_map _ hb]
  have hml:(es.modify i fun e=>{e with key:=k,val:=v}).toList=es.toList.modify i (fun e=>{e with key:=k,val:=v}):=by simp
  have hborn:(es.toList.modify i (fun e=>{e with key:=k,val:=v})).map (·.born)=es.toList.map (·.born):=by
   refine List.ext_getElem? fun j=>?_
   simp only[List.getElem?_map,List.getElem?_modify]
   cases es.toList[j]? with
   | none=>rfl
   | some e=>by_cases h:i=j<;>simp[h]
  refine⟨setBlock w b (.map (es.modify i fun e=>{e with key:=k,val:=v}) cl),rfl,Turn.of_set,⟨es.modify i fun e=>{e with key:=k,val:=v},cl,?_,?_,?_⟩,?_,?_⟩
  ·simp[setBlock,Array.getElem?_setIfInBounds,hlt]
  ·intro z hz
   rw[hml]at hz
   have hz2:z.born∈(es.toList.modify i (fun e=>{e with key:=k,val:=v})).map (·.born):=List.mem_map_of_mem hz
   rw[hborn]at hz2
   obtain⟨e,he,h⟩:=List.mem_map.1 hz2
   rw[<-h]
   exact h1 e he
  ·rw[hml,hborn]
   exact h2
  ·rw[g3]
   simp only[eB,setBlock,Array.getElem?_setIfInBounds,hlt,if_true]
   rw[hml]
   refine List.ext_getElem? fun j=>?_
   simp only[List.getElem?_map,List.getElem?_modify,List.getElem?_set,List.length_map]
   by_cases h:i=j
   ·subst h
    have:es.toList[i]? =some (es.toList[i]'g2):=List.getElem?_eq_getElem g2
    simp[this,j4,g2']
   ·rw[if_neg h]
    cases es.toList[j]? with
    | none=>rfl
    | some e=>simp[h]
  ·intro _ es2 cl2 hb2
   rw[hb]at hb2
   cases hb2
   refine⟨es.modify i fun e=>{e with key:=k,val:=v},by simp[setBlock,Array.getElem?_setIfInBounds,hlt],?_⟩
   rw[hml]
   refine List.ext_getElem? fun j=>?_
   simp only[List.getElem?_map,List.getElem?_modify]
   by_cases h:i=j
   ·subst h
    rw[List.getElem?_map]at g4
    cases he:es.toList[i]? with
    | none=>rfl
    | some e=>
     rw[he]at g4
     simp only[Option.map_some,j4,Option.some.injEq,Prod.mk.injEq]at g4
     simp[g4.1]
   ·cases es.toList[j]? with
    | none=>rfl
    | some e=>simp[h]
theorem aF7 (K:KeyTy P kt ok same) {t et ty:TypeId} (ht:P.underlying t=some (.map kt et)) {w:World} {b:Nat} (hm:mapOk w b) {k:Value} (hk:ok k) (ha:∀p∈eB w b,ok p.1):
  ∃w',(Builtin.delete_ #[t,kt] ty #[.map (some b),k]).run P w=.ok (.tuple #[]) w'/\Turn b w w'/\mapOk w' b/\eB w' b=yP same k (eB w b)/\
   (∀es cl,w.heap[b]? =some (.map es cl)->∃es',w'.heap[b]? =some (.map es' cl)/\∃i,es'.toList=es.toList.eraseIdx i/\(yP same k (es.toList.map j4)=(es.toList.map j4).eraseIdx i)):=by
 obtain⟨es,cl,hb,h1,h2⟩:=hm
 have hlt:b<w.heap.size:=mapOk.lt ⟨es,cl,hb,h1,h2⟩
 have hl:eB w b=es.toList.map j4:=by unfold eB;rw[hb]
 rw[hl]at ha ⊢
 have hu:=run_underlying ht w
 have hf:=mO K hk w es.toList fun e he=>ha (j4 e) (List.mem_map_of_mem he)
 have hke:=aJG K hk ha
 have fin:∀(i:Nat) (es':Array MapEntry),es'.toList=es.toList.eraseIdx i->yP same k (es.toList.map j4)=(es.toList.map j4).eraseIdx i->
   Turn b w (setBlock w b (.map es' cl))/\mapOk (setBlock w b (.map es' cl)) b/\eB (setBlock w b (.map es' cl)) b=yP same k (es.toList.map j4)/\
   (∀es2 cl2,w.heap[b]? =some (.map es2 cl2)->∃es',(setBlock w b (.map es' cl)).heap[b]? =some (.map es' cl2)/\∃i,es'.toList=es2.toList.eraseIdx i/\(yP same k (es2.toList.map j4)=(es2.toList.map j4).eraseIdx i)):=by
  intro i es' he hd
  refine⟨Turn.of_set,⟨es',cl,by simp[setBlock,Array.getElem?_setIfInBounds,hlt],?_,?_⟩,?_,?_⟩
  ·intro x hx
   rw[he]at hx
   exact h1 x (List.mem_of_mem_eraseIdx hx)
  ·rw[he,jL]
   exact h2.sublist (List.eraseIdx_sublist _ _)
  ·rw[hd]
   simp only[eB,setBlock,Array.getElem?_setIfInBounds,hlt,if_true]
   rw[he,jL]
  ·intro es2 cl2 hb2
   rw[hb]at hb2
   cases hb2
   exact⟨es',by simp[setBlock,Array.getElem?_setIfInBounds,hlt],i,he,hd⟩
 have h0:#[t,kt][0]? =some t:=rfl
 simp only[Builtin.delete_,List.getElem?_toArray,List.getElem?_cons_zero,List.getElem?_cons_succ,Sem.run_bind,hu,Result.andThen,Go.MapKept.run_getObj_map hb,K.check k hk,hf]
 cases hp:wV same k (es.toList.map j4) 0 with
 | none=>
  obtain⟨_,g1⟩:=sR k k _ 0 hp
  obtain⟨f1,f2,f3,f4⟩:=fin es.size es (by rw[List.eraseIdx_of_length_le (by simp)]) (by rw[g1,List.eraseIdx_of_length_le (by simp)])
  simp only[Go.MapKept.run_setObj_map _ hb,Sem.run_bind,Result.andThen,Sem.run_pure]
  refine⟨_,rfl,f1,f2,f3,?_⟩
  intro es2 cl2 hb2
  rw[hb]at hb2
  cases hb2
  exact⟨es,by simp[setBlock,Array.getElem?_setIfInBounds,hlt],es.size,by rw[List.eraseIdx_of_length_le (by simp)],by rw[g1,List.eraseIdx_of_length_le (by simp)]⟩
 | some p=>
  obtain⟨i,x⟩:=p
  obtain⟨g1,g2,_,_,g5⟩:=aCl k k (fun _ _=>trivial) _ i 0 x hp hke
  rw[Nat.sub_zero]at g2 g5
  rw[List.length_map]at g2
  have he:(es.eraseIdxIfInBounds i).toList=es.toList.eraseIdx i:=by
   have:i<es.size:=by simpa using g2
   simp[Array.eraseIdxIfInBounds,this]
  obtain⟨f1,f2,f3,f4⟩:=fin i (es.eraseIdxIfInBounds i) he g5
  simp only[Go.MapKept.run_setObj_map _ hb,Sem.run_bind,Result.andThen,Sem.run_pure]
  refine⟨_,rfl,f1,f2,f3,?_⟩
  intro es2 cl2 hb2
  rw[hb]at hb2
  cases hb2
  exact⟨es.eraseIdxIfInBounds i,by simp[setBlock,Array.getElem?_setIfInBounds,hlt],i,he,g5⟩
theorem aF8 {t et ty:TypeId} (ht:P.underlying t=some (.map kt et)) {w:World} {b:Nat} (hm:mapOk w b):(Builtin.len_ #[t] ty #[.map (some b)]).run P w=.ok (.int .i64 ((eB w b).length:Int)) w:=by
 obtain⟨es,cl,hb,h1,h2⟩:=hm
 have hl:(eB w b).length=es.size:=by unfold eB;rw[hb];simp
 have hu:=run_underlying ht w
 rw[hl]
 simp only[Builtin.len_,List.getElem?_toArray,List.getElem?_cons_zero,Sem.run_bind,hu,Result.andThen,Go.MapKept.run_getObj_map hb,Sem.run_pure]
 rfl
end
end
section
open Go.RowKit
open Go.ChangeMaps (setBlock)
section
variable {P:Program} {kt:TypeId} {ok:Value->Prop} {same:Value->Value->Bool} {k:Value}
def iterOk (w:World) (r M:Nat) (left:Value->Bool):Prop:=
 ∃es clock since seen c0,w.heap[M]? =some (.map es clock)/\w.heap[r]? =some (.mapIter (some M) since seen c0)/\(∀x∈es.toList,x.born<since)/\since<=c0/\since<=clock/\(es.toList.map (·.born)).Nodup/\∀e∈es.toList,left e.key= !seen.contains e.born
def dL (w:World) (r M:Nat):Nat:=
 match w.heap[r]?,w.heap[M]? with
 | some (.mapIter _ _ seen _),some (.map es _)=>(es.toList.filter fun e=> !seen.contains e.born).length
 | _,_=>0
theorem kF (w:World) (r M:Nat):dL w r M=(match w.heap[r]?,w.heap[M]? with | some (.mapIter _ _ seen _),some (.map es _)=>(es.toList.filter fun e=> !seen.contains e.born).length | _,_=>0):=rfl
theorem iterOk.ne {w:World} {r M:Nat} {left:Value->Bool} (h:iterOk w r M left):r≠M:=by
 obtain⟨es,c,s,seen,c0,h1,h2,_⟩:=h
 intro e
 rw[e,h1]at h2
 cases h2
theorem iterOk.lt {w:World} {r M:Nat} {left:Value->Bool} (h:iterOk w r M left):r<w.heap.size:=by
 obtain⟨es,c,s,seen,c0,h1,h2,_⟩:=h
 rcases Nat.lt_or_ge r w.heap.size with hlt | hge
 ·exact hlt
 ·rw[Array.getElem?_eq_none hge]at h2;cases h2
theorem iterOk.left_eq {w:World} {r M:Nat} {left:Value->Bool} (h:iterOk w r M left):dL w r M=((eB w M).filter fun p=>left p.1).length:=by
 obtain⟨es,c,s,seen,c0,h1,h2,h3,h4,hsc,h5,h6⟩:=h
 rw[kF];unfold eB
 rw[h1,h2]
 simp only[List.filter_map,List.length_map]
 congr 1
 refine List.filter_congr fun e he=>?_
 simp only[Function.comp,j4]
 rw[h6 e he]
theorem iterOk.kept {w w':World} {r M:Nat} {left:Value->Bool} (h:iterOk w r M left) (h1:w'.heap[M]? =w.heap[M]?) (h2:w'.heap[r]? =w.heap[r]?):iterOk w' r M left:=by
 obtain⟨es,c,s,seen,c0,g1,g2,g3⟩:=h
 exact⟨es,c,s,seen,c0,by rw[h1,g1],by rw[h2,g2],g3⟩
theorem dU {w w':World} {r M:Nat} (h1:w'.heap[M]? =w.heap[M]?) (h2:w'.heap[r]? =w.heap[r]?):dL w' r M=dL w r M:=by
 rw[kF,kF]
 rw[h1,h2]
theorem nT {t et:TypeId} (ht:P.underlying t=some (.map kt et)) {w:World} {M:Nat} (hm:mapOk w M):
  ∃o,(Instr.range t (.map (some M))).run P w=.ok (.pointer (some ⟨w.heap.size,0,none⟩)) (w.alloc o)/\iterOk (w.alloc o) w.heap.size M fun _=>true:=by
 have hlt:=hm.lt
 obtain⟨es,cl,hb,h1,h2⟩:=hm
 have hu:=run_underlying ht w
 refine⟨.mapIter (some M) cl #[] cl,?_,es,cl,cl,#[],cl,?_,heap_alloc_new _ _,h1,Nat.le_refl _,Nat.le_refl _,h2,fun e _=>by simp⟩
 ·simp only[Instr.range,Sem.run_bind,hu,Result.andThen,Go.MapKept.run_getObj_map hb,Sem.run_pure,run_newObj_alloc]
 ·rw[Below.heap_alloc _ _ _ hlt,hb]
theorem aKb {es:List MapEntry} (hn:(es.map (·.born)).Nodup) {x y:MapEntry} (hx:x∈es) (hy:y∈es) (h:x.born=y.born):x=y:=by
 induction es with
 | nil=>cases hx
 | cons z l ih=>
  rw[List.map_cons,List.nodup_cons]at hn
  rcases List.mem_cons.1 hx with hx | hx<;>rcases List.mem_cons.1 hy with hy | hy
  ·rw[hx,hy]
  ·rw[hx]at h;exact absurd (List.mem_map.2 ⟨y,hy,h.symm⟩) hn.1
  ·rw[hy]at h;exact absurd (List.mem_map.2 ⟨x,hx,h⟩) hn.1
  ·exact ih hn.2 hx hy
theorem aIg {es:List MapEntry} (hn:(es.map (·.key)).Nodup) {x y:MapEntry} (hx:x∈es) (hy:y∈es) (h:x.key=y.key):x=y:=by
 induction es with
 | nil=>cases hx
 | cons z l ih=>
  rw[List.map_cons,List.nodup_cons]at hn
  rcases List.mem_cons.1 hx with hx | hx<;>rcases List.mem_cons.1 hy with hy | hy
  ·rw[hx,hy]
  ·rw[hx]at h;exact absurd (List.mem_map.2 ⟨y,hy,h.symm⟩) hn.1
  ·rw[hy]at h;exact absurd (List.mem_map.2 ⟨x,hx,h⟩) hn.1
  ·exact ih hn.2 hx hy
theorem nU (K:KeyTy P kt ok same) {w:World} {r M:Nat} {left:Value->Bool} (hi:iterOk w r M left) (ha:∀p∈eB w M,ok p.1) (hn:((eB w M).map (·.1)).Nodup):
  ((∀p∈eB w M,left p.1=false)/\∀ty,(Instr.next (.pointer (some ⟨r,0,none⟩)) false ty).run P w=.ok (.tuple #[.bool false]) w)∨
  ∃p∈eB w M,left p.1=true/\∃w',(∀ty,(Instr.next (.pointer (some ⟨r,0,none⟩)) false ty).run P w=.ok (.tuple #[.bool true,p.1,p.2]) w')/\Turn r w w'/\iterOk w' r M (fun z=>left z&& !same p.1 z)/\
   (Instr.entry (.pointer (some ⟨r,0,none⟩))).run P w'=.ok (.tuple #[p.1,p.2]) w':=by
 have hne:=hi.ne
 have hrl:=hi.lt
 obtain⟨es,cl,since,seen,c0,h1,h2,h3,h4,hsc,h5,h6⟩:=hi
 have hl:eB w M=es.toList.map j4:=by unfold eB;rw[h1]
 rw[hl]at ha hn ⊢
 have hnk:(es.toList.map (·.key)).Nodup:=by
  rw[List.map_map]at hn
  exact hn
 rcases run_next_at (P:=P) w 0 r M since c0 seen es cl h2 h1 h3 h4 with ⟨h0,hrun⟩ | ⟨e,he,w1,hw1,hrun⟩
 ·left
  refine⟨fun p hp=>?_,fun ty=>hrun⟩
  obtain⟨e,he,rfl⟩:=List.mem_map.1 hp
  simp only[j4]
  rw[h6 e he]
  cases hc:seen.contains e.born with
  | true=>rfl
  | false=>
   exfalso
   have hm:e∈(leftOf es seen).toList:=by
    unfold leftOf
    simp only[Array.toList_filter,List.mem_filter]
    exact⟨he,by rw[hc];rfl⟩
   have:(leftOf es seen).toList=[]:=by
    rw[Array.toList_eq_nil_iff]
    exact Array.eq_empty_of_size_eq_zero h0
   rw[this]at hm
   cases hm
 ·right
  have hm:e∈es.toList/\(!seen.contains e.born)=true:=by
   unfold leftOf at he
   simpa only[Array.toList_filter,List.mem_filter]using he
  obtain⟨he,hsn⟩:=hm
  refine⟨j4 e,List.mem_map_of_mem he,by simp only[j4];rw[h6 e he,hsn],_,fun ty=>hrun,?_,?_,?_⟩
  ·rcases hw1 with rfl | rfl<;>exact⟨rfl,rfl,rfl,by simp[setBlock];try rfl,fun k hk=>by simp[setBlock,Array.getElem?_setIfInBounds,Ne.symm hk];try rfl⟩
  ·have hb1:(setBlock w1 r (.mapIter (some M) since (seen.push e.born) cl)).heap[M]? =some (.map es cl):=by
    rcases hw1 with rfl | rfl<;>simp[setBlock,Array.getElem?_setIfInBounds,hne,h1];try exact h1
   have hr1:(setBlock w1 r (.mapIter (some M) since (seen.push e.born) cl)).heap[r]? =some (.mapIter (some M) since (seen.push e.born) cl):=by
    rcases hw1 with rfl | rfl<;>simp[setBlock,Array.getElem?_setIfInBounds,hrl]
   refine⟨es,cl,since,seen.push e.born,cl,hb1,hr1,h3,hsc,hsc,h5,fun x hx=>?_⟩
   simp only[j4]
   rw[h6 x hx,Array.contains_push]
   by_cases hxe:x=e
   ·subst hxe
    have hr:=K.refl x.key (ha (j4 x) (List.mem_map_of_mem hx))
    simp[hr]
   ·have hb:x.born≠e.born:=fun h=>hxe (aKb h5 hx he h)
    have hk:same e.key x.key=false:=by
     cases hs:same e.key x.key with
     | false=>rfl
     | true=>
      have:=K.eq e.key x.key (ha (j4 e) (List.mem_map_of_mem he)) (ha (j4 x) (List.mem_map_of_mem hx)) hs
      exact absurd (aIg hnk hx he this.symm) hxe
    rw[hk]
    simp[hb]
  ·refine run_entry_at _ r M since seen es cl e ?_ ?_ he h5
   ·rcases hw1 with rfl | rfl<;>simp[setBlock,Array.getElem?_setIfInBounds,hrl]
   ·rcases hw1 with rfl | rfl<;>simp[setBlock,Array.getElem?_setIfInBounds,hne,h1];try exact h1
theorem kG {α:Type} {f g:α->Bool} {x:α}:∀{l:List α},x∈l->f x=true->g x=false->(l.filter fun y=>f y&&g y).length<(l.filter f).length
 | [],h,_,_=>by cases h
 | y::l,h,hf,hg=>by
  have hle:∀l:List α,(l.filter fun y=>f y&&g y).length<=(l.filter f).length:=by
   intro l
   induction l with
   | nil=>simp
   | cons z l ih=>
    rw[List.filter_cons,List.filter_cons]
    cases f z<;>cases g z<;>simp<;>omega
  rcases List.mem_cons.1 h with e | h1
  ·subst e
   rw[List.filter_cons,List.filter_cons,hf,hg]
   have:=hle l
   simp
   omega
  ·have ih:=kG h1 hf hg
   rw[List.filter_cons,List.filter_cons]
   cases f y<;>cases g y<;>simp<;>omega
theorem iterOk.put {w w':World} {r M:Nat} {left:Value->Bool} (hi:iterOk w r M left) (hT:Turn M w w')
  (h:∀es cl,w.heap[M]? =some (.map es cl)->∃es',w'.heap[M]? =some (.map es' cl)/\es'.toList.map (fun e=>(e.key,e.born))=es.toList.map (fun e=>(e.key,e.born))):
  iterOk w' r M left/\dL w' r M=dL w r M:=by
 have hne:=hi.ne
 obtain⟨es,cl,since,seen,c0,h1,h2,h3,h4,hsc,h5,h6⟩:=hi
 obtain⟨es',g1,g2⟩:=h es cl h1
 have h2':w'.heap[r]? =some (.mapIter (some M) since seen c0):=by rw[hT.block r hne,h2]
 have hb:es'.toList.map (·.born)=es.toList.map (·.born):=by
  have h:=congrArg (List.map Prod.snd) g2
  rw[List.map_map,List.map_map]at h
  exact h
 have hex:∀x∈es'.toList,∃y∈es.toList,y.key=x.key/\y.born=x.born:=by
  intro x hx
  have:(x.key,x.born)∈es'.toList.map (fun e=>(e.key,e.born)):=List.mem_map_of_mem (f:=fun e:MapEntry=>(e.key,e.born)) hx
  rw[g2]at this
  obtain⟨y,hy,e⟩:=List.mem_map.1 this
  simp only[Prod.mk.injEq]at e
  exact⟨y,hy,e.1,e.2⟩
 refine⟨⟨es',cl,since,seen,c0,g1,h2',fun x hx=>?_,h4,hsc,by rw[hb];exact h5,fun x hx=>?_⟩,?_⟩
 ·obtain⟨y,hy,_,e2⟩:=hex x hx
  rw[<-e2]
  exact h3 y hy
 ·obtain⟨y,hy,e1,e2⟩:=hex x hx
  rw[<-e1,<-e2]
  exact h6 y hy
 ·unfold dL
  rw[h1,h2,g1,h2']
  have e1:∀l:List MapEntry,(l.filter fun e=> !seen.contains e.born).length=((l.map (·.born)).filter fun b=> !seen.contains b).length:=by
   intro l
   rw[List.filter_map,List.length_map]
   rfl
  simp only[e1,hb]
theorem iterOk.del {w w':World} {r M:Nat} {left:Value->Bool} (hi:iterOk w r M left) (hT:Turn M w w')
  (h:∀es cl,w.heap[M]? =some (.map es cl)->∃es',w'.heap[M]? =some (.map es' cl)/\∃i,es'.toList=es.toList.eraseIdx i/\(yP same k (es.toList.map j4)=(es.toList.map j4).eraseIdx i)):
  iterOk w' r M left/\dL w' r M<=dL w r M:=by
 have hne:=hi.ne
 obtain⟨es,cl,since,seen,c0,h1,h2,h3,h4,hsc,h5,h6⟩:=hi
 obtain⟨es',g1,i,g2,_⟩:=h es cl h1
 have h2':w'.heap[r]? =some (.mapIter (some M) since seen c0):=by rw[hT.block r hne,h2]
 have hsub:es'.toList.Sublist es.toList:=by rw[g2];exact List.eraseIdx_sublist _ _
 refine⟨⟨es',cl,since,seen,c0,g1,h2',fun x hx=>h3 x (hsub.subset hx),h4,hsc,h5.sublist (hsub.map _),fun x hx=>h6 x (hsub.subset hx)⟩,?_⟩
 rw[kF,kF]
 rw[h1,h2,g1,h2']
 exact(hsub.filter _).length_le
end
end
section
open Go.RowKit
def MapS (l:List (Nat×Array Value)) (M:Nat) (L:List (Value×Value)) (w:World):Prop:=Rws l w/\mapOk w M/\eB w M=L
theorem MapS.grow (l:List (Nat×Array Value)) (M:Nat) (L:List (Value×Value)) (w w1:World) (h:MapS l M L w) (hb:Below w.heap.size w w1):MapS l M L w1:=
 ⟨Rws.grow l w w1 h.1 hb,aR hb h.2.1.lt h.2.1,by rw[aT hb h.2.1.lt,h.2.2]⟩
theorem MapS.alloc {l:List (Nat×Array Value)} {M:Nat} {L:List (Value×Value)} {w:World} (h:MapS l M L w) (o:Obj):MapS l M L (w.alloc o):=MapS.grow l M L w _ h (Below.alloc (Below.refl _ _) (Nat.le_refl _) o)
theorem MapS.setRow {g B:Nat} {c:Array Value} {l:List (Nat×Array Value)} {M:Nat} {L:List (Value×Value)} {w:World} (h:MapS l M L w) (hl:∀p∈l,p.1<B) (hg:B<=g):MapS l M L (w.setRow g c):=
 ⟨Rws.setRow l w h.1 hl hg,fS _ _ _ h.2.1,by rw[gT _ _ _ h.2.1,h.2.2]⟩
section
variable {P:Program} {ops:Array Oper} {Q:Exit->Act->World->Prop} {md:Region.Mode}
theorem sH {id:Nat} {a:Act} {w:World} (l:List (Nat×Array Value)) (M:Nat) (L:List (Value×Value)) (hm:P.follows .mixedOrders=true) (hS:Rws l w) (h1:mapOk w M) (h2:eB w M=L)
  (h:MapS l M L w.drew->bR P .any ops Q (MapS l M L) ops.size (Array.replicate ops.size false) a w.drew):(Code.region id ops true).wp P Q a w:=
 wp_region_held hm (gR _ _ _ _ (h (MapS.grow l M L w _ ⟨hS,h1,h2⟩ (Below.drew (Below.refl _ _)))))
theorem aIh {i k:Nat} {oi ok:Oper} {dA:Tmp} {zi cA:Array Value} {ti:TypeId} {fuel:Nat} {listed:Array Bool} {a:Act} {w:World} {l:List (Nat×Array Value)} {M:Nat} {L:List (Value×Value)}
  (hoi:ops[i]? =some oi) (hok:ops[k]? =some ok) (ni:News P oi dA zi ti)
  (r0:Region.ready md ops listed=[i]) (r1:Region.ready md ops (listed.setIfInBounds i true)=[k]) (r2:Region.ready md ops ((listed.setIfInBounds i true).setIfInBounds k true)=[])
  (gk:ok.guard=none) (dk:ok.dst=none) (sA:cA.size=zi.size) (pA:0<zi.size) (hl:∀p∈l,p.1<w.heap.size)
  (vk:∀A w1,row w1 A=zi->mF ((execOp ((a.put (some dA) (ptr A)).eval) ok).run P w1) (w1.setRow A cA)) (hS:MapS l M L w)
  (h:∀A w2,w.heap.size<=A->A<w2.heap.size->Below w.heap.size w w2->row w2 A=cA->Q .normal (a.put (some dA) (ptr A)) w2):
  bR P md ops Q (MapS l M L) (fuel+1+1) listed a w:=by
 refine cL hoi ni.guard r0 fun w1 b1=>?_
 refine⟨_,_,_,ni.run a w1,rfl,(MapS.grow l M L _ _ hS b1).alloc _,?_⟩
 rw[ni.dst]
 have e1:=b1.size
 refine cL hok gk r1 fun w3 b3=>?_
 have e3:=b3.size
 rw[aF]at e3
 have rA:row w3 w1.heap.size=zi:=by rw[aA b3 (by rw[aF];omega),aE _ _ _ rfl]
 obtain⟨n,v,hv,hn⟩:=vk w1.heap.size w3 rA
 refine⟨n,v,_,hv,hn,MapS.setRow (MapS.grow l M L _ _ ((MapS.grow l M L _ _ hS b1).alloc _) b3) hl e1,?_⟩
 rw[dk]
 refine aG r2 (fun w5 b5=>?_) _
 have e5:=b5.size
 rw[setRow_size]at e5
 refine h w1.heap.size w5 e1 (by omega) ?_ ?_
 ·refine Below.trans (Below.setRow (Below.trans (Below.alloc b1 e1 _) (b3.mono (by rw[aF];omega))) e1 _) (b5.mono (by rw[setRow_size];omega))
 ·rw[aA b5 (by rw[setRow_size];omega)]
  exact aB (by rw[rA];exact pA) (by rw[rA];exact sA)
theorem lL {i k:Nat} {oi ok:Oper} {dA:Tmp} {zi cA:Array Value} {ti:TypeId} {fuel:Nat} {listed:Array Bool} {a:Act} {w:World} {l:List (Nat×Array Value)} {M:Nat} {L:List (Value×Value)}
  (hoi:ops[i]? =some oi) (hok:ops[k]? =some ok) (ni:News P oi dA zi ti)
  (r0:Region.ready md ops listed=[i]) (r1:Region.ready md ops (listed.setIfInBounds i true)=[k])
  (gk:ok.guard=none) (dk:ok.dst=none) (sA:cA.size=zi.size) (pA:0<zi.size) (hl:∀p∈l,p.1<w.heap.size)
  (vk:∀A w1,row w1 A=zi->mF ((execOp ((a.put (some dA) (ptr A)).eval) ok).run P w1) (w1.setRow A cA)) (hS:MapS l M L w)
  (h:∀A w2,w.heap.size<=A->A<w2.heap.size->Below w.heap.size w w2->row w2 A=cA->MapS l M L w2->bR P md ops Q (MapS l M L) fuel ((listed.setIfInBounds i true).setIfInBounds k true) (a.put (some dA) (ptr A)) w2):
  bR P md ops Q (MapS l M L) (fuel+1+1) listed a w:=by
 refine cL hoi ni.guard r0 fun w1 b1=>?_
 refine⟨_,_,_,ni.run a w1,rfl,(MapS.grow l M L _ _ hS b1).alloc _,?_⟩
 rw[ni.dst]
 have e1:=b1.size
 refine cL hok gk r1 fun w3 b3=>?_
 have e3:=b3.size
 rw[aF]at e3
 have rA:row w3 w1.heap.size=zi:=by rw[aA b3 (by rw[aF];omega),aE _ _ _ rfl]
 obtain⟨n,v,hv,hn⟩:=vk w1.heap.size w3 rA
 have hS2:=MapS.setRow (c:=cA) (MapS.grow l M L _ _ ((MapS.grow l M L _ _ hS b1).alloc _) b3) hl e1
 refine⟨n,v,_,hv,hn,hS2,?_⟩
 rw[dk]
 refine h w1.heap.size _ e1 (by rw[setRow_size];omega) ?_ ?_ hS2
 ·exact Below.setRow (Below.trans (Below.alloc b1 e1 _) (b3.mono (by rw[aF];omega))) e1 _
 ·exact aB (by rw[rA];exact pA) (by rw[rA];exact sA)
theorem oZ {id:Nat} {a:Act} {w:World} (k:Nat) (l:List (Nat×Array Value)) (M:Nat) (L:List (Value×Value)) (hm:P.follows .mixedOrders=true) (hS:Rws l w) (h1:mapOk w M) (h2:eB w M=L)
  (h:MapS l M L w.drew->dO P .any ops Q (MapS l M L) (Rws []) k ops.size (Array.replicate ops.size false) a w.drew):(Code.region id ops true).wp P Q a w:=by
 have h0:=MapS.grow l M L w _ ⟨hS,h1,h2⟩ (Below.drew (Below.refl _ _))
 exact wp_region_any hm (lK _ _ _ _ (h h0))
end
section
variable {P:Program} {ops:Array Oper} {Q:Exit->Act->World->Prop} {md:Region.Mode}
theorem mp (i:Nat) {oi:Oper} {v:Value} {fuel:Nat} {listed:Array Bool} {a a':Act} {w:World} {l:List (Nat×Array Value)} {M:Nat} {L:List (Value×Value)} (hS:MapS l M L w)
  (h:bR P md ops Q (MapS l M L) fuel (listed.setIfInBounds i true) a' w)
  (hi:ops[i]? =some oi:=by simp only[List.getElem?_toArray,List.getElem?_cons_succ,List.getElem?_cons_zero];rfl)
  (hs:Region.noSelect ops=true:=by kernel_rfl) (hf:Region.free md ops listed i=true:=by kernel_rfl) (hr:(Region.ready md ops listed).contains i=true:=by kernel_rfl)
  (hQ:∀c a w,Q (.panic c) (a.put oi.dst v) w->Q (.panic c) a w:=by first | exact fun _ _ _ h=>h | exact fun _ _ _ h=>by cases h.1)
  (hw:Region.wanted oi (yielded ops a.tmps)=true:=by rfl)
  (hy:∀w',MapS l M L w'->mD P (fun u w''=>u=v/\Below w'.heap.size w' w'') ((execOp a.eval oi).run P w'):=by
   intro w' hS'
   obtain⟨hS',hM',hL'⟩:=hS'
   simp only[Rws]at hS'
   go_simp
   refine⟨?_,Below.refl _ _⟩
   rfl)
  (hp:a.put oi.dst v=a':=by first | (simp only[Act.put,List.setIfInBounds_toArray,List.set_cons_zero,List.set_cons_succ];rfl) | rfl):
  bR P md ops Q (MapS l M L) (fuel+1) listed a w:=
 cU hi hs hf hr hQ (MapS.grow _ _ _) (Or.inl ⟨hw,hy⟩) hS (hp▸h)
theorem kmp (i:Nat) {oi:Oper} {v:Value} {fuel:Nat} {listed:Array Bool} {a a':Act} {w:World} {l:List (Nat×Array Value)} {M:Nat} {L:List (Value×Value)} {k:Nat} {S2:World->Prop} (hS:MapS l M L w)
  (h:dO P md ops Q (MapS l M L) S2 k fuel (listed.setIfInBounds i true) a' w)
  (hi:ops[i]? =some oi:=by simp only[List.getElem?_toArray,List.getElem?_cons_succ,List.getElem?_cons_zero];rfl)
  (hs:Region.noSelect ops=true:=by kernel_rfl) (hf:Region.free md ops listed i=true:=by kernel_rfl) (hr:(Region.ready md ops listed).contains i=true:=by kernel_rfl) (hk:aAQ md ops k i=true:=by kernel_rfl)
  (hQ:∀c a w,Q (.panic c) (a.put oi.dst v) w->Q (.panic c) a w:=by first | exact fun _ _ _ h=>h | exact fun _ _ _ h=>by cases h.1)
  (hw:Region.wanted oi (yielded ops a.tmps)=true:=by rfl)
  (hy:∀w',MapS l M L w'->mD P (fun u w''=>u=v/\Below w'.heap.size w' w'') ((execOp a.eval oi).run P w'):=by
   intro w' hS'
   obtain⟨hS',hM',hL'⟩:=hS'
   simp only[Rws]at hS'
   go_simp
   refine⟨?_,Below.refl _ _⟩
   rfl)
  (hp:a.put oi.dst v=a':=by first | (simp only[Act.put,List.setIfInBounds_toArray,List.set_cons_zero,List.set_cons_succ];rfl) | rfl):
  dO P md ops Q (MapS l M L) S2 k (fuel+1) listed a w:=
 cH hi hs hf hr hk hQ (MapS.grow _ _ _) (Or.inl ⟨hw,hy⟩) hS (hp▸h)
end
section
variable {P:Program} {ops:Array Oper} {Q:Exit->Act->World->Prop} {id:Nat} {a:Act} {w:World}
theorem aLH (l:List (Nat×Array Value)) (M:Nat) (L:List (Value×Value)) (h1:mapOk w M) (h2:eB w M=L) (h:MapS l M L w.drew->bR P .any ops Q (MapS l M L) ops.size (Array.replicate ops.size false) a w.drew) (hm:P.follows .mixedOrders=true:=by rfl) (hS:Rws l w:=by simp only[Rws];(repeat (first | exact trivial | refine⟨(by first | assumption | (simp[go_sem, *];done)),(by first | omega | (simp;done) | (simp;omega)),?_⟩))):(Code.region id ops true).wp P Q a w:=sH l M L hm hS h1 h2 h
theorem aCm (k:Nat) (l:List (Nat×Array Value)) (M:Nat) (L:List (Value×Value)) (h1:mapOk w M) (h2:eB w M=L) (h:MapS l M L w.drew->dO P .any ops Q (MapS l M L) (Rws []) k ops.size (Array.replicate ops.size false) a w.drew) (hm:P.follows .mixedOrders=true:=by rfl) (hS:Rws l w:=by simp only[Rws];(repeat (first | exact trivial | refine⟨(by first | assumption | (simp[go_sem, *];done)),(by first | omega | (simp;done) | (simp;omega)),?_⟩))):(Code.region id ops true).wp P Q a w:=oZ k l M L hm hS h1 h2 h
end
end
end Go.Proofs.YtiagbbknkdgmeaaGreat
