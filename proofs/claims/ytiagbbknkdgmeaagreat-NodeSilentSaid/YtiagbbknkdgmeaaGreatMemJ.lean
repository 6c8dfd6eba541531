/- Memory in rows: a block's cells as one array, its loads and stores whatever the number of cells; bytes that a call appends. No program in sight. -/
import Derived.WalkKit
import Derived.WalkSpells
import Derived.WalkLawsBesides
import Derived.Deep.MidRow
import Derived.Laws.IdiomStrings
import Derived.Deep.Draws
import Derived.OrdersHeld
import Derived.RegionTactic
import Derived.Test.YtiagbbknkdgmeaaGreatPlainJ
set_option linter.unusedSimpArgs false
set_option linter.unusedVariables false
set_option maxHeartbeats 8000000
set_option maxRecDepth 20000
namespace Go.Proofs.YtiagbbknkdgmeaaGreat
open Go.RowKit
/-! ### rows -/
def row (w:World) (b:Nat):Array Value:=
 match w.heap[b]? with
 | some (.cells c _ (lo,hi))=>if hi=0∨c.size<=lo then c else #[]
 | _=>#[]
theorem aQ {w:World} {b i:Nat} (h:i<(row w b).size):w.cell? ⟨b,i,none⟩=(row w b)[i]? :=by
 unfold row at h ⊢
 unfold World.cell?
 cases hb:w.heap[b]? with
 | none=>simp[hb]at h
 | some o=>
  cases o with
  | cells c t fr=>
   obtain⟨lo,hi⟩:=fr
   simp only[hb]at h ⊢
   split at h
   ·rename_i hc;simp[hc]
   ·simp at h
  | _=>simp[hb]at h
theorem iN {w:World} {b i:Nat} (h:i<(row w b).size):w.frozen? ⟨b,i,none⟩=false:=by
 unfold row at h
 unfold World.frozen?
 cases hb:w.heap[b]? with
 | none=>simp[hb]at h
 | some o=>
  cases o with
  | cells c t fr=>
   obtain⟨lo,hi⟩:=fr
   simp only[hb]at h ⊢
   split at h
   ·rename_i hc;simp;omega
   ·simp at h
  | _=>simp[hb]at h
theorem aM {w:World} {b i:Nat} (h:i<(row w b).size):b<w.heap.size:=by
 rcases Nat.lt_or_ge b w.heap.size with hlt | hge
 ·exact hlt
 ·unfold row at h;rw[Array.getElem?_eq_none hge]at h;simp at h
theorem aJ {w w':World} {b:Nat} (h:w'.heap[b]? =w.heap[b]?):row w' b=row w b:=by unfold row;rw[h]
theorem aA {B b:Nat} {w w':World} (h:Below B w w') (hb:b<B):row w' b=row w b:=aJ (h.block b hb)
section
variable {w:World}
@[go_sem] theorem aE (c : Array Value) (t : TypeId) (n : Nat) (hn : n = w.heap.size) : row (w.alloc (.cells c t)) n = c := by
 subst hn;unfold row;rw[heap_alloc_new];simp
@[go_sem] theorem bF (c : Array Value) (t : TypeId) (n : Nat) (k l : Nat) (hn : n = w.heap.size) (hk : c.size <= k) : row (w.alloc (.cells c t (k, l))) n = c := by
 subst hn;unfold row;rw[heap_alloc_new];simp[hk]
@[go_sem] theorem aD (o : Obj) (n : Nat) (hn : n < w.heap.size) : row (w.alloc o) n = row w n := by
 exact aJ (Below.heap_alloc w o n hn)
@[go_sem] theorem dI (n : Nat) : row w.drew n = row w n := rfl
@[go_sem] theorem aLt (k n : Nat) : row (w.drewN k) n = row w n := rfl
@[go_sem] theorem aFX (c c' : Array Value) (t : TypeId) (n : Nat) (hn : n = w.heap.size) : (w.alloc (.cells c t)).setRow n c' = w.alloc (.cells c' t) := by
 subst hn
 simp only[World.setRow,World.alloc]
 congr 1
 apply Array.ext_getElem?
 intro i
 rw[Array.getElem?_modify]
 by_cases h:w.heap.size=i
 ·subst h
  simp
 ·have h':¬i=w.heap.size:=fun e=>h e.symm
  simp[h,h',Array.getElem?_push]
theorem aDy {a b:World} (hh:∀i:Nat,a.heap[i]? =b.heap[i]?) (ht:a.tape=b.tape) (hd:a.drawn=b.drawn) (ho:a.os=b.os) (hp:a.output=b.output):a=b:=by
 cases a;cases b
 simp only at hh ht hd ho hp
 subst ht hd ho hp
 congr 1
 exact Array.ext_getElem? hh
@[go_sem] theorem aEj (o : Obj) (n : Nat) (c' : Array Value) (hn : n < w.heap.size) : (w.alloc o).setRow n c' = (w.setRow n c').alloc o := by
 have hs:(w.setRow n c').heap.size=w.heap.size:=setRow_size w n c'
 refine aDy (fun i=>?_) rfl rfl rfl rfl
 rcases Nat.lt_trichotomy i w.heap.size with h | h | h
 ·rw[Below.heap_alloc _ _ _ (by omega)]
  by_cases hi:i=n
  ·subst hi
   cases hb:w.heap[i]? with
   | none=>simp at hb;omega
   | some ob=>
    have h1:(w.alloc o).heap[i]? =some ob:=(Below.heap_alloc w o i h).trans hb
    simp only[World.setRow,Array.getElem?_modify,h1,hb]
  ·rw[setRow_other _ _ _ _ hi,setRow_other _ _ _ _ hi,Below.heap_alloc _ _ _ (by omega)]
 ·subst h
  rw[setRow_other _ _ _ _ (by omega),heap_alloc_new]
  rw[<-hs,heap_alloc_new]
 ·rw[Array.getElem?_eq_none (by simp;omega),Array.getElem?_eq_none (by simp;omega)]
@[go_sem] theorem aJX (n : Nat) (c' : Array Value) : w.drew.setRow n c' = (w.setRow n c').drew := rfl
@[go_sem] theorem aJz (k n : Nat) (c' : Array Value) : (w.drewN k).setRow n c' = (w.setRow n c').drewN k := rfl
theorem aO (g k:Nat) (c:Array Value) (h:k≠g):(w.setRow g c).heap[k]? =w.heap[k]? :=by
 simp only[World.setRow,Array.getElem?_modify]
 rw[if_neg (fun e=>h e.symm)]
theorem aC (g k:Nat) (c:Array Value) (h:k≠g):row (w.setRow g c) k=row w k:=aJ (aO g k c h)
theorem aB {g:Nat} {c:Array Value} (h:0<(row w g).size) (hc:c.size=(row w g).size):row (w.setRow g c) g=c:=by
 unfold row at *
 cases hb:w.heap[g]? with
 | none=>simp[hb]at h
 | some o=>
  cases o with
  | cells d t fr=>
   obtain⟨lo,hi⟩:=fr
   simp only[hb]at h hc
   have:(w.setRow g c).heap[g]? =some (.cells c t (lo,hi)):=setRow_heap w g d c t _ hb
   rw[this]
   split at h
   ·rename_i hcc
    rw[if_pos hcc]at hc
    simp only
    rw[if_pos (by omega)]
   ·simp at h
  | _=>simp[hb]at h
theorem Below.setRow {B:Nat} {a w:World} (h:Below B a w) {g:Nat} (hg:B<=g) (c:Array Value):Below B a (w.setRow g c):=
 h.trans ⟨rfl,rfl,rfl,by simp[World.setRow],fun k hk=>aO g k c (by omega)⟩
theorem fA {g:Nat} {c:Array Value} (h:row w g=c) (h0:0<c.size):w.setRow g c=w:=by
 unfold row at h
 cases hb:w.heap[g]? with
 | none=>simp[hb]at h;subst h;simp at h0
 | some o=>
  cases o with
  | cells d t fr=>
   obtain⟨lo,hi⟩:=fr
   simp only[hb]at h
   split at h
   ·subst h
    refine aDy (fun i=>?_) rfl rfl rfl rfl
    by_cases hi':i=g
    ·subst hi';rw[setRow_heap w i d d t _ hb,hb]
    ·exact setRow_other _ _ _ _ hi'
   ·subst h;simp at h0
  | _=>simp[hb]at h;subst h;simp at h0
end
theorem cJ {B:Nat} {w W w':World} (h:Below W.heap.size W w') (h0:Below B w W) (hB:B<=W.heap.size):Below B w w':=h0.trans (h.mono hB)
class AggOf (P:Program) (t:TypeId) (n:outParam Nat):Prop where
 agg:∃d,P.underlying t=some d/\d.isRow=true
 size:(P.info? t).map (·.size)=some n
 pos:0<n
def eO (c:Array Value) (off:Nat) (cs:Array Value):Array Value:=(c.toList.take off++(cs.toList++c.toList.drop (off+cs.size))).toArray
section
variable {P:Program} {w:World}
theorem tD {b off n:Nat} (h:off+n<=(row w b).size):w.rangeAt b off ((row w b).extract off (off+n)).toList:=by
 intro j v hj
 have hjn:j<n:=by
  have:=(List.getElem?_eq_some_iff.1 hj).1
  simp at this;omega
 rw[aQ (by omega)]
 rw[<-hj]
 simp[List.getElem?_drop,hjn]
theorem jW {t n b off:Nat} [hA:AggOf P t n] (h:off+n<=(row w b).size):
  (loadVar t ⟨b,off,none⟩).run P w=.ok (.agg ((row w b).extract off (off+n))) w:=by
 obtain⟨d,hu,hd⟩:=hA.agg
 have:=run_loadVar_mid (P:=P) w b off t ((row w b).extract off (off+n)).toList d (tD h) hu hd (by rw[hA.size];simp;omega)
 rw[Array.toArray_toList]at this
 exact this
theorem aAG {b:Nat} (h:0<(row w b).size):∃t fr,w.heap[b]? =some (.cells (row w b) t fr):=by
 unfold row at h ⊢
 cases hb:w.heap[b]? with
 | none=>simp[hb]at h
 | some o=>
  cases o with
  | cells d t fr=>
   obtain⟨lo,hi⟩:=fr
   simp only[hb]at h ⊢
   split at h
   ·rename_i hc;exact⟨t,(lo,hi),by rw[if_pos hc]⟩
   ·simp at h
  | _=>simp[hb]at h
theorem eQ {b i:Nat} (v:Value) (h:0<(row w b).size):w.setCell ⟨b,i,none⟩ v=w.setRow b ((row w b).setIfInBounds i v):=by
 obtain⟨t,fr,hb⟩:=aAG h
 exact setCell_eq_setRow w b i _ t fr v hb
theorem mL (c:Array Value) (off:Nat) (v:Value) (cs:List Value) (h:off<c.size):eO (c.setIfInBounds off v) (off+1) cs.toArray=eO c off (v::cs).toArray:=by
 unfold eO
 congr 1
 have h1:(c.setIfInBounds off v).toList=c.toList.take off++(v::c.toList.drop (off+1)):=by
  rw[Array.toList_setIfInBounds,List.set_eq_take_append_cons_drop]
  simp[h]
 rw[h1]
 have hl:(c.toList.take off).length=off:=by simp;omega
 have e1:off+1 - off=1:=by omega
 have e2:off+1+cs.length - off=cs.length+1:=by omega
 have e3:off+(cs.length+1)=off+1+cs.length:=by omega
 rw[List.take_append,hl,List.drop_append,hl]
 simp only[List.size_toArray,List.length_cons]
 rw[e1,e2,e3,List.take_of_length_le (by rw[hl];omega),List.drop_of_length_le (l:=List.take off c.toList) (by rw[hl];omega)]
 simp
theorem fB {b:Nat}:∀(cs:List Value) (w:World) (off:Nat),off+cs.length<=(row w b).size->0<cs.length->
  w.setCells b off cs=w.setRow b (eO (row w b) off cs.toArray):=by
 intro cs
 induction cs with
 | nil=>intro w off _ h;simp at h
 | cons v cs ih=>
  intro w off h _
  simp only[List.length_cons]at h
  have h0:0<(row w b).size:=by omega
  show(w.setCell ⟨b,off,none⟩ v).setCells b (off+1) cs=_
  rw[eQ v h0]
  have hr:row (w.setRow b ((row w b).setIfInBounds off v)) b=(row w b).setIfInBounds off v:=aB h0 (by simp)
  by_cases hc:cs=[]
  ·subst hc
   rw[<-mL _ _ _ _ (by omega)]
   simp only[World.setCells,eO,List.size_toArray,List.length_nil,Nat.add_zero,List.nil_append,List.take_append_drop,Array.toArray_toList]
  ·rw[ih _ (off+1) (by rw[hr];simp;omega) (List.length_pos_iff.2 hc),hr,setRow_setRow,mL _ _ _ _ (by omega)]
theorem oX {t n b off:Nat} (hn:(P.info? t).map (·.size)=some n) {cs:Array Value} (hs:cs.size=n) (h0:0<n) (h1:cs.all (·.oneCell')=true) (h:off+n<=(row w b).size):
  (storeVar t ⟨b,off,none⟩ (.agg cs)).run P w=.ok () (w.setRow b (eO (row w b) off cs)):=by
 rw[run_storeVar_mid (P:=P) w b off t cs (fun j hj=>by
  have hj':off+j<(row w b).size:=by omega
  exact⟨by rw[aQ hj'];simp[hj'],iN hj'⟩) (by rw[hn,hs]) h1,
  fB _ _ _ (by simp;omega) (by simp;omega)]
def eC (l:List Value):Bool:=l.all (·.oneCell')
@[simp] theorem aMt : eC [] = true := rfl
@[simp] theorem aJY (l r : List Value) : eC (l ++ r) = (eC l && eC r) := by simp [eC]
@[simp] theorem aMu (k : IntKind) (n : Int) (l : List Value) : eC (.int k n :: l) = eC l := by simp [eC, Value.oneCell']
@[simp] theorem aLu (b : Bool) (l : List Value) : eC (.bool b :: l) = eC l := by simp [eC, Value.oneCell']
@[simp] theorem aJZ (s : ByteArray) (l : List Value) : eC (.string s :: l) = eC l := by simp [eC, Value.oneCell']
@[simp] theorem aJA (a : Option Addr) (l : List Value) : eC (.pointer a :: l) = eC l := by simp [eC, Value.oneCell']
@[simp] theorem aLa (a : Option Addr) (n c : Nat) (l : List Value) : eC (.slice a n c :: l) = eC l := by simp [eC, Value.oneCell']
@[simp] theorem aMv (a : Option Nat) (l : List Value) : eC (.map a :: l) = eC l := by simp [eC, Value.oneCell']
@[simp] theorem aLv (f : Fn) (a b : Array Value) (l : List Value) : eC (.func f a b :: l) = eC l := by simp [eC, Value.oneCell']
@[simp] theorem aJB (l : List Value) : eC (.nilFunc :: l) = eC l := by simp [eC, Value.oneCell']
@[simp] theorem aLb (t : TypeId) (v : Value) (l : List Value) : eC (.iface t v :: l) = eC l := by simp [eC, Value.oneCell']
@[simp] theorem aH7 (l : List Value) : eC (.nilIface :: l) = eC l := by simp [eC, Value.oneCell']
def mC (t:TypeId) (v:Value):Sem Value:=Instr.loadAt t v
def aDz (t:TypeId) (p v:Value):Sem Unit:=Instr.storeAt t p v
def aDA (t:TypeId):Sem Value:=Instr.alloc t true (.tuple #[])
def aAH (t:TypeId) (ps:List (Nat×Value)):Sem Value:=Instr.build t ps.toArray
@[go_sem ↓] theorem aLw (t : TypeId) (v : Value) : Instr.loadAt t v = mC t v := rfl
@[go_sem ↓] theorem aLc (t : TypeId) (p v : Value) : Instr.storeAt t p v = aDz t p v := rfl
@[go_sem ↓] theorem aMw (t : TypeId) : Instr.alloc t true (.tuple #[]) = aDA t := rfl
@[go_sem ↓] theorem aMx (t : TypeId) (ps : Array (Nat × Value)) : Instr.build t ps = aAH t ps.toList := by simp only [aAH, Array.toArray_toList]
@[go_sem] theorem aH8 {t n b off : Nat} [hA : AggOf P t n] (h : off + n <= (row w b).size) : (mC t (.pointer (some ⟨b, off, none⟩))).run P w = .ok (.agg ((row w b).extract off (off + n))) w := by
 have:=jW (P:=P) (w:=w) (t:=t) (n:=n) (b:=b) (off:=off) h
 simp only[mC,Instr.loadAt,Instr.sureAddr,Sem.run_bind,Sem.run_pure,Result.andThen_ok,this]
@[go_sem low] theorem aLx (t : TypeId) (v : Value) : (mC t v).run P w = (do loadVar t (<- Instr.sureAddr v) : Sem Value).run P w := rfl
@[go_sem] theorem aHV {t n b off : Nat} [hA : AggOf P t n] {cs : Array Value} (hs : cs.size = n) (h1' : eC cs.toList = true) (h : off + n <= (row w b).size) :
  (aDz t (.pointer (some ⟨b,off,none⟩)) (.agg cs)).run P w=.ok () (w.setRow b (eO (row w b) off cs)):=by
 have h1:cs.all (·.oneCell')=true:=by
  have:=h1'
  unfold eC at this
  simpa using this
 have:=oX (P:=P) (w:=w) (t:=t) (n:=n) (b:=b) (off:=off) hA.size hs hA.pos h1 h
 simp only[aDz,Instr.storeAt,Instr.sureAddr,Sem.run_bind,Sem.run_pure,Result.andThen_ok,this]
@[go_sem low] theorem aLd (t : TypeId) (p v : Value) : (aDz t p v).run P w = (do storeVar t (<- Instr.sureAddr p) v : Sem Unit).run P w := rfl
end
/-! ### composite values -/
def aCf (places:List (Nat×Nat)) (c:Array Value):List (Nat×Value)->Option (Array Value)
 | []=>some c
 | (i,v)::r=>
  match places[i]? with
  | none=>none
  | some (off,size)=>if v.cells.size=size/\off+size<=c.size then aCf places (eO c off v.cells) r else none
theorem p9 (off:Nat):∀(l:List Value) (c:Array Value) (k:Nat),off+k+l.length<=c.size->
  (l.zipIdx k).foldl (fun cs (x:Value×Nat)=>cs.setIfInBounds (off+x.2) x.1) c=eO c (off+k) l.toArray:=by
 intro l
 induction l with
 | nil=>intro c k _;simp[eO]
 | cons v l ih=>
  intro c k h
  simp only[List.length_cons]at h
  simp only[List.zipIdx_cons,List.foldl_cons]
  rw[ih _ _ (by simp;omega),<-mL _ _ _ _ (by omega)]
  congr 1
theorem nL {places:List (Nat×Nat)} {pl:Nat->Option (Nat×Nat)} (hp:∀i q,places[i]? =some q->pl i=some q):∀(parts:List (Nat×Value)) (c:Array Value) (cs:Array Value),aCf places c parts=some cs->Instr.fill pl c parts=some cs:=by
 intro parts
 induction parts with
 | nil=>intro c cs h;exact h
 | cons x r ih=>
  intro c cs h
  obtain⟨i,v⟩:=x
  simp only[aCf]at h
  cases hi:places[i]? with
  | none=>simp[hi]at h
  | some q=>
   obtain⟨off,size⟩:=q
   simp only[hi]at h
   simp only[Instr.fill,hp i _ hi]
   split at h
   ·rename_i hc
    obtain⟨h1,h2⟩:=hc
    have:¬(v.cells.size≠size||off+v.cells.size>c.size)=true:=by simp[h1];omega
    rw[if_neg this]
    have hz:v.cells.zipIdx.foldl (fun cs (x:Value×Nat)=>cs.setIfInBounds (off+x.2) x.1) c=eO c off v.cells:=by
     have:=p9 off v.cells.toList c 0 (by simp;omega)
     simp only[Nat.add_zero,Array.toArray_toList]at this
     rw[<-this,<-Array.foldl_toList,Array.toList_zipIdx]
    rw[<-ih _ _ h,<-hz]
   ·simp at h
class BuildOf (P:Program) (t:TypeId) (places:outParam (List (Nat×Nat))) (zero:outParam (List Value)):Prop where
 zeroRun:∀w,(zeroValue t).run P w=.ok (.agg zero.toArray) w
 run:∀(parts:Array (Nat×Value)) (w:World) (cs:Array Value),aCf places zero.toArray parts.toList=some cs->(Instr.build t parts).run P w=.ok (.agg cs) w
theorem aN {P:Program} {t:TypeId} {fs:Array Field} {places:List (Nat×Nat)} {zero:List Value} (hu:P.underlying t=some (.struct fs))
  (hz:∀w,(zeroValue t).run P w=.ok (.agg zero.toArray) w)
  (hp:∀w,(fs.mapM fun f=>do pure (f.offset,<-sizeOf f.type):Sem (Array (Nat×Nat))).run P w=.ok places.toArray w):BuildOf P t places zero:=by
 refine⟨hz,fun parts w cs h=>?_⟩
 have hf:=nL (pl:=fun i=>places.toArray[i]?) (fun i q hq=>by simpa using hq) _ _ _ h
 simp only[Instr.build,Sem.run_bind,hz,Result.andThen_ok,Value.cells,run_underlying hu,hp,hf]
 simp
theorem bT {P:Program} {t e:TypeId} {n size:Nat} {places:List (Nat×Nat)} {zero:List Value} (hu:P.underlying t=some (.array n e))
  (hz:∀w,(zeroValue t).run P w=.ok (.agg zero.toArray) w) (hs:∀w,(sizeOf e).run P w=.ok size w) (hp:places=(List.range n).map fun i=>(i*size,size)):BuildOf P t places zero:=by
 refine⟨hz,fun parts w cs h=>?_⟩
 have hf:=nL (pl:=fun i=>some (i*size,size)) (fun i q hq=>by
  subst hp
  simp only[List.getElem?_map,Option.map_eq_some_iff]at hq
  obtain⟨j,hj,rfl⟩:=hq
  have:j=i:=by
   have:=List.getElem?_eq_some_iff.1 hj
   obtain⟨h1,h2⟩:=this
   simpa using h2.symm
  rw[this]) _ _ _ h
 simp only[Instr.build,Sem.run_bind,hz,Result.andThen_ok,Value.cells,run_underlying hu,hs,hf]
 simp
def aH (n:Nat) (v:Value):List Value:=List.replicate n v
@[simp] theorem aAI (n : Nat) (v : Value) : (aH n v).length = n := by simp [aH]
@[simp] theorem aLe (n k : Nat) (v : Value) : (aH n v).drop k = aH (n - k) v := by simp [aH]
@[simp] theorem aLf (n k : Nat) (v : Value) : (aH n v).take k = aH (min k n) v := by simp [aH]
@[simp] theorem aLg (v : Value) : aH 0 v = [] := rfl
section
variable {P:Program} {w:World}
@[go_sem] theorem aHW {t : TypeId} {places : List (Nat × Nat)} {zero : List Value} [hB : BuildOf P t places zero] :
  (aDA t).run P w=.ok (.pointer (some ⟨w.heap.size,0,none⟩)) (w.alloc (.cells zero.toArray t)):=by
 simp only[aDA,Instr.alloc,Sem.run_bind,Sem.run_pure,Result.andThen_ok,hB.zeroRun]
 rfl
@[go_sem low] theorem aLh (t : TypeId) : (aDA t).run P w = (do pure (.pointer (some (<- newVar t (<- zeroValue t)))) : Sem Value).run P w := rfl
@[go_sem] theorem vQ {t : TypeId} {places : List (Nat × Nat)} {zero : List Value} [hB : BuildOf P t places zero] {ps : List (Nat × Value)} (h : (aCf places zero.toArray ps).isSome = true) :
  (aAH t ps).run P w=.ok (.agg ((aCf places zero.toArray ps).getD #[])) w:=by
 obtain⟨cs,hcs⟩:=Option.isSome_iff_exists.1 h
 rw[hcs]
 exact hB.run ps.toArray w cs (by simpa using hcs)
@[go_sem] theorem aHX {t : TypeId} {places : List (Nat × Nat)} {zero : List Value} [hB : BuildOf P t places zero] : (aAH t []).run P w = .ok (.agg zero.toArray) w :=
 hB.run #[] w _ rfl
attribute [go_sem] aCf eO Value.cells List.drop_append List.take_append List.drop_of_length_le List.take_of_length_le List.extract_toArray List.set_append List.getElem?_append
end
/-! ### rows of a world that is a variable -/
section
variable {w:World}
@[go_sem low] theorem aJC {b i : Nat} (h : i < (row w b).size) : w.cell? ⟨b, i, none⟩ = (row w b)[i]? := aQ h
@[go_sem low] theorem aHY {b i : Nat} (h : i < (row w b).size) : w.frozen? ⟨b, i, none⟩ = false := iN h
@[go_sem low] theorem aFY {b i : Nat} (v : Value) (h : 0 < (row w b).size) : w.setCell ⟨b, i, none⟩ v = w.setRow b ((row w b).setIfInBounds i v) := eQ v h
@[go_sem] theorem aH9 {g : Nat} {c : Array Value} (h : 0 < (row w g).size) (hc : c.size = (row w g).size) : row (w.setRow g c) g = c := aB h hc
@[go_sem] theorem aFZ {g k : Nat} {c : Array Value} (h : k ≠ g) : row (w.setRow g c) k = row w k := aC g k c h
attribute [go_sem] setRow_setRow
end
/-! ### strings by their bytes -/
@[go_sem] theorem aJ0 (a : Array UInt8) : (ByteArray.mk a).size = a.size := rfl
@[go_sem] theorem aMW (a : Array UInt8) : (ByteArray.mk a).data = a := rfl
@[go_sem] theorem aLy (a b : List UInt8) : (ByteArray.mk a.toArray ++ ByteArray.mk b.toArray) = ByteArray.mk (a ++ b).toArray := by
 apply ByteArray.ext
 simp
@[go_sem] theorem aJ1 (l : List UInt8) (a b : Nat) : (ByteArray.mk l.toArray).extract a b = ByteArray.mk ((l.drop a).take (b - a)).toArray := ByteArray.extract_mk l a b
@[go_sem] theorem aLi (l : List UInt8) (i : Nat) (h : i < (ByteArray.mk l.toArray).size) : (ByteArray.mk l.toArray)[i] = l[i]'(by simpa [aJ0] using h) := rfl
class ArrLen (P:Program) (t:TypeId) (n:outParam Nat):Prop where
 arr:∃e,P.underlying t=some (.array n e)
@[go_sem] theorem aMy {P : Program} {w : World} {t n len c : Nat} {a : Option Addr} [hA : ArrLen P t n] (h : n <= len) : (Instr.arrayAt t (.slice a len c)).run P w = .ok (.pointer a) w := by
 obtain⟨e,he⟩:=hA.arr
 have:¬len<n:=by omega
 simp only[Instr.arrayAt,run_underlying he,Sem.run_bind,Result.andThen_ok,this,if_false]
 rfl
/-! ### regions that draw, walked in the text's order -/
section
variable {P:Program} {ops:Array Oper} {Q:Exit->Act->World->Prop} {md:Region.Mode} {S S2:World->Prop}
theorem i5 (h:∀w,S2 w->S w):∀(fuel:Nat) (listed:Array Bool) (a:Act) (w:World),wpAnyH P md ops Q S2 fuel listed a w->wpAnyH P md ops Q S fuel listed a w
 | 0,_,_,_,hh=>hh
 | fuel+1,_,_,_,hh=>⟨hh.1,fun i hi=>wpOp_mono (fun _ _ h'=>⟨h _ h'.1,i5 h fuel _ _ _ h'.2⟩) (hh.2 i hi)⟩
def cQ (f:World->Prop) (w:World):Prop:=f w
theorem dS {id:Nat} {a:Act} {w:World} (hm:P.follows .mixedOrders=true)
  (h:cQ (fun _=>True) w.drew->wpAnyH P .any ops Q (cQ fun _=>True) ops.size (Array.replicate ops.size false) a w.drew):(Code.region id ops true).wp P Q a w:=
 wp_region_held hm (h trivial)
theorem a8 {id:Nat} {a:Act} {w:World} (hm:P.follows .mixedOrders=true) (hS:S w.drew)
  (h:S w.drew->wpAnyH P .any ops Q S ops.size (Array.replicate ops.size false) a w.drew):(Code.region id ops true).wp P Q a w:=
 wp_region_held hm (h hS)
theorem rp (i:Nat) {oi:Oper} {v:Value} {fuel:Nat} {listed:Array Bool} {a a':Act} {w:World} (hS:S w) (h:wpAnyH P md ops Q S fuel (listed.setIfInBounds i true) a' w)
  (hi:ops[i]? =some oi:=by simp only[List.getElem?_toArray,List.getElem?_cons_succ,List.getElem?_cons_zero];rfl)
  (hs:Region.noSelect ops=true:=by kernel_rfl) (hf:Region.free md ops listed i=true:=by kernel_rfl) (hr:(Region.ready md ops listed).contains i=true:=by kernel_rfl)
  (hQ:∀c a w,Q (.panic c) (a.put oi.dst v) w->Q (.panic c) a w:=by exact fun _ _ _ h=>h)
  (hw:Region.wanted oi (yielded ops a.tmps)=true:=by rfl)
  (hy:∀w',S w'->(execOp a.eval oi).run P w'=.ok (.value v) w':=by
   intro w' hS'
   unfold cQ at hS'
   go_simp
   rfl)
  (hp:a.put oi.dst v=a':=by first | (simp only[Act.put,List.setIfInBounds_toArray,List.set_cons_zero,List.set_cons_succ];rfl) | rfl):
  wpAnyH P md ops Q S (fuel+1) listed a w:=
 wpAnyH_take hi hs hf hr hQ (Or.inl ⟨hw,hy⟩) hS (hp▸h)
theorem bC {fuel:Nat} {listed:Array Bool} {a:Act} {w:World} (h:S w) (hr:S w->wpAnyH P md ops Q S fuel listed a w):S w/\wpAnyH P md ops Q S fuel listed a w:=⟨h,hr h⟩
theorem cT {fuel:Nat} {listed:Array Bool} {a:Act} {w:World} (h2:S2 w) (h:∀w,S2 w->S w) (hr:S2 w->wpAnyH P md ops Q S2 fuel listed a w):S w/\wpAnyH P md ops Q S fuel listed a w:=
 ⟨h _ h2,i5 h _ _ _ _ (hr h2)⟩
end
/-! ### results -/
def aDB (tmps:Array Value):ResultVar->Sem Value
 | .tmp t=>pure (tmps.getD t undef)
 | .cell a t=>do loadVar t (<-asAddr (tmps.getD a undef))
def jH (P:Program) (w:World) (tmps:Array Value) (r:ResultVar) (v:Value):Prop:=(aDB tmps r).run P w=.ok v w
theorem lJ (fn:Func) (tmps:Array Value):results fn tmps=(do let vs <-fn.results.mapM (aDB tmps);pure (if h:vs.size=1 then vs[0]else .tuple vs)):=by
 unfold results
 congr 1
section
variable {P:Program} {w:World} {fn:Func} {tmps:Array Value}
theorem aP {t:Tmp}:jH P w tmps (.tmp t) (tmps.getD t undef):=rfl
theorem aK {a:Tmp} {t n b:Nat} [hA:AggOf P t n] (hp:tmps.getD a undef=.pointer (some ⟨b,0,none⟩)) (hs:(row w b).size=n):jH P w tmps (.cell a t) (.agg (row w b)):=by
 have:=jW (P:=P) (w:=w) (t:=t) (n:=n) (b:=b) (off:=0) (by omega)
 unfold jH aDB
 simp only[hp,asAddr,Sem.run_bind,Sem.run_pure,Result.andThen_ok,this]
 congr 2
 simp[<-hs]
theorem nM {a:Tmp} {t b:Nat} {d:TypeDesc} {v:Value} (hu:P.underlying t=some d) (hd:d.isRow=false) (hp:tmps.getD a undef=.pointer (some ⟨b,0,none⟩)) (hc:w.cell? ⟨b,0,none⟩=some v):jH P w tmps (.cell a t) v:=by
 unfold jH aDB
 have hagg:(isAgg t).run P w=.ok false w:=by
  unfold isAgg
  rw[Sem.run_bind,run_underlying hu w]
  cases d<;>simp_all
 simp only[hp,asAddr,loadVar,Sem.run_bind,Sem.run_pure,Result.andThen_ok,hagg]
 simp[run_load,hc]
theorem aV {r:ResultVar} {v:Value} (h:fn.results=#[r]) (h1:jH P w tmps r v):(results fn tmps).run P w=.ok v w:=by
 unfold jH at h1
 rw[lJ]
 simp[h,h1]
theorem aS {r s:ResultVar} {u v:Value} (h:fn.results=#[r,s]) (h1:jH P w tmps r u) (h2:jH P w tmps s v):(results fn tmps).run P w=.ok (.tuple #[u,v]) w:=by
 unfold jH at h1 h2
 rw[lJ]
 simp[h,h1,h2]
theorem tE {r s q:ResultVar} {u v x:Value} (h:fn.results=#[r,s,q]) (h1:jH P w tmps r u) (h2:jH P w tmps s v) (h3:jH P w tmps q x):(results fn tmps).run P w=.ok (.tuple #[u,v,x]) w:=by
 unfold jH at h1 h2 h3
 rw[lJ]
 simp[h,h1,h2,h3]
end
/-! ### bytes -/
def u8s (l:List UInt8):List Value:=l.map fun b=>Value.int .u8 (b.toNat:Int)
@[simp] theorem aEk (l : List UInt8) : (u8s l).length = l.length := by simp [u8s]
@[simp] theorem gC (l r : List UInt8) : u8s (l ++ r) = u8s l ++ u8s r := by simp [u8s]
theorem aCg (l:List UInt8):∀u∈u8s l,u.oneCell'=true:=by
 intro u hu;simp[u8s]at hu;obtain⟨b,_,rfl⟩:=hu;rfl
@[simp] theorem aMX (l : List UInt8) : (u8s l).all (·.oneCell') = true := List.all_eq_true.2 (aCg l)
def u8v {n:Nat} (v:Vector UInt8 n):List Value:=u8s v.toList
@[simp] theorem aLj {n : Nat} (v : Vector UInt8 n) : (u8v v).length = n := by simp [u8v]
@[simp] theorem aIa (l : List UInt8) : eC (u8s l) = true := List.all_eq_true.2 (aCg l)
@[simp] theorem aMz {n : Nat} (v : Vector UInt8 n) : eC (u8v v) = true := aIa _
@[simp] theorem aHZ (n : Nat) (k : IntKind) (m : Int) : eC (aH n (.int k m)) = true := by simp [eC, aH, Value.oneCell']
@[simp] theorem aF0 (n : Nat) (b : Bool) : eC (aH n (.bool b)) = true := by simp [eC, aH, Value.oneCell']
@[simp] theorem aEl (n : Nat) (b : ByteArray) : eC (aH n (.string b)) = true := by simp [eC, aH, Value.oneCell']
@[simp] theorem aDC (n : Nat) (b : Option Addr) : eC (aH n (.pointer b)) = true := by simp [eC, aH, Value.oneCell']
@[simp] theorem aFN (n : Nat) (b : Option Addr) (x y : Nat) : eC (aH n (.slice b x y)) = true := by simp [eC, aH, Value.oneCell']
theorem nO (n:Nat):u8v (Vector.replicate n 0)=aH n (.int .u8 0):=by simp[u8v,u8s,aH]
def aI (l:List UInt8) (k n:Nat):Vector UInt8 n:=Vector.ofFn fun i=>l.getD (k+i) 0
theorem cR (l:List UInt8) (k n:Nat) (h:k+n<=l.length):(aI l k n).toList=(l.drop k).take n:=by
 apply List.ext_getElem
 ·simp;omega
 ·intro i h1 h2
  simp only[Vector.length_toList]at h1
  simp[aI,List.getD_eq_getElem?_getD,List.getElem?_eq_getElem (show k+i<l.length by omega)]
theorem aZ (l:List UInt8) (k n:Nat) (h:k+n<=l.length):u8v (aI l k n)=u8s ((l.drop k).take n):=by rw[u8v,cR _ _ _ h]
def fH (l:List Value):List UInt8:=l.map fun | .int _ n=>UInt8.ofNat n.toNat | _=>0
def kD (l:List Value):Bool:=l.all fun | .int .u8 _=>true | _=>false
@[simp] theorem aJ2 : fH [] = [] := rfl
@[simp] theorem aJ3 (k : IntKind) (n : Int) (l : List Value) : fH (.int k n :: l) = UInt8.ofNat n.toNat :: fH l := rfl
@[simp] theorem aH0 (l r : List Value) : fH (l ++ r) = fH l ++ fH r := by simp [fH]
@[simp] theorem aJ4 (l : List UInt8) : fH (u8s l) = l := by
 unfold fH u8s
 rw[List.map_map]
 conv=>rhs;rw[<-List.map_id l]
 apply List.map_congr_left
 intro b _
 simp
@[simp] theorem tF {n : Nat} (v : Vector UInt8 n) : fH (u8v v) = v.toList := by simp [u8v]
@[simp] theorem aLz : kD [] = true := rfl
@[simp] theorem aLA (n : Int) (l : List Value) : kD (.int .u8 n :: l) = kD l := by simp [kD]
@[simp] theorem aAJ (l r : List Value) : kD (l ++ r) = (kD l && kD r) := by simp [kD]
@[simp] theorem aLB (l : List UInt8) : kD (u8s l) = true := by simp [kD, u8s]
@[simp] theorem aLC {n : Nat} (v : Vector UInt8 n) : kD (u8v v) = true := by simp [u8v]
@[simp] theorem aMA (l : List UInt8) (k : Nat) : (u8s l).take k = u8s (l.take k) := by simp [u8s]
@[simp] theorem aMB (l : List UInt8) (k : Nat) : (u8s l).drop k = u8s (l.drop k) := by simp [u8s]
class BytesOf (P:Program) (t:TypeId) (e:outParam TypeId):Prop where
 sl:P.underlying t=some (.slice e)
 el:P.underlying e=some (.int .u8)
 info:(P.info? e).map (fun i=>(i.zero,i.size,i.bytes))=some (some (.int .u8 0),1,1)
class StrOf (P:Program) (t:TypeId):Prop where
 str:P.underlying t=some .string
def eE (w:World) (s:ByteArray) (e:TypeId):Nat:=grownCap w s.size 0 e - s.size
theorem aEm (w:World) (s:ByteArray) (e:TypeId):grownCap w s.size 0 e=s.size+eE w s e:=by
 unfold eE
 have:=grownCap_ge w s.size 0 e
 omega
section
variable {P:Program} {w:World}
theorem aEn {l:List Value} (h:kD l=true):∃ns:List Int,l=ns.map (Value.int .u8)/\fH l=ns.map fun n=>UInt8.ofNat n.toNat:=by
 induction l with
 | nil=>exact⟨[],rfl,rfl⟩
 | cons v l ih=>
  have hv:kD [v]=true/\kD l=true:=by
   have:v::l=[v]++l:=rfl
   rw[this,aAJ,Bool.and_eq_true]at h
   exact h
  obtain⟨ns,h1,h2⟩:=ih hv.2
  cases v with
  | int k n=>
   cases k<;>simp[kD]at hv
   exact⟨n::ns,by simp[h1],by simp[h2]⟩
  | _=>simp[kD]at hv
@[go_sem] theorem yK {src dst e b off n c : Nat} [hB : BytesOf P src e] [hS : StrOf P dst] (h : off + n <= (row w b).size) (h2 : kD ((row w b).extract off (off + n)).toList = true) :
  (convert src dst (.slice (some ⟨b,off,none⟩) n c)).run P w=.ok (.string ⟨(fH ((row w b).extract off (off+n)).toList).toArray⟩) w:=by
 obtain⟨ns,h3,h4⟩:=aEn h2
 have hlen:ns.length=n:=by
  have:=congrArg List.length h3
  simp at this;omega
 have hl:(loadCells ⟨b,off,none⟩ n).run P w=.ok (ns.map (Value.int .u8)).toArray w:=by
  have:=run_loadCells_list (P:=P) w ⟨b,off,none⟩ (ns.map (Value.int .u8)) (fun j v hv=>by
   rw[Addr.add_mid]
   exact tD h j v (by rw[h3];exact hv))
  rwa [List.length_map,hlen]at this
 rw[h4]
 have:=run_bytesToString (P:=P) w ⟨b,off,none⟩ n c ns hl
 rw[foldl_push_bytes]at this
 simp only[convert,run_underlying hB.sl,run_underlying hS.str,run_underlying hB.el,Sem.run_bind,Result.andThen_ok,this]
 simp
@[go_sem] theorem yL {src dst e n c : Nat} [hB : BytesOf P src e] [hS : StrOf P dst] :
  (convert src dst (.slice none n c)).run P w=.ok (.string ⟨#[]⟩) w:=by
 simp only[convert,run_underlying hB.sl,run_underlying hS.str,run_underlying hB.el,Sem.run_bind,Result.andThen_ok,Conv.bytesToString]
 rfl
@[go_sem] theorem aF1 {src dst e : Nat} {s : ByteArray} [hS : StrOf P src] [hB : BytesOf P dst e] :
  (convert src dst (.string s)).run P w=.ok (.slice (some ⟨w.heap.size,0,none⟩) s.size (s.size+eE w s e))
   ((w.alloc (.cells (u8s s.data.toList++aH (eE w s e) (.int .u8 0)).toArray e (s.size+eE w s e,s.size+eE w s e+1))).drew):=by
 have:=run_bytes_of_string (P:=P) w src dst e s hS.str hB.sl hB.el
 have hr:bytesRow s (grownCap w s.size 0 e)=(u8s s.data.toList++aH (eE w s e) (.int .u8 0)).toArray:=by
  apply Array.ext'
  simp[bytesRow,u8s,aH,eE]
 rw[hr,aEm]at this
 have hz:(u8s s.data.toList++aH (eE w s e) (.int .u8 0)).toArray.size=s.size+eE w s e:=by
  have hd:s.data.toList.length=s.size:=rfl
  simp only[List.size_toArray,List.length_append,aEk,aAI,hd]
 rw[hz]at this
 exact this
end
theorem aCh {w:World} {base e n:Nat} {v:Value} {xs:List Value} (h:w.ownsRow base e 1 v n xs):
  (v=.slice none 0 0/\n=0/\xs=[])∨∃g cap,v=.slice (some ⟨g,0,none⟩) n cap/\base<=g/\n<=(row w g).size/\(row w g).extract 0 n=xs.toArray:=by
 obtain⟨hl,⟨rfl,rfl⟩ | ⟨g,cap,cur,rfl,hb,hg,hn,_,hc,hx⟩⟩:=h
 ·exact .inl ⟨rfl,rfl,List.eq_nil_of_length_eq_zero (by simpa using hl)⟩
 ·refine .inr ⟨g,cap,rfl,hb,?_,?_⟩
  ·unfold row;rw[hg];simp;omega
  ·unfold row;rw[hg]
   apply Array.ext'
   simp[<-hx]
section
variable {P:Program} {w:World}
theorem aAK {src dst e base n:Nat} {v:Value} {l:List UInt8} [hB:BytesOf P src e] [hS:StrOf P dst] (h:w.ownsRow base e 1 v n (u8s l)):(convert src dst v).run P w=.ok (.string ⟨l.toArray⟩) w:=by
 rcases aCh h with ⟨rfl,_,hx⟩ | ⟨g,cap,rfl,_,hn,hx⟩
 ·rw[yL]
  have:l=[]:=by cases l with | nil=>rfl | cons=>simp[u8s]at hx
  subst this;rfl
 ·have hx':(row w g).extract 0 (0+n)=(u8s l).toArray:=by rw[Nat.zero_add];exact hx
  rw[yK (by omega) (by rw[hx'];simp),hx']
  simp
theorem jX {ops:Array Oper} {rest:List Oper} {o:Oper} {a:Act} {Q:Exit->Act->World->Prop} (hgd:o.guard=none) {s x:Operand} {t e:TypeId}
  (ho:o.op=.call {callee:=.builtin .append,args:=#[s,x],argTypes:=#[t,t]})
  (hB:BytesOf P t e)
  (base:Nat) (v:Value) (n:Nat) (l:List UInt8) (hs:a.eval s=v) (hown:w.ownsRow base e 1 v n (u8s l))
  (m:Int) (b:UInt8) (hx:a.eval x=.slice (some ⟨w.heap.size,0,none⟩) 1 1) (hm:m=b.toNat)
  (hn:n+1<=140737488355328) (hbase:base<=w.heap.size)
  (h:∀v' w',w'.ownsRow base e 1 v' (n+1) (u8s (l++[b]))->Below base w w'->wpList P ops Q rest (a.put o.dst v') w'):
  wpList P ops Q (o::rest) a (w.alloc (.cells #[.int .u8 m] e)):=by
 obtain⟨i0,hi,hz0,hz1,hz2⟩:=info_parts hB.info
 refine wpList_append_own _ hgd s x t ho base e i0 _ 1 1 hB.sl hi hz0 hz1 hz2 rfl (by decide) v n (u8s l) hs (hown.alloc _) ⟨w.heap.size,0,none⟩ 1 1 [.int .u8 m] hx rfl ?_ ?_ ?_ ?_ ?_ ?_
 ·intro j u hj
  match j,hj with
  | 0,hj=>simp at hj;subst hj;simp[Addr.add,World.cell?_alloc_at]
 ·intro u hu;simp at hu;subst hu;rfl
 ·unfold maxLen;omega
 ·omega
 ·simp;omega
 ·intro v' w' h1 h2 _
  refine h v' w' ?_ (((Below.refl base w).alloc hbase _).grown h2 (by simp;omega) fun k hk=>(hown.lt k hk).1)
  subst hm
  simpa[u8s]using h1
end
theorem Below.al {B:Nat} {w w':World} (h:Below B w w') (o:Obj) (hB:B<=w'.heap.size:=by first | (simp;done) | (simp;omega) | omega):Below B w (w'.alloc o):=Below.alloc h hB o
theorem Below.sr {B g:Nat} {w w':World} (h:Below B w w') (c:Array Value) (hB:B<=g:=by first | (simp;done) | (simp;omega) | omega):Below B w (w'.setRow g c):=Below.setRow h hB c
theorem eD {B:Nat} {w w':World} (h:Below B w w':=by(repeat (first | exact Below.refl _ _ | refine Below.al ?_ _ | refine Below.drew ?_ | refine Below.sr ?_ _ | refine Below.sc ?_ _))):Below B w w':=h
theorem cD {α:Type} {a:Array α} {i:Nat} {o:α} (h:a[i]? =some o:=by simp only[List.getElem?_toArray,List.getElem?_cons_succ,List.getElem?_cons_zero];rfl):a[i]? =some o:=h
theorem h_ {p:Prop} (h:p):Go.RowKit.Hid p:=h
theorem kr_ {p:Prop} (h:p:=by kernel_rfl):p:=h
theorem ba_ {w:World} {o:Obj}:Below w.heap.size w (w.alloc o):=Below.alloc (Below.refl _ _) (Nat.le_refl _) _
end Go.Proofs.YtiagbbknkdgmeaaGreat
