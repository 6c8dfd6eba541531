/- Regions that draw their order, where what a call answers hangs on no address: such a call is taken first like a read, whatever memory it makes; the world may grow at any time. No program in sight. -/
import Derived.Test.YtiagbbknkdgmeaaGreatMemJ
set_option linter.unusedSimpArgs false
set_option linter.unusedVariables false
set_option maxHeartbeats 8000000
set_option maxRecDepth 20000
namespace Go.Proofs.YtiagbbknkdgmeaaGreat
open Go.RowKit
section
variable {P:Program} {ops:Array Oper} {Q:Exit->Act->World->Prop} {md:Region.Mode} {S S2:World->Prop}
def mD (P:Program) (R:Value->World->Prop):Result Next->Prop
 | .ok (.value u) w'=>R u w'
 | .ok .skip w'=>R undef w'
 | .ok (.enter f args) w'=>Calls P f args w' fun e w''=>∃u,e=.returned u/\R u w''
 | .ok (.row r args) w'=>Rows P r args w' R
 | _=>False
@[go_sem] theorem aJ7 (R : Value -> World -> Prop) (u : Value) (w : World) : mD P R (.ok (.value u) w) = R u w := rfl
@[go_sem] theorem aLk (R : Value -> World -> Prop) (w : World) : mD P R (.ok .skip w) = R undef w := rfl
@[go_sem] theorem aJ8 (R : Value -> World -> Prop) (f : FuncId) (args : Array Value) (w : World) : mD P R (.ok (.enter f args) w) = Calls P f args w fun e w'' => ∃ u, e = .returned u /\ R u w'' := rfl
@[go_sem] theorem aLF (R : Value -> World -> Prop) (r : String) (args : Array Value) (w : World) : mD P R (.ok (.row r args) w) = Rows P r args w R := rfl
theorem aEr {R:Value->World->Prop} {o:Oper} {a:Act} {next:Act->World->Prop} {r:Result Next} (h:mD P R r) (hn:∀u w',R u w'->next (a.put o.dst u) w'):Oper.upon P o a next Q r:=by
 cases r with
 | ok n w'=>
  cases n<;>simp only[mD]at h<;>simp only[Oper.upon]
  case value u=>exact hn _ _ h
  case skip=>exact hn _ _ h
  case enter f args=>exact Calls.mono h fun e w'' ⟨u,he,hr⟩=>by subst he;exact hn _ _ hr
  case row row args=>exact Rows.mono h fun u w'' hr=>hn _ _ hr
 | halt x w'=>exact h.elim
def YieldsG (P:Program) (ops:Array Oper) (S:World->Prop) (o:Oper) (v:Value) (a:Act):Prop:=
 (Region.wanted o (yielded ops a.tmps)=true/\∀w,S w->mD P (fun u w'=>u=v/\Below w.heap.size w w') ((execOp a.eval o).run P w))∨
 (Region.wanted o (yielded ops a.tmps)=false/\v=undef)
theorem YieldsG.wpOp {i:Nat} {o:Oper} {v:Value} {a:Act} (hi:ops[i]? =some o) (hy:YieldsG P ops S o v a)
  {K:Act->World->Prop} {w:World} (hS:S w) (h:∀w',Below w.heap.size w w'->K (a.put o.dst v) w'):wpOp P ops Q i K a w:=by
 unfold Go.wpOp
 simp only[hi]
 rcases hy with ⟨hw,hv⟩ | ⟨hw,rfl⟩
 ·simp only[hw,if_true]
  exact .inl (aEr (hv w hS) fun u w' ⟨hu,hb⟩=>by subst hu;exact h w' hb)
 ·simp only[hw,Bool.false_eq_true,if_false];exact h w (Below.refl _ _)
theorem YieldsG.of_same {o:Oper} {v:Value} {a a':Act} (hy:YieldsG P ops S o v a) (he:execOp a'.eval o=execOp a.eval o)
  (hw:Region.wanted o (yielded ops a'.tmps)=Region.wanted o (yielded ops a.tmps)):YieldsG P ops S o v a':=by
 unfold YieldsG at *
 rw[he,hw]
 exact hy
theorem tK {j:Nat} {oi oj:Oper} {v:Value} (hj:ops[j]? =some oj) (hap:oi.apart ops oj=true)
  (hsi:∀cs b,oi.op≠.select cs b) (hsj:∀cs b,oj.op≠.select cs b)
  (hQ:∀c a w,Q (.panic c) (a.put oi.dst v) w->Q (.panic c) a w) {K:Act->World->Prop} {a:Act} {w:World}
  (hy:YieldsG P ops S oi v a) (h:wpOp P ops Q j K (a.put oi.dst v) w):
  wpOp P ops Q j (fun a' w'=>YieldsG P ops S oi v a'/\K (a'.put oi.dst v) w') a w:=by
 obtain⟨h1,h2,h3⟩:=Oper.apart_spec hap
 have keep:∀(a:Act),YieldsG P ops S oi v a->∀u,YieldsG P ops S oi v (a.put oj.dst u):=fun a hy u=>
  hy.of_same (execOp_put oi hsi a oj.dst u h3) (wanted_put oi a oj.dst u h3)
 have keepD:∀d,YieldsG P ops S oi v {a with defers:=d::a.defers}:=fun d=>hy.of_same rfl rfl
 unfold wpOp at *
 simp only[hj]at *
 rw[wanted_put oj a oi.dst v h1]at h
 split
 ·rename_i hw
  simp only[hw,if_true]at h
  rcases h with h | ⟨hasks,hlets⟩
  case inr=>exact .inr ⟨by unfold Oper.asks at *;rw[execOp_put oj hsj a oi.dst v h1]at hasks;exact hasks,hlets⟩
  refine .inl ?_
  unfold Oper.wp at *
  rw[execOp_put oj hsj a oi.dst v h1]at h
  generalize (execOp a.eval oj).run P w=r at *
  cases r with
  | ok n w'=>
   cases n<;>simp only[Oper.upon]at h ⊢
   case value u=>exact⟨keep a hy u,by rw[<-Act.put_comm a v u h2];exact h⟩
   case skip=>exact⟨keep a hy _,by rw[<-Act.put_comm a v undef h2];exact h⟩
   case defer d=>
    refine⟨keep _ (keepD d) _,?_⟩
    rw[<-Act.put_comm _ v undef h2,<-Act.put_defers]
    exact h
   case enter f args=>
    refine Calls.mono h fun e w'' he=>?_
    cases e with
    | returned u=>exact⟨keep a hy u,by rw[<-Act.put_comm a v u h2];exact he⟩
    | panicked c=>exact hQ _ _ _ he
    | outgrown=>exact he
   case row row args=>exact Rows.mono h fun u w'' he=>⟨keep a hy u,by rw[<-Act.put_comm a v u h2];exact he⟩
  | halt x w'=>
   cases x<;>simp only[Oper.upon]at h ⊢
   case panic u=>exact hQ _ _ _ h
 ·rename_i hw
  simp only[hw]at h
  exact⟨keep a hy _,by rw[<-Act.put_comm a v undef h2];exact h⟩
def bR (P:Program) (md:Region.Mode) (ops:Array Oper) (Q:Exit->Act->World->Prop) (S:World->Prop):Nat->Array Bool->Act->World->Prop
 | 0,listed,a,w=>∀w1,Below w.heap.size w w1->Region.ready md ops listed=[]/\Q .normal a w1
 | fuel+1,listed,a,w=>∀w1,Below w.heap.size w w1->
  (Region.ready md ops listed=[]->Q .normal a w1)/\
  ∀i∈Region.ready md ops listed,wpOp P ops Q i (fun a' w'=>S w'/\bR P md ops Q S fuel (listed.setIfInBounds i true) a' w') a w1
theorem aL {a b c:World} (h:Below a.heap.size a b) (k:Below b.heap.size b c):Below a.heap.size a c:=h.trans (k.mono h.size)
theorem jK {fuel:Nat} {listed:Array Bool} {a:Act} {w w':World} (h:bR P md ops Q S fuel listed a w) (hb:Below w.heap.size w w'):bR P md ops Q S fuel listed a w':=by
 cases fuel with
 | zero=>exact fun w1 h1=>h w1 (aL hb h1)
 | succ fuel=>exact fun w1 h1=>h w1 (aL hb h1)
theorem gR:∀(fuel:Nat) (listed:Array Bool) (a:Act) (w:World),bR P md ops Q S fuel listed a w->wpAnyH P md ops Q S fuel listed a w
 | 0,_,_,w,h=>h w (Below.refl _ _)
 | fuel+1,_,_,w,h=>⟨(h w (Below.refl _ _)).1,fun i hi=>wpOp_mono (fun _ _ h'=>⟨h'.1,gR fuel _ _ _ h'.2⟩) ((h w (Below.refl _ _)).2 i hi)⟩
theorem qF {i:Nat} {oi:Oper} {v:Value} (hi:ops[i]? =some oi) (hsel:∀(j:Nat) (o:Oper) cs b,ops[j]? =some o->o.op≠.select cs b)
  (hQ:∀c a w,Q (.panic c) (a.put oi.dst v) w->Q (.panic c) a w) (hSg:∀w w1,S w->Below w.heap.size w w1->S w1):
  ∀(fuel:Nat) (listed:Array Bool) (a:Act) (w:World),
   (∀j oj,ops[j]? =some oj->j≠i->listed.getD j true=false->(∀e∈oj.after,Region.binds md e=true->e.on≠i)->oi.apart ops oj=true)->
   i∈Region.ready md ops listed->YieldsG P ops S oi v a->S w->
   bR P md ops Q S fuel (listed.setIfInBounds i true) (a.put oi.dst v) w->bR P md ops Q S (fuel+1) listed a w:=by
 intro fuel
 induction fuel with
 | zero=>
  intro listed a w _ hr hy hS H w1 h1
  refine⟨fun h=>(by rw[h]at hr;cases hr),fun j hj=>?_⟩
  by_cases hji:j=i
  ·subst hji
   exact hy.wpOp hi (hSg _ _ hS h1) fun w' hw'=>⟨hSg _ _ (hSg _ _ hS h1) hw',jK (jK H h1) hw'⟩
  ·have:=ready_mono hj hji
   rw[(H w (Below.refl _ _)).1]at this
   cases this
 | succ fuel ih=>
  intro listed a w hfree hr hy hS H w1 hb1
  refine⟨fun h=>(by rw[h]at hr;cases hr),fun j hj=>?_⟩
  by_cases hji:j=i
  ·subst hji
   exact hy.wpOp hi (hSg _ _ hS hb1) fun w' hw'=>⟨hSg _ _ (hSg _ _ hS hb1) hw',jK (jK H hb1) hw'⟩
  ·have h1:=(H w1 hb1).2 j (ready_mono hj hji)
   obtain⟨hjun,oj,hoj,hall⟩:=mem_ready.1 hj
   have hnot:∀e∈oj.after,Region.binds md e=true->e.on≠i:=fun e he hb heq=>by
    have h1:=hall e he hb
    have h0:=(mem_ready.1 hr).1
    rw[heq]at h1
    rcases Nat.lt_or_ge i listed.size with h' | h'
    ·simp[h']at h0 h1;rw[h0]at h1;cases h1
    ·simp[Array.getElem?_eq_none h']at h1
   have h2:=tK hoj (hfree j oj hoj hji hjun hnot) (fun cs b=>hsel i oi cs b hi) (fun cs b=>hsel j oj cs b hoj) hQ hy h1
   have hfree':∀k ok,ops[k]? =some ok->k≠i->(listed.setIfInBounds j true).getD k true=false->
     (∀e∈ok.after,Region.binds md e=true->e.on≠i)->oi.apart ops ok=true:=fun k ok hk hki hun hno=>by
    refine hfree k ok hk hki ?_ hno
    by_cases hjk:j=k
    ·subst hjk;exact hjun
    ·rw[getD_set_ne true hjk]at hun;exact hun
   refine wpOp_mono (fun a' w' h3=>⟨h3.2.1,ih (listed.setIfInBounds j true) a' w' hfree' (ready_mono hr (Ne.symm hji)) h3.1 h3.2.1 ?_⟩) h2
   rw[Array.setIfInBounds_comm _ _ hji]
   exact h3.2.2
theorem cU {i:Nat} {oi:Oper} {v:Value} {fuel:Nat} {listed:Array Bool} {a:Act} {w:World} (hi:ops[i]? =some oi)
  (hs:Region.noSelect ops=true) (hf:Region.free md ops listed i=true) (hr:(Region.ready md ops listed).contains i=true)
  (hQ:∀c a w,Q (.panic c) (a.put oi.dst v) w->Q (.panic c) a w) (hSg:∀w w1,S w->Below w.heap.size w w1->S w1) (hy:YieldsG P ops S oi v a) (hS:S w)
  (h:bR P md ops Q S fuel (listed.setIfInBounds i true) (a.put oi.dst v) w):bR P md ops Q S (fuel+1) listed a w:=
 qF hi (Region.noSelect_spec hs) hQ hSg fuel listed a w (Region.free_spec hi hf) (by simpa using hr) hy hS h
theorem aY {rs:List Nat} {fuel:Nat} {listed:Array Bool} {a:Act} {w:World} (hr:Region.ready md ops listed=rs) (hne:rs≠[]) (hSg:∀w w1,S w->Below w.heap.size w w1->S w1) (hS:S w)
  (h:∀w1,Below w.heap.size w w1->S w1->∀i∈rs,wpOp P ops Q i (fun a' w'=>S w'/\bR P md ops Q S fuel (listed.setIfInBounds i true) a' w') a w1):bR P md ops Q S (fuel+1) listed a w:=
 fun w1 h1=>⟨fun h0=>absurd (hr▸h0) hne,hr▸h w1 h1 (hSg _ _ hS h1)⟩
theorem aG {listed:Array Bool} {a:Act} {w:World} (hr:Region.ready md ops listed=[]) (h:∀w1,Below w.heap.size w w1->Q .normal a w1):
  ∀fuel,bR P md ops Q S fuel listed a w
 | 0=>fun w1 h1=>⟨hr,h w1 h1⟩
 | _+1=>fun w1 h1=>⟨fun _=>h w1 h1,by rw[hr];simp⟩
theorem eH (h:∀w,S2 w->S w):∀(fuel:Nat) (listed:Array Bool) (a:Act) (w:World),bR P md ops Q S2 fuel listed a w->bR P md ops Q S fuel listed a w
 | 0,_,_,_,hh=>hh
 | fuel+1,_,_,_,hh=>fun w1 h1=>⟨(hh w1 h1).1,fun i hi=>wpOp_mono (fun _ _ h'=>⟨h _ h'.1,eH h fuel _ _ _ h'.2⟩) ((hh w1 h1).2 i hi)⟩
theorem bS {fuel:Nat} {listed:Array Bool} {a:Act} {w:World} (h2:S2 w) (h:∀w,S2 w->S w) (hr:S2 w->bR P md ops Q S2 fuel listed a w):S w/\bR P md ops Q S fuel listed a w:=
 ⟨h _ h2,eH h _ _ _ _ (hr h2)⟩
def Rws:List (Nat×Array Value)->World->Prop
 | [],_=>True
 | (b,c)::l,w=>row w b=c/\b<w.heap.size/\Rws l w
theorem Rws.grow:∀(l:List (Nat×Array Value)) (w w1:World),Rws l w->Below w.heap.size w w1->Rws l w1
 | [],_,_,_,_=>trivial
 | (b,c)::l,w,w1,⟨h1,h2,h3⟩,hb=>⟨by rw[aA hb h2,h1],by have:=hb.size;omega,Rws.grow l w w1 h3 hb⟩
theorem Rws.tail {p:Nat×Array Value} {l:List (Nat×Array Value)} {w:World} (h:Rws (p::l) w):Rws l w:=by
 obtain⟨b,c⟩:=p
 exact h.2.2
theorem fV {id:Nat} {a:Act} {w:World} (l:List (Nat×Array Value)) (hm:P.follows .mixedOrders=true) (hS:Rws l w)
  (h:Rws l w.drew->bR P .any ops Q (Rws l) ops.size (Array.replicate ops.size false) a w.drew):(Code.region id ops true).wp P Q a w:=by
 have h1:Rws l w.drew:=Rws.grow l w _ hS (Below.drew (Below.refl _ _))
 exact wp_region_held hm (gR _ _ _ _ (h h1))
def aIf:Next->Option Value
 | .value v=>some v
 | .skip=>some undef
 | _=>none
theorem sP {i:Nat} {o:Oper} {a:Act} {w w2:World} {K:Act->World->Prop} {n:Next} {v:Value} (ho:ops[i]? =some o) (g:o.guard=none)
  (hr:(execOp a.eval o).run P w=.ok n w2) (hv:aIf n=some v) (hK:K (a.put o.dst v) w2):wpOp P ops Q i K a w:=by
 unfold wpOp
 have hw:Region.wanted o (yielded ops a.tmps)=true:=by unfold Region.wanted;rw[g]
 simp only[ho,hw,if_true]
 refine .inl ?_
 unfold Oper.wp
 rw[hr]
 cases n<;>simp only[aIf,Option.some.injEq,reduceCtorEq]at hv<;>subst hv<;>exact hK
theorem cL {i:Nat} {o:Oper} {fuel:Nat} {listed:Array Bool} {a:Act} {w:World} (ho:ops[i]? =some o) (g:o.guard=none) (hr:Region.ready md ops listed=[i])
  (h:∀w1,Below w.heap.size w w1->∃n v w2,(execOp a.eval o).run P w1=.ok n w2/\aIf n=some v/\S w2/\bR P md ops Q S fuel (listed.setIfInBounds i true) (a.put o.dst v) w2):bR P md ops Q S (fuel+1) listed a w:=by
 intro w1 h1
 refine⟨fun h0=>by rw[hr]at h0;simp at h0,fun j hj=>?_⟩
 rw[hr]at hj
 obtain rfl:=List.mem_singleton.1 hj
 obtain⟨n,v,w2,h2,h3,h4,h5⟩:=h w1 h1
 exact sP ho g h2 h3 ⟨h4,h5⟩
theorem aF (w:World) (o:Obj):(w.alloc o).heap.size=w.heap.size+1:=by simp
def ptr (A:Nat):Value:=.pointer (some ⟨A,0,none⟩)
structure News (P:Program) (o:Oper) (d:Tmp) (z:Array Value) (t:TypeId):Prop where
 dst:o.dst=some d
 guard:o.guard=none
 run:∀(a:Act) (w:World),(execOp a.eval o).run P w=.ok (.value (ptr w.heap.size)) (w.alloc (.cells z t))
theorem Rws.alloc {l:List (Nat×Array Value)} {w:World} (h:Rws l w) (o:Obj):Rws l (w.alloc o):=Rws.grow l w _ h (Below.alloc (Below.refl _ _) (Nat.le_refl _) o)
theorem aEs {i j:Nat} {oi oj:Oper} {dA dB:Tmp} {zi zj:Array Value} {ti tj:TypeId} {fuel:Nat} {listed:Array Bool} {a:Act} {w:World} {l:List (Nat×Array Value)}
  (hoi:ops[i]? =some oi) (hoj:ops[j]? =some oj) (ni:News P oi dA zi ti) (nj:News P oj dB zj tj) (hd:dA≠dB) (hij:i≠j)
  (r0:Region.ready md ops listed=[i,j]) (r1:Region.ready md ops (listed.setIfInBounds i true)=[j]) (r2:Region.ready md ops (listed.setIfInBounds j true)=[i]) (hS:Rws l w)
  (h:∀A B w2,w.heap.size<=A->w.heap.size<=B->A≠B->A<w2.heap.size->B<w2.heap.size->Below w.heap.size w w2->Rws l w2->row w2 A=zi->row w2 B=zj->
   bR P md ops Q (Rws l) fuel ((listed.setIfInBounds i true).setIfInBounds j true) ((a.put (some dA) (ptr A)).put (some dB) (ptr B)) w2):
  bR P md ops Q (Rws l) (fuel+1+1) listed a w:=by
 intro w1 h1
 refine⟨fun h0=>by rw[r0]at h0;simp at h0,fun q hq=>?_⟩
 rw[r0]at hq
 have hs:=h1.size
 have hS1:Rws l w1:=Rws.grow l _ _ hS h1
 simp only[List.mem_cons,List.not_mem_nil,or_false]at hq
 rcases hq with rfl | rfl
 ·refine sP hoi ni.guard (ni.run a w1) rfl ⟨hS1.alloc _,cL hoj nj.guard r1 fun w3 h3=>⟨_,_,_,nj.run _ w3,rfl,?_,?_⟩⟩
  ·exact(Rws.grow l _ _ (hS1.alloc _) h3).alloc _
  ·rw[ni.dst,nj.dst]
   have hs3:=h3.size
   rw[aF]at hs3
   refine h _ _ _ hs (by omega) (by omega) (by rw[aF];omega) (by rw[aF];omega) ?_ ((Rws.grow l _ _ (hS1.alloc _) h3).alloc _) ?_ ?_
   ·exact Below.alloc (h1.trans (Below.trans (Below.alloc (Below.refl _ _) (by omega) _) (h3.mono (by rw[aF];omega)))) (by omega) _
   ·rw[aD _ _ (by omega),aA h3 (by rw[aF];omega),aE _ _ _ rfl]
   ·rw[aE _ _ _ rfl]
 ·refine sP hoj nj.guard (nj.run a w1) rfl ⟨hS1.alloc _,cL hoi ni.guard r2 fun w3 h3=>⟨_,_,_,ni.run _ w3,rfl,?_,?_⟩⟩
  ·exact(Rws.grow l _ _ (hS1.alloc _) h3).alloc _
  ·rw[ni.dst,nj.dst,Array.setIfInBounds_comm _ _ (Ne.symm hij),Act.put_comm _ _ _ (fun d hd1=>by simp only[Option.some.injEq]at hd1;subst hd1;simp;exact hd)]
   have hs3:=h3.size
   rw[aF]at hs3
   refine h _ _ _ (by omega) hs (by omega) (by rw[aF];omega) (by rw[aF];omega) ?_ ((Rws.grow l _ _ (hS1.alloc _) h3).alloc _) ?_ ?_
   ·exact Below.alloc (h1.trans (Below.trans (Below.alloc (Below.refl _ _) (by omega) _) (h3.mono (by rw[aF];omega)))) (by omega) _
   ·rw[aE _ _ _ rfl]
   ·rw[aD _ _ (by omega),aA h3 (by rw[aF];omega),aE _ _ _ rfl]
theorem Rws.setRow {g B:Nat} {c:Array Value}:∀(l:List (Nat×Array Value)) (w:World),Rws l w->(∀p∈l,p.1<B)->B<=g->Rws l (w.setRow g c)
 | [],_,_,_,_=>trivial
 | (b,c')::l,w,⟨h1,h2,h3⟩,hl,hB=>⟨by rw[aC _ _ _ (by have:=hl _ (List.mem_cons_self ..);simp at this;omega)];exact h1,by simpa using h2,Rws.setRow l w h3 (fun p hp=>hl p (List.mem_cons_of_mem _ hp)) hB⟩
def mF (r:Result Next) (W:World):Prop:=∃n v,r=.ok n W/\aIf n=some v
@[go_sem] theorem aJE (u : Value) (w W : World) : mF (.ok (.value u) w) W = (w = W) := by
 apply propext
 constructor
 ·rintro⟨n,v,h,_⟩
  cases h
  rfl
 ·rintro rfl
  exact⟨_,_,rfl,rfl⟩
@[go_sem] theorem aJ9 (w W : World) : mF (.ok .skip w) W = (w = W) := by
 apply propext
 constructor
 ·rintro⟨n,v,h,_⟩
  cases h
  rfl
 ·rintro rfl
  exact⟨_,_,rfl,rfl⟩
theorem fI {i j k m:Nat} {oi oj ok om:Oper} {dA dB:Tmp} {zi zj cA cB:Array Value} {ti tj:TypeId} {fuel:Nat} {listed:Array Bool} {a:Act} {w:World} {l:List (Nat×Array Value)}
  (hoi:ops[i]? =some oi) (hoj:ops[j]? =some oj) (hok:ops[k]? =some ok) (hom:ops[m]? =some om) (ni:News P oi dA zi ti) (nj:News P oj dB zj tj) (hd:dA≠dB) (hij:i≠j)
  (r0:Region.ready md ops listed=[i,j]) (r1:Region.ready md ops (listed.setIfInBounds i true)=[j]) (r2:Region.ready md ops (listed.setIfInBounds j true)=[i])
  (r3:Region.ready md ops ((listed.setIfInBounds i true).setIfInBounds j true)=[k]) (r4:Region.ready md ops (((listed.setIfInBounds i true).setIfInBounds j true).setIfInBounds k true)=[m])
  (r5:Region.ready md ops ((((listed.setIfInBounds i true).setIfInBounds j true).setIfInBounds k true).setIfInBounds m true)=[])
  (gk:ok.guard=none) (gm:om.guard=none) (dk:ok.dst=none) (dm:om.dst=none)
  (sA:cA.size=zi.size) (sB:cB.size=zj.size) (pA:0<zi.size) (pB:0<zj.size) (hl:∀p∈l,p.1<w.heap.size)
  (vk:∀A B w1,row w1 A=zi->mF ((execOp (((a.put (some dA) (ptr A)).put (some dB) (ptr B)).eval) ok).run P w1) (w1.setRow A cA))
  (vm:∀A B w1,row w1 B=zj->mF ((execOp (((a.put (some dA) (ptr A)).put (some dB) (ptr B)).eval) om).run P w1) (w1.setRow B cB)) (hS:Rws l w)
  (h:∀A B w2,w.heap.size<=A->w.heap.size<=B->A≠B->A<w2.heap.size->B<w2.heap.size->Below w.heap.size w w2->row w2 A=cA->row w2 B=cB->
   Q .normal ((a.put (some dA) (ptr A)).put (some dB) (ptr B)) w2):
  bR P md ops Q (Rws l) (fuel+1+1+1+1) listed a w:=by
 refine aEs hoi hoj ni nj hd hij r0 r1 r2 hS fun A B w2 h1 h2 h3 h4 h5 h6 h7 h8 h9=>?_
 refine cL hok gk r3 fun w3 b3=>?_
 have e3:=b3.size
 have rA3:row w3 A=zi:=by rw[aA b3 h4,h8]
 have rB3:row w3 B=zj:=by rw[aA b3 h5,h9]
 obtain⟨n,v,hv,hn⟩:=vk A B w3 rA3
 refine⟨n,v,_,hv,hn,Rws.setRow l _ (Rws.grow l _ _ h7 b3) hl h1,?_⟩
 rw[dk]
 refine cL hom gm r4 fun w4 b4=>?_
 have e4:=b4.size
 rw[setRow_size]at e4
 have rA4:row w4 A=cA:=by rw[aA b4 (by rw[setRow_size];omega),aB (by rw[rA3];exact pA) (by rw[rA3];exact sA)]
 have rB4:row w4 B=zj:=by rw[aA b4 (by rw[setRow_size];omega),aC _ _ _ (Ne.symm h3),rB3]
 obtain⟨n,v,hv,hn⟩:=vm A B w4 rB4
 have hS4:Rws l w4:=Rws.grow l _ _ (Rws.setRow l _ (Rws.grow l _ _ h7 b3) hl h1) b4
 refine⟨n,v,_,hv,hn,Rws.setRow l _ hS4 hl h2,?_⟩
 rw[dm]
 refine aG r5 (fun w5 b5=>?_) _
 have e5:=b5.size
 rw[setRow_size]at e5
 refine h A B w5 h1 h2 h3 (by omega) (by omega) ?_ ?_ ?_
 ·refine Below.trans (Below.setRow (Below.trans (Below.setRow (Below.trans h6 (b3.mono (by omega))) h1 _) (b4.mono (by rw[setRow_size];omega))) h2 _) (b5.mono (by rw[setRow_size];omega))
 ·rw[aA b5 (by rw[setRow_size];omega),aC _ _ _ h3,rA4]
 ·rw[aA b5 (by rw[setRow_size];omega),aB (by rw[rB4];exact pB) (by rw[rB4];exact sB)]
theorem Rws.setRow_ne {g:Nat} {c:Array Value}:∀(l:List (Nat×Array Value)) (w:World),Rws l w->(∀p∈l,p.1≠g)->Rws l (w.setRow g c)
 | [],_,_,_=>trivial
 | (b,c')::l,w,⟨h1,h2,h3⟩,hl=>⟨by rw[aC _ _ _ (by have:=hl _ (List.mem_cons_self ..);simpa using this)];exact h1,by simpa using h2,Rws.setRow_ne l w h3 (fun p hp=>hl p (List.mem_cons_of_mem _ hp))⟩
theorem bI {i b:Nat} {o:Oper} {c:Array Value} {fuel:Nat} {listed:Array Bool} {a:Act} {w:World} {l:List (Nat×Array Value)} (ho:ops[i]? =some o) (g:o.guard=none) (hd:o.dst=none)
  (hr:Region.ready md ops listed=[i]) (hl:∀p∈l,p.1≠b) (hS:Rws l w) (hz:0<(row w b).size)
  (hv:∀w1,row w1 b=row w b->mF ((execOp a.eval o).run P w1) (w1.setRow b c))
  (h:∀w1,Below w.heap.size w w1->row w1 b=row w b->Rws l (w1.setRow b c)->bR P md ops Q (Rws l) fuel (listed.setIfInBounds i true) a (w1.setRow b c)):
  bR P md ops Q (Rws l) (fuel+1) listed a w:=by
 refine cL ho g hr fun w1 h1=>?_
 have hrow:row w1 b=row w b:=aA h1 (aM hz)
 obtain⟨n,v,h2,h3⟩:=hv w1 hrow
 have hS1:=Rws.setRow_ne (g:=b) (c:=c) l _ (Rws.grow l _ _ hS h1) hl
 refine⟨n,v,_,h2,h3,hS1,?_⟩
 rw[hd]
 exact h w1 h1 hrow hS1
end
theorem aMC {w W:World} {A B:Nat} {cA cB:Array Value} (hW:(w.setRow A cA).setRow B cB=W) (n:A≠B) (hA:(row w A).size=cA.size) (hB:(row w B).size=cB.size) (pA:0<cA.size) (pB:0<cB.size):
  row (w.setRow A cA) B=row w B/\row W A=cA/\row W B=cB/\(∀x,x≠A->x≠B->row W x=row w x)/\W.heap.size=w.heap.size/\∀k,k<=A->k<=B->Below k w W:=by
 have f1:row (w.setRow A cA) B=row w B:=aC _ _ _ (Ne.symm n)
 refine⟨f1,?_,?_,?_,?_,?_⟩
 ·rw[<-hW,aC _ _ _ n]
  exact aB (by omega) (by omega)
 ·rw[<-hW]
  exact aB (by rw[f1];omega) (by rw[f1];omega)
 ·intro x h1 h2
  rw[<-hW,aC _ _ _ h2,aC _ _ _ h1]
 ·rw[<-hW];simp
 ·intro k h1 h2
  rw[<-hW]
  exact Below.setRow (Below.setRow (Below.refl _ _) h1 _) h2 _
section
variable {P:Program} {ops:Array Oper} {Q:Exit->Act->World->Prop} {md:Region.Mode}
theorem nR {i k:Nat} {oi ok:Oper} {dA:Tmp} {zi cA:Array Value} {ti:TypeId} {fuel:Nat} {listed:Array Bool} {a:Act} {w:World} {l:List (Nat×Array Value)}
  (hoi:ops[i]? =some oi) (hok:ops[k]? =some ok) (ni:News P oi dA zi ti)
  (r0:Region.ready md ops listed=[i]) (r1:Region.ready md ops (listed.setIfInBounds i true)=[k]) (r2:Region.ready md ops ((listed.setIfInBounds i true).setIfInBounds k true)=[])
  (gk:ok.guard=none) (dk:ok.dst=none) (sA:cA.size=zi.size) (pA:0<zi.size) (hl:∀p∈l,p.1<w.heap.size)
  (vk:∀A w1,row w1 A=zi->mF ((execOp ((a.put (some dA) (ptr A)).eval) ok).run P w1) (w1.setRow A cA)) (hS:Rws l w)
  (h:∀A w2,w.heap.size<=A->A<w2.heap.size->Below w.heap.size w w2->row w2 A=cA->Q .normal (a.put (some dA) (ptr A)) w2):
  bR P md ops Q (Rws l) (fuel+1+1) listed a w:=by
 refine cL hoi ni.guard r0 fun w1 b1=>?_
 refine⟨_,_,_,ni.run a w1,rfl,(Rws.grow l _ _ hS b1).alloc _,?_⟩
 rw[ni.dst]
 have e1:=b1.size
 refine cL hok gk r1 fun w3 b3=>?_
 have e3:=b3.size
 rw[aF]at e3
 have rA:row w3 w1.heap.size=zi:=by rw[aA b3 (by rw[aF];omega),aE _ _ _ rfl]
 obtain⟨n,v,hv,hn⟩:=vk w1.heap.size w3 rA
 refine⟨n,v,_,hv,hn,Rws.setRow l _ (Rws.grow l _ _ ((Rws.grow l _ _ hS b1).alloc _) b3) hl e1,?_⟩
 rw[dk]
 refine aG r2 (fun w5 b5=>?_) _
 have e5:=b5.size
 rw[setRow_size]at e5
 refine h w1.heap.size w5 e1 (by omega) ?_ ?_
 ·refine Below.trans (Below.setRow (Below.trans (Below.alloc b1 e1 _) (b3.mono (by rw[aF];omega))) e1 _) (b5.mono (by rw[setRow_size];omega))
 ·rw[aA b5 (by rw[setRow_size];omega)]
  exact aB (by rw[rA];exact pA) (by rw[rA];exact sA)
end
/-! ### regions whose first store breaks what the loads need -/
section
variable {P:Program} {ops:Array Oper} {Q:Exit->Act->World->Prop} {md:Region.Mode} {S S2:World->Prop}
def dO (P:Program) (md:Region.Mode) (ops:Array Oper) (Q:Exit->Act->World->Prop) (S S2:World->Prop) (k:Nat):Nat->Array Bool->Act->World->Prop
 | 0,listed,a,w=>∀w1,Below w.heap.size w w1->Region.ready md ops listed=[]/\Q .normal a w1
 | fuel+1,listed,a,w=>∀w1,Below w.heap.size w w1->
  (Region.ready md ops listed=[]->Q .normal a w1)/\
  ∀i∈Region.ready md ops listed,wpOp P ops Q i (fun a' w'=>if i=k then S2 w'/\bR P md ops Q S2 fuel (listed.setIfInBounds i true) a' w' else S w'/\dO P md ops Q S S2 k fuel (listed.setIfInBounds i true) a' w') a w1
theorem eF {k fuel:Nat} {listed:Array Bool} {a:Act} {w w':World} (h:dO P md ops Q S S2 k fuel listed a w) (hb:Below w.heap.size w w'):dO P md ops Q S S2 k fuel listed a w':=by
 cases fuel with
 | zero=>exact fun w1 h1=>h w1 (aL hb h1)
 | succ fuel=>exact fun w1 h1=>h w1 (aL hb h1)
theorem lK {k:Nat}:∀(fuel:Nat) (listed:Array Bool) (a:Act) (w:World),dO P md ops Q S S2 k fuel listed a w->wpAny P md ops Q fuel listed a w
 | 0,_,_,w,h=>h w (Below.refl _ _)
 | fuel+1,_,_,w,h=>⟨(h w (Below.refl _ _)).1,fun i hi=>wpOp_mono (fun _ _ h'=>by
   by_cases hik:i=k
   ·rw[if_pos hik]at h';exact wpAny_of_held _ _ _ _ (gR _ _ _ _ h'.2)
   ·rw[if_neg hik]at h';exact lK fuel _ _ _ h'.2) ((h w (Below.refl _ _)).2 i hi)⟩
theorem aAP {k i:Nat} {oi ok:Oper} {v:Value} (hi:ops[i]? =some oi) (hok:ops[k]? =some ok) (hki:∃e∈ok.after,Region.binds md e=true/\e.on=i) (hsel:∀(j:Nat) (o:Oper) cs b,ops[j]? =some o->o.op≠.select cs b)
  (hQ:∀c a w,Q (.panic c) (a.put oi.dst v) w->Q (.panic c) a w) (hSg:∀w w1,S w->Below w.heap.size w w1->S w1):
  ∀(fuel:Nat) (listed:Array Bool) (a:Act) (w:World),i≠k->
   (∀j oj,ops[j]? =some oj->j≠i->listed.getD j true=false->(∀e∈oj.after,Region.binds md e=true->e.on≠i)->oi.apart ops oj=true)->
   i∈Region.ready md ops listed->YieldsG P ops S oi v a->S w->
   dO P md ops Q S S2 k fuel (listed.setIfInBounds i true) (a.put oi.dst v) w->dO P md ops Q S S2 k (fuel+1) listed a w:=by
 have unl:∀{listed:Array Bool},i∈Region.ready md ops listed->listed.getD i false=false:=by
  intro listed hr
  have h0:=(mem_ready.1 hr).1
  rcases Nat.lt_or_ge i listed.size with h' | h'
  ·simp[h']at h0 ⊢;exact h0
  ·simp[Array.getElem?_eq_none h']at h0
 have hnk:∀{listed:Array Bool} {j:Nat},i∈Region.ready md ops listed->j∈Region.ready md ops listed->j≠k:=by
  intro listed j hr hj e
  subst e
  obtain⟨_,oj,hoj,hall⟩:=mem_ready.1 hj
  obtain⟨e,he,hb,hon⟩:=hki
  rw[hok]at hoj
  have:=hall e (Option.some.inj hoj▸he) hb
  rw[hon,unl hr]at this
  cases this
 intro fuel
 induction fuel with
 | zero=>
  intro listed a w hik _ hr hy hS H w1 h1
  refine⟨fun h=>(by rw[h]at hr;cases hr),fun j hj=>?_⟩
  by_cases hji:j=i
  ·subst hji
   exact hy.wpOp hi (hSg _ _ hS h1) fun w' hw'=>by rw[if_neg hik];exact⟨hSg _ _ (hSg _ _ hS h1) hw',eF (eF H h1) hw'⟩
  ·have:=ready_mono hj hji
   rw[(H w (Below.refl _ _)).1]at this
   cases this
 | succ fuel ih=>
  intro listed a w hik hfree hr hy hS H w1 hb1
  refine⟨fun h=>(by rw[h]at hr;cases hr),fun j hj=>?_⟩
  by_cases hji:j=i
  ·subst hji
   exact hy.wpOp hi (hSg _ _ hS hb1) fun w' hw'=>by rw[if_neg hik];exact⟨hSg _ _ (hSg _ _ hS hb1) hw',eF (eF H hb1) hw'⟩
  ·have hjk:j≠k:=hnk hr hj
   have h1:=(H w1 hb1).2 j (ready_mono hj hji)
   simp only[if_neg hjk]at h1 ⊢
   obtain⟨hjun,oj,hoj,hall⟩:=mem_ready.1 hj
   have hnot:∀e∈oj.after,Region.binds md e=true->e.on≠i:=fun e he hb heq=>by
    have h1:=hall e he hb
    rw[heq,unl hr]at h1
    cases h1
   have h2:=tK hoj (hfree j oj hoj hji hjun hnot) (fun cs b=>hsel i oi cs b hi) (fun cs b=>hsel j oj cs b hoj) hQ hy h1
   have hfree':∀k ok,ops[k]? =some ok->k≠i->(listed.setIfInBounds j true).getD k true=false->
     (∀e∈ok.after,Region.binds md e=true->e.on≠i)->oi.apart ops ok=true:=fun k ok hk hki hun hno=>by
    refine hfree k ok hk hki ?_ hno
    by_cases hjk:j=k
    ·subst hjk;exact hjun
    ·rw[getD_set_ne true hjk]at hun;exact hun
   refine wpOp_mono (fun a' w' h3=>⟨h3.2.1,ih (listed.setIfInBounds j true) a' w' hik hfree' (ready_mono hr (Ne.symm hji)) h3.1 h3.2.1 ?_⟩) h2
   rw[Array.setIfInBounds_comm _ _ hji]
   exact h3.2.2
def aAQ (md:Region.Mode) (ops:Array Oper) (k i:Nat):Bool:=((ops[k]?).map fun o=>o.after.any fun e=>Region.binds md e&&e.on==i).getD false&&i !=k
theorem cH {k i:Nat} {oi:Oper} {v:Value} {fuel:Nat} {listed:Array Bool} {a:Act} {w:World} (hi:ops[i]? =some oi)
  (hs:Region.noSelect ops=true) (hf:Region.free md ops listed i=true) (hr:(Region.ready md ops listed).contains i=true) (hk:aAQ md ops k i=true)
  (hQ:∀c a w,Q (.panic c) (a.put oi.dst v) w->Q (.panic c) a w) (hSg:∀w w1,S w->Below w.heap.size w w1->S w1) (hy:YieldsG P ops S oi v a) (hS:S w)
  (h:dO P md ops Q S S2 k fuel (listed.setIfInBounds i true) (a.put oi.dst v) w):dO P md ops Q S S2 k (fuel+1) listed a w:=by
 unfold aAQ at hk
 cases hok:ops[k]? with
 | none=>simp[hok]at hk
 | some ok=>
  simp only[hok,Option.map_some,Option.getD_some,Bool.and_eq_true,bne_iff_ne]at hk
  obtain⟨h1,h2⟩:=hk
  obtain⟨e,he,hb⟩:=Array.any_eq_true'.1 h1
  simp only[Bool.and_eq_true,beq_iff_eq]at hb
  exact aAP hi hok ⟨e,he,hb⟩ (Region.noSelect_spec hs) hQ hSg fuel listed a w h2 (Region.free_spec hi hf) (by simpa using hr) hy hS h
theorem aAR {k i:Nat} {oi:Oper} {v:Value} (hi:ops[i]? =some oi) (hik:i≠k) (hsel:∀(j:Nat) (o:Oper) cs b,ops[j]? =some o->o.op≠.select cs b)
  (hQ:∀c a w,Q (.panic c) (a.put oi.dst v) w->Q (.panic c) a w) (hSg:∀w w1,S w->Below w.heap.size w w1->S w1) (hSg2:∀w w1,S2 w->Below w.heap.size w w1->S2 w1) (h12:∀w,S w->S2 w):
  ∀(fuel:Nat) (listed:Array Bool) (a:Act) (w:World),
   (∀j oj,ops[j]? =some oj->j≠i->listed.getD j true=false->(∀e∈oj.after,Region.binds md e=true->e.on≠i)->oi.apart ops oj=true)->
   i∈Region.ready md ops listed->YieldsG P ops S2 oi v a->S w->
   dO P md ops Q S S2 k fuel (listed.setIfInBounds i true) (a.put oi.dst v) w->dO P md ops Q S S2 k (fuel+1) listed a w:=by
 intro fuel
 induction fuel with
 | zero=>
  intro listed a w _ hr hy hS H w1 h1
  refine⟨fun h=>(by rw[h]at hr;cases hr),fun j hj=>?_⟩
  by_cases hji:j=i
  ·subst hji
   exact hy.wpOp hi (h12 _ (hSg _ _ hS h1)) fun w' hw'=>by rw[if_neg hik];exact⟨hSg _ _ (hSg _ _ hS h1) hw',eF (eF H h1) hw'⟩
  ·have:=ready_mono hj hji
   rw[(H w (Below.refl _ _)).1]at this
   cases this
 | succ fuel ih=>
  intro listed a w hfree hr hy hS H w1 hb1
  refine⟨fun h=>(by rw[h]at hr;cases hr),fun j hj=>?_⟩
  by_cases hji:j=i
  ·subst hji
   exact hy.wpOp hi (h12 _ (hSg _ _ hS hb1)) fun w' hw'=>by rw[if_neg hik];exact⟨hSg _ _ (hSg _ _ hS hb1) hw',eF (eF H hb1) hw'⟩
  ·have h1:=(H w1 hb1).2 j (ready_mono hj hji)
   obtain⟨hjun,oj,hoj,hall⟩:=mem_ready.1 hj
   have hnot:∀e∈oj.after,Region.binds md e=true->e.on≠i:=fun e he hb heq=>by
    have h1:=hall e he hb
    have h0:=(mem_ready.1 hr).1
    rw[heq]at h1
    rcases Nat.lt_or_ge i listed.size with h' | h'
    ·simp[h']at h0 h1;rw[h0]at h1;cases h1
    ·simp[Array.getElem?_eq_none h']at h1
   have h2:=tK hoj (hfree j oj hoj hji hjun hnot) (fun cs b=>hsel i oi cs b hi) (fun cs b=>hsel j oj cs b hoj) hQ hy h1
   have hfree':∀k ok,ops[k]? =some ok->k≠i->(listed.setIfInBounds j true).getD k true=false->
     (∀e∈ok.after,Region.binds md e=true->e.on≠i)->oi.apart ops ok=true:=fun k ok hk hki hun hno=>by
    refine hfree k ok hk hki ?_ hno
    by_cases hjk:j=k
    ·subst hjk;exact hjun
    ·rw[getD_set_ne true hjk]at hun;exact hun
   refine wpOp_mono (fun a' w' h3=>?_) h2
   by_cases hjk:j=k
   ·rw[if_pos hjk]at h3 ⊢
    refine⟨h3.2.1,qF hi hsel hQ hSg2 fuel _ _ _ hfree' (ready_mono hr (Ne.symm hji)) h3.1 h3.2.1 ?_⟩
    rw[Array.setIfInBounds_comm _ _ hji]
    exact h3.2.2
   ·rw[if_neg hjk]at h3 ⊢
    refine⟨h3.2.1,ih (listed.setIfInBounds j true) a' w' hfree' (ready_mono hr (Ne.symm hji)) h3.1 h3.2.1 ?_⟩
    rw[Array.setIfInBounds_comm _ _ hji]
    exact h3.2.2
theorem bP {k i:Nat} {oi:Oper} {v:Value} {fuel:Nat} {listed:Array Bool} {a:Act} {w:World} (hi:ops[i]? =some oi)
  (hs:Region.noSelect ops=true) (hf:Region.free md ops listed i=true) (hr:(Region.ready md ops listed).contains i=true) (hk:i≠k)
  (hQ:∀c a w,Q (.panic c) (a.put oi.dst v) w->Q (.panic c) a w) (hSg:∀w w1,S w->Below w.heap.size w w1->S w1) (hSg2:∀w w1,S2 w->Below w.heap.size w w1->S2 w1) (h12:∀w,S w->S2 w) (hy:YieldsG P ops S2 oi v a) (hS:S w)
  (h:dO P md ops Q S S2 k fuel (listed.setIfInBounds i true) (a.put oi.dst v) w):dO P md ops Q S S2 k (fuel+1) listed a w:=
 aAR hi hk (Region.noSelect_spec hs) hQ hSg hSg2 h12 fuel listed a w (Region.free_spec hi hf) (by simpa using hr) hy hS h
theorem bE {k:Nat} {o:Oper} {fuel:Nat} {listed:Array Bool} {a:Act} {w:World} (ho:ops[k]? =some o) (g:o.guard=none) (hd:o.dst=none) (hr:Region.ready md ops listed=[k])
  (h:∀w1,Below w.heap.size w w1->∃w2,mF ((execOp a.eval o).run P w1) w2/\S2 w2/\(S2 w2->bR P md ops Q S2 fuel (listed.setIfInBounds k true) a w2)):dO P md ops Q S S2 k (fuel+1) listed a w:=by
 intro w1 h1
 refine⟨fun h0=>by rw[hr]at h0;simp at h0,fun j hj=>?_⟩
 rw[hr]at hj
 obtain rfl:=List.mem_singleton.1 hj
 obtain⟨w2,⟨n,v,h2,h3⟩,h4,h5⟩:=h w1 h1
 refine sP ho g h2 h3 ?_
 rw[if_pos rfl,hd]
 exact⟨h4,h5 h4⟩
theorem sG {id:Nat} {a:Act} {w:World} (k:Nat) (l l2:List (Nat×Array Value)) (hm:P.follows .mixedOrders=true) (hS:Rws l w)
  (h:Rws l w.drew->dO P .any ops Q (Rws l) (Rws l2) k ops.size (Array.replicate ops.size false) a w.drew):(Code.region id ops true).wp P Q a w:=by
 have h1:Rws l w.drew:=Rws.grow l w _ hS (Below.drew (Below.refl _ _))
 exact wp_region_any hm (lK _ _ _ _ (h h1))
end
structure BelowBut (B S:Nat) (w w':World):Prop where
 os:w'.os=w.os
 tape:w'.tape=w.tape
 output:w'.output=w.output
 size:w.heap.size<=w'.heap.size
 block:∀k,k<B->k≠S->w'.heap[k]? =w.heap[k]?
theorem BelowBut.of {B S:Nat} {w w':World} (h:Below B w w'):BelowBut B S w w':=⟨h.os,h.tape,h.output,h.size,fun k hk _=>h.block k hk⟩
theorem BelowBut.trans {B S:Nat} {a b c:World} (h:BelowBut B S a b) (k:BelowBut B S b c):BelowBut B S a c:=
 ⟨k.os.trans h.os,k.tape.trans h.tape,k.output.trans h.output,Nat.le_trans h.size k.size,fun i hi hn=>(k.block i hi hn).trans (h.block i hi hn)⟩
theorem BelowBut.mono {B B' S:Nat} {w w':World} (h:BelowBut B S w w') (hB:B'<=B):BelowBut B' S w w':=⟨h.os,h.tape,h.output,h.size,fun k hk hn=>h.block k (Nat.lt_of_lt_of_le hk hB) hn⟩
theorem BelowBut.set {B S:Nat} (w:World) (c:Array Value):BelowBut B S w (w.setRow S c):=⟨rfl,rfl,rfl,by simp,fun k _ hn=>aO S k c hn⟩
theorem BelowBut.below {B S:Nat} {w w':World} (h:BelowBut B S w w') (hS:B<=S):Below B w w':=⟨h.os,h.tape,h.output,h.size,fun k hk=>h.block k hk (by omega)⟩
theorem BelowBut.row {B S b:Nat} {w w':World} (h:BelowBut B S w w') (hb:b<B) (hn:b≠S):row w' b=row w b:=aJ (h.block b hb hn)
section
variable {P:Program} {ops:Array Oper} {Q:Exit->Act->World->Prop} {md:Region.Mode}
theorem qp (i:Nat) {oi:Oper} {v:Value} {fuel:Nat} {listed:Array Bool} {a a':Act} {w:World} {l:List (Nat×Array Value)} (hS:Rws l w)
  (h:bR P md ops Q (Rws l) fuel (listed.setIfInBounds i true) a' w)
  (hi:ops[i]? =some oi:=by simp only[List.getElem?_toArray,List.getElem?_cons_succ,List.getElem?_cons_zero];rfl)
  (hs:Region.noSelect ops=true:=by kernel_rfl) (hf:Region.free md ops listed i=true:=by kernel_rfl) (hr:(Region.ready md ops listed).contains i=true:=by kernel_rfl)
  (hQ:∀c a w,Q (.panic c) (a.put oi.dst v) w->Q (.panic c) a w:=by first | exact fun _ _ _ h=>h | exact fun _ _ _ h=>by cases h.1)
  (hw:Region.wanted oi (yielded ops a.tmps)=true:=by rfl)
  (hy:∀w',Rws l w'->mD P (fun u w''=>u=v/\Below w'.heap.size w' w'') ((execOp a.eval oi).run P w'):=by
   intro w' hS'
   simp only[Rws]at hS'
   go_simp
   refine⟨?_,Below.refl _ _⟩
   rfl)
  (hp:a.put oi.dst v=a':=by first | (simp only[Act.put,List.setIfInBounds_toArray,List.set_cons_zero,List.set_cons_succ];rfl) | rfl):
  bR P md ops Q (Rws l) (fuel+1) listed a w:=
 cU hi hs hf hr hQ (Rws.grow _) (Or.inl ⟨hw,hy⟩) hS (hp▸h)
theorem kp (i:Nat) {k:Nat} {S2:World->Prop} {oi:Oper} {v:Value} {fuel:Nat} {listed:Array Bool} {a a':Act} {w:World} {l:List (Nat×Array Value)} (hS:Rws l w)
  (h:dO P md ops Q (Rws l) S2 k fuel (listed.setIfInBounds i true) a' w)
  (hi:ops[i]? =some oi:=by simp only[List.getElem?_toArray,List.getElem?_cons_succ,List.getElem?_cons_zero];rfl)
  (hs:Region.noSelect ops=true:=by kernel_rfl) (hf:Region.free md ops listed i=true:=by kernel_rfl) (hr:(Region.ready md ops listed).contains i=true:=by kernel_rfl) (hk:aAQ md ops k i=true:=by kernel_rfl)
  (hQ:∀c a w,Q (.panic c) (a.put oi.dst v) w->Q (.panic c) a w:=by first | exact fun _ _ _ h=>h | exact fun _ _ _ h=>by cases h.1)
  (hw:Region.wanted oi (yielded ops a.tmps)=true:=by rfl)
  (hy:∀w',Rws l w'->mD P (fun u w''=>u=v/\Below w'.heap.size w' w'') ((execOp a.eval oi).run P w'):=by
   intro w' hS'
   simp only[Rws]at hS'
   go_simp
   refine⟨?_,Below.refl _ _⟩
   rfl)
  (hp:a.put oi.dst v=a':=by first | (simp only[Act.put,List.setIfInBounds_toArray,List.set_cons_zero,List.set_cons_succ];rfl) | rfl):
  dO P md ops Q (Rws l) S2 k (fuel+1) listed a w:=
 cH hi hs hf hr hk hQ (Rws.grow _) (Or.inl ⟨hw,hy⟩) hS (hp▸h)
theorem qc (i:Nat) {oi:Oper} {v:Value} {fuel:Nat} {listed:Array Bool} {a a':Act} {w:World} {l:List (Nat×Array Value)} (hS:Rws l w)
  (hy:∀w',Rws l w'->mD P (fun u w''=>u=v/\Below w'.heap.size w' w'') ((execOp a.eval oi).run P w'))
  (h:bR P md ops Q (Rws l) fuel (listed.setIfInBounds i true) a' w)
  (hi:ops[i]? =some oi:=by simp only[List.getElem?_toArray,List.getElem?_cons_succ,List.getElem?_cons_zero];rfl)
  (hs:Region.noSelect ops=true:=by kernel_rfl) (hf:Region.free md ops listed i=true:=by kernel_rfl) (hr:(Region.ready md ops listed).contains i=true:=by kernel_rfl)
  (hQ:∀c a w,Q (.panic c) (a.put oi.dst v) w->Q (.panic c) a w:=by first | exact fun _ _ _ h=>h | exact fun _ _ _ h=>by cases h.1)
  (hw:Region.wanted oi (yielded ops a.tmps)=true:=by rfl)
  (hp:a.put oi.dst v=a':=by first | (simp only[Act.put,List.setIfInBounds_toArray,List.set_cons_zero,List.set_cons_succ];rfl) | rfl):
  bR P md ops Q (Rws l) (fuel+1) listed a w:=
 cU hi hs hf hr hQ (Rws.grow _) (Or.inl ⟨hw,hy⟩) hS (hp▸h)
theorem qn (i:Nat) {oi:Oper} {fuel:Nat} {listed:Array Bool} {a a':Act} {w:World} {l:List (Nat×Array Value)} (hS:Rws l w)
  (h:bR P md ops Q (Rws l) fuel (listed.setIfInBounds i true) a' w)
  (hi:ops[i]? =some oi:=by simp only[List.getElem?_toArray,List.getElem?_cons_succ,List.getElem?_cons_zero];rfl)
  (hs:Region.noSelect ops=true:=by kernel_rfl) (hf:Region.free md ops listed i=true:=by kernel_rfl) (hr:(Region.ready md ops listed).contains i=true:=by kernel_rfl)
  (hQ:∀c a w,Q (.panic c) (a.put oi.dst undef) w->Q (.panic c) a w:=by first | exact fun _ _ _ h=>h | exact fun _ _ _ h=>by cases h.1)
  (hw:Region.wanted oi (yielded ops a.tmps)=false:=by rfl)
  (hp:a.put oi.dst undef=a':=by first | (simp only[Act.put,List.setIfInBounds_toArray,List.set_cons_zero,List.set_cons_succ];rfl) | rfl):
  bR P md ops Q (Rws l) (fuel+1) listed a w:=
 cU hi hs hf hr hQ (Rws.grow _) (Or.inr ⟨hw,rfl⟩) hS (hp▸h)
end
section
variable {P:Program} {ops:Array Oper} {Q:Exit->Act->World->Prop} {id:Nat} {a:Act} {w:World}
theorem jY (l:List (Nat×Array Value)) (h:Rws l w.drew->bR P .any ops Q (Rws l) ops.size (Array.replicate ops.size false) a w.drew) (hm:P.follows .mixedOrders=true:=by rfl) (hS:Rws l w:=by simp only[Rws];(repeat (first | exact trivial | refine⟨(by first | assumption | (simp[go_sem, *];done)),(by first | omega | (simp;done) | (simp;omega)),?_⟩))):(Code.region id ops true).wp P Q a w:=fV l hm hS h
theorem aF6 (k:Nat) (l l2:List (Nat×Array Value)) (h:Rws l w.drew->dO P .any ops Q (Rws l) (Rws l2) k ops.size (Array.replicate ops.size false) a w.drew) (hm:P.follows .mixedOrders=true:=by rfl) (hS:Rws l w:=by simp only[Rws];(repeat (first | exact trivial | refine⟨(by first | assumption | (simp[go_sem, *];done)),(by first | omega | (simp;done) | (simp;omega)),?_⟩))):(Code.region id ops true).wp P Q a w:=sG k l l2 hm hS h
end
end Go.Proofs.YtiagbbknkdgmeaaGreat
