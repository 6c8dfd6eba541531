/- Texts of this proof, merged: Frame, Args. -/
import Derived.Test.YtiagbbknkdgmeaaGreatJ2
import Derived.ProofKit
import Derived.OpenShut
import Derived.ChangeOld
import Derived.Below
import Derived.Carry
set_option linter.unusedSimpArgs false
set_option linter.unusedVariables false
set_option maxHeartbeats 8000000
set_option maxRecDepth 20000
namespace Go.Proofs.YtiagbbknkdgmeaaGreat
section
open Go.ChangeShapes Go.WideShapes Go.ChangeAt Go.RowKit
theorem own:ownKnob Tryz.prog.godebug=none:=by kernel_rfl
theorem aJ6:laidOutB Tryz.prog=true:=by kernel_rfl
section
variable {H:Type} {enc:TypeId×Value->H} {P:Program}
theorem nP (hl:laidOutB P=true) {W W':World} (hb:Below W.heap.size W W'):∀(ts:List TypeId) (vs:List Value) (ds:List (DataW H)) (ps:List MemPlace),
  ts.all (fun t=>P.readableRec t&&decide (t<P.types.size))=true->DataW.TrodAll enc P W 0 (fun _=>true) true ts vs ds ps->(∀x∈ps,x.block<W.heap.size)->
  DataW.TrodAll enc P W' 0 (fun b=>decide (b<W.heap.size)) true ts vs ds ps
 | [],[],[],ps,_,h,_=>h
 | t::ts,v::vs,d::ds,ps,hp,h,hlt=>by
  obtain⟨p,q,h1,h2,rfl⟩:=h
  simp only[List.all_cons,Bool.and_eq_true,decide_eq_true_eq]at hp
  exact⟨p,q,Below.trod hl hp.1.1 hp.1.2 h1 hb (fun x hx=>hlt x (by simp[hx])),nP hl hb ts vs ds q hp.2 h2 (fun x hx=>hlt x (by simp[hx])),rfl⟩
 | [],[],_::_,_,_,h,_=>by simp[DataW.TrodAll]at h
 | [],_::_,_,_,_,h,_=>by simp[DataW.TrodAll]at h
 | _::_,[],_,_,_,h,_=>by simp[DataW.TrodAll]at h
 | _::_,_::_,[],_,_,h,_=>by simp[DataW.TrodAll]at h
theorem mN {W:World} {base:Nat} {sp:Nat->Bool} {hd:Bool}:∀(ts:List TypeId) (vs:List Value) (ds:List (DataW H)) (ps:List MemPlace),DataW.TrodAll enc P W base sp hd ts vs ds ps->vs.length=ts.length/\ds.length=ts.length
 | [],[],[],_,_=>⟨rfl,rfl⟩
 | _::ts,_::vs,_::ds,_,h=>by
  obtain⟨p,q,_,h2,_⟩:=h
  have:=mN ts vs ds q h2
  simp[this]
 | [],[],_::_,_,h=>by simp[DataW.TrodAll]at h
 | [],_::_,_,_,h=>by simp[DataW.TrodAll]at h
 | _::_,[],_,_,h=>by simp[DataW.TrodAll]at h
 | _::_,_::_,[],_,h=>by simp[DataW.TrodAll]at h
theorem aIe {f:Func} {s:ChangeSpec} {tb:TypeId} (hl:laidOutB P=true) (hr:f.resultTypes=#[tb]) (hb:P.underlying tb=some .bool)
  (hp:f.params.toList.all (fun t=>P.readableRec t&&decide (t<P.types.size))=true) (hv:s.vars=[])
  (hs:∀ds:List (DataW H),ds.length=f.params.toList.length->(s.fn H ds).results=[.lit (.bool true)]/\(s.fn H ds).args=ds/\(s.fn H ds).vars=[])
  {W W':World} {args:Array Value} {ds gs:List (DataW H)} {before:List MemPlace} (hW:DataW.Whole enc P f.params.toList s.vars false W args.toList ds gs before) (hbel:Below W.heap.size W W'):
  s.post enc P f false true false false W args (.bool true) W':=by
 have hlt:∀x∈before,x.block<W.heap.size:=fun x hx=>hW.lt x hx
 have hW':=hW
 obtain⟨p,q,hA,hV,rfl,_,_⟩:=hW
 rw[hv]at hV
 obtain⟨rfl,rfl⟩:=trodVars_none hV
 have hlen:=mN _ _ _ _ hA
 obtain⟨h1,h2,h3⟩:=hs (ds++[]) (by simp[hlen.2])
 refine⟨ds,[],p++[],[],p,[],hW',?_,?_,?_,hbel.frame _,fun h=>by cases h⟩
 ·rw[h1,hr]
  exact trodAll_mk1 (shut_bool hb true)
 ·rw[h2,List.append_nil]
  exact nP hl hbel _ _ _ _ hp hA (fun x hx=>hlt x (by simp[hx]))
 ·rw[h3,hv]
  rfl
def Leaf.good:Leaf->Value->Prop
 | .int k,.int k' n=>k'=k/\k.has n
 | .bool,.bool _=>True
 | .str,.string s=>s.size<=maxLen
 | _,_=>False
def gP:List Leaf->List Value->Prop
 | [],[]=>True
 | l::ls,v::vs=>l.good v/\gP ls vs
 | _,_=>False
def Leaf.desc:Leaf->TypeDesc
 | .int k=>.int k
 | .bool=>.bool
 | .str=>.string
theorem aDF:∀(ls:List Leaf) (vs:List Value),vs.length=ls.length->(∀(i:Nat) (l:Leaf) (v:Value),ls[i]? =some l->vs[i]? =some v->l.good v)->gP ls vs
 | [],[],_,_=>trivial
 | l::ls,v::vs,h,hh=>⟨hh 0 l v rfl rfl,aDF ls vs (by simpa using h) (fun i l' v' h1 h2=>hh (i+1) l' v' h1 h2)⟩
 | [],_::_,h,_=>by simp at h
 | _::_,[],h,_=>by simp at h
theorem aEq {t:TypeId} {d:TypeDesc} {ls:List Leaf} (hu:P.underlying t=some d) (hd:d.isRow=true) (hcl:(P.cellTypes P.depth t).map (fun ts=>ts.map P.underlying)=some (ls.map (fun l=>some l.desc)))
  (hc:P.cellsOf t=ls.length) {w:World} {r:Reach} {base:Nat} {v:Value} (h:Value.okWide P w r base t v):∃vs:List Value,v=.agg vs.toArray/\gP ls vs:=by
 obtain⟨ts,hct,hls⟩:=Option.map_eq_some_iff.1 hcl
 have hlen:ts.length=ls.length:=by simpa using congrArg List.length hls
 have:∃cs,v=.agg cs/\cs.size=P.cellsOf t/\Row.okWide P w r base t cs:=by
  unfold Value.okWide at h
  rw[hu]at h
  cases d<;>simp_all
 obtain⟨cs,rfl,hsz,ts',hts,_,hcell⟩:=this
 rw[hct]at hts
 obtain rfl:=(Option.some.inj hts).symm
 refine⟨cs.toList,by simp,aDF _ _ (by simp[hsz,hc]) (fun i l v hl hv=>?_)⟩
 have hi:i<ls.length:=(List.getElem?_eq_some_iff.1 hl).1
 obtain⟨u,hu',hok⟩:=hcell i v (by simpa using hv)
 rw[Nat.mod_eq_of_lt (by omega)]at hu'
 have hdu:P.underlying u=some l.desc:=by
  have:=congrArg (fun q=>q[i]?) hls
  simp only[List.getElem?_map,hu',hl,Option.map_some]at this
  exact Option.some.inj this
 unfold Cell.okWide at hok
 rw[hdu]at hok
 have hok':Cell.ok P w r base u v:=by
  cases l<;>cases v<;>simpa[Leaf.desc]using hok
 unfold Cell.ok at hok'
 rw[hdu]at hok'
 cases l<;>cases v<;>simp_all[Leaf.desc,Leaf.good,maxLen,IntKind.max,IntKind.bits,IntKind.signed]<;>omega
end
theorem tH {vs:List Value} (h:gP [] vs):vs=[]:=by
 cases vs with
 | nil=>rfl
 | cons=>exact h.elim
theorem tJ {k:IntKind} {ls:List Leaf} {vs:List Value} (h:gP (.int k::ls) vs):∃n r,vs=.int k n::r/\k.has n/\gP ls r:=by
 cases vs with
 | nil=>exact h.elim
 | cons v r=>
  obtain⟨h1,h2⟩:=h
  cases v<;>simp[Leaf.good]at h1
  obtain⟨rfl,h1⟩:=h1
  exact⟨_,_,rfl,h1,h2⟩
theorem aF5 {ls:List Leaf} {vs:List Value} (h:gP (.str::ls) vs):∃l r,vs=.string ⟨l⟩::r/\l.size<=maxLen/\gP ls r:=by
 cases vs with
 | nil=>exact h.elim
 | cons v r=>
  obtain⟨h1,h2⟩:=h
  cases v<;>simp[Leaf.good]at h1
  rename_i s
  exact⟨s.data,_,rfl,h1,h2⟩
theorem aDG:∀{n:Nat} {ls:List Leaf} {vs:List Value},gP (cS n (.int .u8)++ls) vs->∃(m:Vector UInt8 n) (r:List Value),vs=u8v m++r/\gP ls r:=by
 intro n
 induction n with
 | zero=>intro ls vs h;exact⟨#v[],vs,rfl,h⟩
 | succ n ih=>
  intro ls vs h
  rw[i7,List.replicate_succ,List.cons_append,<-i7]at h
  obtain⟨x,r,rfl,hx,hr⟩:=tJ h
  obtain⟨m,r',rfl,hr'⟩:=ih hr
  have hx':0<=x/\x<=255:=by simpa[IntKind.has,IntKind.min,IntKind.max,IntKind.bits,IntKind.signed]using hx
  refine⟨⟨(UInt8.ofNat x.toNat::m.toList).toArray,by simp⟩,r',?_,hr'⟩
  simp only[u8v,u8s,Vector.toList,List.map_cons,List.cons_append]
  congr 2
  simp
  omega
end
end Go.Proofs.YtiagbbknkdgmeaaGreat
