/- The law NodeSilent is true for every input: a daemon whose links are down hands nothing out of them but greetings; frames for them go nowhere. -/
import Derived.Test.YtiagbbknkdgmeaaGreatJ51
import Derived.Test.YtiagbbknkdgmeaaGreatCfaJ
import Derived.Test.YtiagbbknkdgmeaaGreatJ47
import Derived.Test.YtiagbbknkdgmeaaGreatJ35
set_option linter.unusedSimpArgs false
set_option linter.unusedVariables false
set_option maxHeartbeats 8000000
set_option maxRecDepth 20000
namespace Go.Proofs.YtiagbbknkdgmeaaGreat
open Go.ChangeShapes Go.WideShapes Go.ChangeAt Go.RowKit Go.Shelf
theorem vP (W:World) (base:Nat) (args:Array Value) (hlen:args.size=Tryz.f3.params.size) (hval:∀(j:Nat) t v,Tryz.f3.params[j]? =some t->args[j]? =some v->Value.okWide Tryz.prog W .any base t v)
  (hread:∀(j:Nat) t v,Tryz.f3.params.toList[j]? =some t->args.toList[j]? =some v->aF9 Tryz.prog W t v):
  Calls Tryz.prog 3 args W fun e W'=>e=.returned (.bool true)/\Below W.heap.size W W':=by
 obtain⟨l⟩:=args
 match l,hlen with
 | [v0,v1,v2],_=>
 obtain⟨id,ma,he,de,ageing,pa,ps,cap,rfl,hp⟩:=aHU (hval 0 25 v0 rfl rfl) (hread 0 25 v0 rfl rfl)
 obtain⟨l,hl,hg⟩:=aIj Tryz.underlying26 aFy (by decide) (hval 1 26 v1 rfl rfl) (hread 1 26 v1 rfl rfl)
 obtain⟨acts,rfl,hs,hd⟩:=aBY l hg
 obtain⟨a,acap,rfl,hm,hsl⟩:=aKe hl
 obtain⟨vs,rfl,hg2⟩:=aEq (ls:=cS 32 (.int .u8)++[]) Tryz.underlying28 rfl kr_ kr_ (hval 2 28 v2 rfl rfl)
 obtain⟨m,r,rfl,hr⟩:=aDG hg2
 have:=tH hr
 subst this
 rw[List.length_map]at hm ⊢
 rw[List.append_nil]
 exact wR id ma he de ageing pa cap ps a acap acts m W hp ⟨by rw[List.length_map];exact hm,fun i x hx=>hsl i x hx⟩ hs hd
set_option maxRecDepth 100000 in
theorem p8 (os:Os) (started:os.Started) (H:Type) (enc:TypeId×Value->H):
  ReturnsInHanded {} Tryz.checked os 3 .any (Rows.nodeSilentSpec.pre6 enc Tryz.prog Tryz.f3 Rows.nodeSilentRow.domain false) (Rows.nodeSilentSpec.post enc Tryz.prog Tryz.f3 false true false false):=by
 refine returnsInHanded_of_change (C:=Tryz.checked) own started kr_ Tryz.func3
  (ChangeSpec.witness6 (enc:=enc) (C:=Tryz.checked) false ⟨#[],#[.agg (List.replicate 8 (Value.int .u8 0)++(List.replicate 4 (Value.int .i64 0)++[Value.slice none 0 0])).toArray,.slice none 0 0,.agg (List.replicate 32 (.int .u8 0)).toArray],[]⟩ 8 kr_ kr_ kr_ kr_) ?_
 intro W base args ds gs before hval0 hW hcnd _
 have hval:∀(j:Nat) t v,Tryz.f3.params[j]? =some t->args[j]? =some v->Value.okWide Tryz.prog W .any base t v:=hval0
 have hlen:args.size=Tryz.f3.params.size:=by
  obtain⟨p,q,hA,_⟩:=hW
  have:=(mN _ _ _ _ hA).1
  simpa using this
 have hread:∀(j:Nat) t v,Tryz.f3.params.toList[j]? =some t->args.toList[j]? =some v->aF9 Tryz.prog W t v:=by
  obtain⟨p,q,hA,_⟩:=hW
  exact aAT hA
 exact(vP W base args hlen hval hread).mono fun e W' ⟨he,hb⟩=>⟨.bool true,he,aIe aJ6 kr_ Tryz.underlying4 kr_ rfl (by intro ds h;rcases ds with _ | ⟨d1,_ | ⟨d2,_ | ⟨d3,_ | ⟨d4,ds⟩⟩⟩⟩<;>simp at h<;>exact⟨rfl,rfl,rfl⟩) hW hb⟩
theorem nodeSilent_holds:Rows.NodeSilentSaid:=
 OpenClaim.holds_of_wide 3 Tryz.f3 rfl rfl rfl rfl rfl rfl rfl ⟨rfl,rfl,rfl,rfl,rfl⟩ rfl rfl rfl rfl rfl sM Tryz.func3 pK
  uX uY (fun os started H enc _=>p8 os started H enc)
#print axioms nodeSilent_holds
end Go.Proofs.YtiagbbknkdgmeaaGreat
