/- Joined texts: A7 A8 A9 A10. No condition. -/
import Derived.Test.YtkbglkjpdndkiaaZ1
import Derived.LoopN
namespace Go.Proofs.Ytkbglkjpdndkiaa
namespace Ab
open Go Go.RowKit
set_option linter.unusedSimpArgs false
set_option linter.unusedVariables false
section
structure AOper where
 dst:Option Nat
 g:Option (Nat×Bool)
 op:AOp
 chks:List (Option Nat×Option (Nat×Bool)×AOp)
section
variable (P:Program)
def astep (g:Option (Nat×Bool)) (o:AOp) (ρ:Env) (h:H) (K:AV→H→Prop):Prop:=
 match g with
 |none=>aexec P o ρ h K
 |some (t,b)=>match ρ t with
  | .bool c=>if c=b then aexec P o ρ h K else K (.tup []) h
  | .tup []=>K (.tup []) h
  |_=>False
def achk (ρ:Env) (h:H) (c:Option Nat×Option (Nat×Bool)×AOp):Prop:=astep P c.2.1 c.2.2 ρ h (fun v _=>∀d,c.1=some d→v=ρ d)
def achks (ρ:Env) (h:H):List (Option Nat×Option (Nat×Bool)×AOp)→Prop
 |[]=>True
 |c::cs=>achk P ρ h c∧achks ρ h cs
def aops:List AOper→(Env→H→Prop)→Env→H→Prop
 |[],Q,ρ,h=>Q ρ h
 |o::os,Q,ρ,h=>astep P o.g o.op ρ h (fun v h'=>achks P ρ h' o.chks∧aops os Q (aput ρ o.dst v) h')
end
def AO.rd:AO→List Nat
 | .t n=>[n]
 |_=>[]
def AOp.rds:AOp→List Nat
 | .mv x=>x.rd
 | .pick c a b=>c.rd++(a.rd++b.rd)
 | .bin _ x y=>x.rd++y.rd
 | .beq _ x y=>x.rd++y.rd
 | .peq _ x y=>x.rd++y.rd
 | .seq _ x y=>x.rd++y.rd
 | .cat x y=>x.rd++y.rd
 | .aeq _ _ x y=>x.rd++y.rd
 | .idxS x y=>x.rd++y.rd
 | .idxV _ _ _ x y=>x.rd++y.rd
 | .un _ x=>x.rd
 | .cvI _ x=>x.rd
 | .bts x=>x.rd
 | .idx _ x i=>x.rd++i.rd
 | .idxA _ _ x i=>x.rd++i.rd
 | .fld _ x=>x.rd
 | .ld _ p=>p.rd
 | .st _ p v=>p.rd++v.rd
 | .nn x=>x.rd
 | .prt _ _ x=>x.rd
 | .slc _ x lo hi=>x.rd++((lo.map AO.rd).getD []++(hi.map AO.rd).getD [])
 | .mk _ _ _ _ l c=>l.rd++c.rd
 | .bsl _ _ _ _ ps=>ps.flatMap fun p=>p.2.rd
 | .bld _ ps=>ps.flatMap fun p=>p.2.2.rd
 | .box _ x=>x.rd
 | .alloc _ _=>[]
 | .len _ x=>x.rd
 | .capo x=>x.rd
 | .mnx _ x ys=>x.rd++ys.flatMap AO.rd
 | .app _ _ _ s x=>s.rd++x.rd
 | .cpy _ d s=>d.rd++s.rd
 | .mkf _ f c=>f.flatMap AO.rd++c.flatMap AO.rd
 | .ext x _=>x.rd
 | .call _ asx=>asx.flatMap AO.rd
 | .callV x asx=>x.rd++asx.flatMap AO.rd
 | .bad=>[]
def AOp.ne:AOp→Bool
 | .mv _| .pick .. | .bin .. | .beq .. | .peq .. | .seq .. | .cat .. | .aeq .. | .idxS .. | .idxV .. | .un .. | .cvI .. | .bts _| .idx .. | .idxA .. | .fld .. | .ld .. | .nn _| .prt .. | .slc .. | .bld .. | .len .. | .capo _| .mnx .. | .mkf .. | .ext .. =>true
 |_=>false
def AOp.pure:AOp→Bool
 | .ld .. | .slc .. | .bts _=>false
 |o=>o.ne
def grd (g:Option (Nat×Bool)):List Nat:=match g with
 |some (t,_)=>[t]
 |none=>[]
theorem aev_congr {ρ ρ':Env} {x:AO} (h:∀t∈x.rd,ρ t=ρ' t):aev ρ x=aev ρ' x:=by
 cases x with
 |t n=>exact h n (by simp[AO.rd])
 |_=>rfl
theorem aevs_congr {ρ ρ':Env}:∀{xs:List AO},(∀t∈xs.flatMap AO.rd,ρ t=ρ' t)→xs.map (aev ρ)=xs.map (aev ρ')
 |[],_=>rfl
 |x::xs,h=>by
  rw[List.map_cons,List.map_cons,aev_congr (fun t ht=>h t (by simp[ht])),aevs_congr (fun t ht=>h t (by
   rw[List.flatMap_cons];exact List.mem_append_right _ ht))]
theorem aexec_congr {P:Program} {o:AOp} {ρ ρ':Env} {h:H} {K:AV→H→Prop} (hr:∀t∈o.rds,ρ t=ρ' t):aexec P o ρ h K↔aexec P o ρ' h K:=by
 have e1:∀{x:AO},(∀t∈x.rd,t∈o.rds)→aev ρ x=aev ρ' x:=fun h1=>aev_congr (fun t ht=>hr t (h1 t ht))
 have e2:∀{xs:List AO},(∀t∈xs.flatMap AO.rd,t∈o.rds)→xs.map (aev ρ)=xs.map (aev ρ'):=fun h1=>aevs_congr (fun t ht=>hr t (h1 t ht))
 cases o with
 |mv x=>simp only[aexec];rw[e1 (x:=x) (fun t ht=>ht)]
 |pick c a b=>simp only[aexec];rw[e1 (x:=c) (fun t ht=>by simp[AOp.rds,ht]),e1 (x:=a) (fun t ht=>by simp[AOp.rds,ht]),e1 (x:=b) (fun t ht=>by simp[AOp.rds,ht])]
 |bin op x y=>simp only[aexec];rw[e1 (x:=x) (fun t ht=>by simp[AOp.rds,ht]),e1 (x:=y) (fun t ht=>by simp[AOp.rds,ht])]
 |beq op x y=>simp only[aexec];rw[e1 (x:=x) (fun t ht=>by simp[AOp.rds,ht]),e1 (x:=y) (fun t ht=>by simp[AOp.rds,ht])]
 |peq op x y=>simp only[aexec];rw[e1 (x:=x) (fun t ht=>by simp[AOp.rds,ht]),e1 (x:=y) (fun t ht=>by simp[AOp.rds,ht])]
 |seq op x y=>simp only[aexec];rw[e1 (x:=x) (fun t ht=>by simp[AOp.rds,ht]),e1 (x:=y) (fun t ht=>by simp[AOp.rds,ht])]
 |cat x y=>simp only[aexec];rw[e1 (x:=x) (fun t ht=>by simp[AOp.rds,ht]),e1 (x:=y) (fun t ht=>by simp[AOp.rds,ht])]
 |aeq op n x y=>simp only[aexec];rw[e1 (x:=x) (fun t ht=>by simp[AOp.rds,ht]),e1 (x:=y) (fun t ht=>by simp[AOp.rds,ht])]
 |idxS x y=>simp only[aexec];rw[e1 (x:=x) (fun t ht=>by simp[AOp.rds,ht]),e1 (x:=y) (fun t ht=>by simp[AOp.rds,ht])]
 |idxV _ _ _ x y=>simp only[aexec];rw[e1 (x:=x) (fun t ht=>by simp[AOp.rds,ht]),e1 (x:=y) (fun t ht=>by simp[AOp.rds,ht])]
 |un op x=>simp only[aexec];rw[e1 (x:=x) (fun t ht=>ht)]
 |cvI k x=>simp only[aexec];rw[e1 (x:=x) (fun t ht=>ht)]
 |bts x=>simp only[aexec];rw[e1 (x:=x) (fun t ht=>ht)]
 |idx _ x y=>simp only[aexec];rw[e1 (x:=x) (fun t ht=>by simp[AOp.rds,ht]),e1 (x:=y) (fun t ht=>by simp[AOp.rds,ht])]
 |idxA _ _ x y=>simp only[aexec];rw[e1 (x:=x) (fun t ht=>by simp[AOp.rds,ht]),e1 (x:=y) (fun t ht=>by simp[AOp.rds,ht])]
 |fld _ x=>simp only[aexec];rw[e1 (x:=x) (fun t ht=>ht)]
 |ld _ x=>simp only[aexec];rw[e1 (x:=x) (fun t ht=>ht)]
 |st _ x y=>simp only[aexec];rw[e1 (x:=x) (fun t ht=>by simp[AOp.rds,ht]),e1 (x:=y) (fun t ht=>by simp[AOp.rds,ht])]
 |nn x=>simp only[aexec];rw[e1 (x:=x) (fun t ht=>ht)]
 |prt _ _ x=>simp only[aexec];rw[e1 (x:=x) (fun t ht=>ht)]
 |slc _ x lo hi=>
  have b1:∀(lo:Option AO) (d:Nat) (Kp:Nat→Prop),(∀t∈(lo.map AO.rd).getD [],ρ t=ρ' t)→boundOf ρ d lo Kp=boundOf ρ' d lo Kp:=by
   intro lo d Kp h1
   cases lo with
   |none=>rfl
   |some y=>simp only[boundOf];rw[aev_congr (x:=y) (fun t ht=>h1 t (by simpa using ht))]
  simp only[aexec]
  rw[e1 (x:=x) (fun t ht=>by simp[AOp.rds,ht])]
  split
  ·rw[b1 hi _ _ (fun t ht=>hr t (by simp only[AOp.rds,List.mem_append];exact .inr (.inr ht)))]
   have:∀b,boundOf ρ 0 lo b=boundOf ρ' 0 lo b:=fun b=>b1 lo _ _ (fun t ht=>hr t (by simp only[AOp.rds,List.mem_append];exact .inr (.inl ht)))
   simp only[this]
  ·exact Iff.rfl
 |mk _ _ _ _ x y=>simp only[aexec];rw[e1 (x:=x) (fun t ht=>by simp[AOp.rds,ht]),e1 (x:=y) (fun t ht=>by simp[AOp.rds,ht])]
 |bsl e z n zr ps=>
  have:(ps.map fun p=>(p.1*z,z,aev ρ p.2))=(ps.map fun p=>(p.1*z,z,aev ρ' p.2)):=
   List.map_congr_left (fun p hp=>by rw[aev_congr (fun t ht=>hr t (by simp only[AOp.rds,List.mem_flatMap];exact⟨p,hp,ht⟩))])
  simp only[aexec];rw[this]
 |bld zr ps=>
  have:(ps.map fun p=>(p.1,p.2.1,aev ρ p.2.2))=(ps.map fun p=>(p.1,p.2.1,aev ρ' p.2.2)):=
   List.map_congr_left (fun p hp=>by rw[aev_congr (fun t ht=>hr t (by simp only[AOp.rds,List.mem_flatMap];exact⟨p,hp,ht⟩))])
  simp only[aexec];rw[this]
 |box _ x=>simp only[aexec];rw[e1 (x:=x) (fun t ht=>ht)]
 |alloc _ _=>exact Iff.rfl
 |len _ x=>simp only[aexec];rw[e1 (x:=x) (fun t ht=>ht)]
 |capo x=>simp only[aexec];rw[e1 (x:=x) (fun t ht=>ht)]
 |mnx _ x ys=>simp only[aexec];rw[e1 (x:=x) (fun t ht=>by simp[AOp.rds,ht]),e2 (xs:=ys) (fun t ht=>by simp only[AOp.rds,List.mem_append];exact .inr ht)]
 |app _ _ _ x y=>simp only[aexec];rw[e1 (x:=x) (fun t ht=>by simp[AOp.rds,ht]),e1 (x:=y) (fun t ht=>by simp[AOp.rds,ht])]
 |cpy _ x y=>simp only[aexec];rw[e1 (x:=x) (fun t ht=>by simp[AOp.rds,ht]),e1 (x:=y) (fun t ht=>by simp[AOp.rds,ht])]
 |mkf f xs ys=>simp only[aexec];rw[e2 (xs:=xs) (fun t ht=>by simp only[AOp.rds,List.mem_append];exact .inl ht),e2 (xs:=ys) (fun t ht=>by simp only[AOp.rds,List.mem_append];exact .inr ht)]
 |ext x _=>simp only[aexec];rw[e1 (x:=x) (fun t ht=>ht)]
 |call _ xs=>simp only[aexec];rw[e2 (xs:=xs) (fun t ht=>ht)]
 |callV x ys=>simp only[aexec];rw[e1 (x:=x) (fun t ht=>by simp[AOp.rds,ht]),e2 (xs:=ys) (fun t ht=>by simp only[AOp.rds,List.mem_append];exact .inr ht)]
 |bad=>exact Iff.rfl
def Det (P:Program) (o:AOp) (ρ:Env):Prop:=(∃v,∀h K,aexec P o ρ h K↔K v h)∨(∀h K,¬aexec P o ρ h K)
theorem abin_det {op:BinOp} {k:IntKind} {a b:Int}:(∃v,∀K,abin op k a b K↔K v)∨(∀K,¬abin op k a b K):=by
 cases op<;>simp only[abin]
 all_goals first
  |exact .inl ⟨_,fun K=>Iff.rfl⟩
  |exact .inr (fun K h=>h)
  |(by_cases hb:b=0
    ·exact .inr (fun K h=>h.1 hb)
    ·exact .inl ⟨_,fun K=>⟨fun h=>h.2,fun h=>⟨hb,h⟩⟩⟩)
theorem ashift_det {op:BinOp} {k:IntKind} {a b:Int}:(∃v,∀K,ashift op k a b K↔K v)∨(∀K,¬ashift op k a b K):=by
 cases op<;>simp only[ashift]
 all_goals first
  |exact .inr (fun K h=>h)
  |(by_cases hb:0≤b
    ·exact .inl ⟨_,fun K=>⟨fun h=>h.2,fun h=>⟨hb,h⟩⟩⟩
    ·exact .inr (fun K h=>hb h.1))
theorem abinV_det {op:BinOp} {x y:AV}:(∃v,∀K,abinV op x y K↔K v)∨(∀K,¬abinV op x y K):=by
 unfold abinV
 split
 ·rename_i k a k' b
  split
  ·exact ashift_det
  ·exact ashift_det
  ·by_cases hk:k=k'
   ·subst hk
    rcases abin_det (op:=op) (k:=k) (a:=a) (b:=b) with⟨v,hv⟩|hv
    ·exact .inl ⟨v,fun K=>⟨fun h=>(hv K).1 h.2,fun h=>⟨rfl,(hv K).2 h⟩⟩⟩
    ·exact .inr (fun K h=>hv K h.2)
   ·exact .inr (fun K h=>hk h.1)
 ·exact .inr (fun K h=>h)
theorem mnxs_det {mx:Bool} {k:IntKind}:∀{a:Int} {ys:List AV},(∃v,∀K,mnxs mx k a ys K↔K v)∨(∀K,¬mnxs mx k a ys K)
 |a,[]=> .inl ⟨_,fun K=>Iff.rfl⟩
 |a,y::ys=>by
  cases y with
  |int k' b=>
   by_cases hk:k=k'
   ·rcases mnxs_det (mx:=mx) (k:=k) (a:=if mx then max a b else min a b) (ys:=ys) with⟨v,hv⟩|hv
    ·exact .inl ⟨v,fun K=>⟨fun h=>(hv K).1 h.2,fun h=>⟨hk,(hv K).2 h⟩⟩⟩
    ·exact .inr (fun K h=>hv K h.2)
   ·exact .inr (fun K h=>hk h.1)
  |_=>exact .inr (fun K h=>h)
theorem det_pure {P:Program} {o:AOp} (ho:o.pure=true) (ρ:Env):Det P o ρ:=by
 unfold Det
 cases o with
 |mv x=>exact .inl ⟨_,fun h K=>Iff.rfl⟩
 |pick c a b=>
  simp only[aexec]
  split
  ·exact .inl ⟨_,fun h K=>Iff.rfl⟩
  ·exact .inr (fun h K hk=>hk)
 |bin op x y=>
  rcases abinV_det (op:=op) (x:=aev ρ x) (y:=aev ρ y) with⟨v,hv⟩|hv
  ·exact .inl ⟨v,fun h K=>hv (fun v=>K v h)⟩
  ·exact .inr (fun h K=>hv (fun v=>K v h))
 |beq ng x y=>
  simp only[aexec]
  split
  ·exact .inl ⟨_,fun h K=>Iff.rfl⟩
  ·exact .inr (fun h K hk=>hk)
 |peq ng x y=>
  simp only[aexec]
  split
  ·exact .inl ⟨_,fun h K=>Iff.rfl⟩
  ·exact .inl ⟨_,fun h K=>Iff.rfl⟩
  ·exact .inr (fun h K hk=>hk)
 |seq ng x y=>
  simp only[aexec]
  split
  ·exact .inl ⟨_,fun h K=>Iff.rfl⟩
  ·exact .inr (fun h K hk=>hk)
 |cat x y=>
  simp only[aexec]
  split
  ·rename_i s1 s2 e1 e2
   by_cases hc:s1.size+s2.size<9223372036854775808
   ·exact .inl ⟨_,fun h K=>⟨fun hk=>hk.2,fun hk=>⟨hc,hk⟩⟩⟩
   ·exact .inr (fun h K hk=>hc hk.1)
  ·exact .inr (fun h K hk=>hk)
 |aeq ng n x y=>
  simp only[aexec]
  split
  ·rename_i l m e1 e2
   by_cases hc:l.length=n∧m.length=n
   ·cases hb:eqs l m with
    |none=>exact .inr (fun h K hk=>by obtain⟨_,_,b,h1,_⟩:=hk;cases h1)
    |some b=>exact .inl ⟨.bool (ng !=b),fun h K=>⟨fun hk=>by obtain⟨_,_,b',h1,h2⟩:=hk;injection h1 with h1;subst h1;exact h2,fun hk=>⟨hc.1,hc.2,b,rfl,hk⟩⟩⟩
   ·exact .inr (fun h K hk=>hc ⟨hk.1,hk.2.1⟩)
  ·exact .inr (fun h K hk=>hk)
 |idxV sz m z x i=>
  simp only[aexec]
  split
  ·rename_i l k n e1 e2
   by_cases hb:0≤n∧n<m
   ·cases sz with
    |none=>
     cases hl:l[n.toNat*z]? with
     |none=>exact .inr (fun h K hk=>by simp[hl] at hk)
     |some v=>exact .inl ⟨v,fun h K=>by simp[hb.1,hb.2,hl]⟩
    |some s=>
     by_cases hc:n.toNat*z+s≤l.length
     ·exact .inl ⟨_,fun h K=>⟨fun h=>h.2.2.2,fun h=>⟨hb.1,hb.2,hc,h⟩⟩⟩
     ·exact .inr (fun h K hk=>hc hk.2.2.1)
   ·exact .inr (fun h K hk=>hb ⟨hk.1,hk.2.1⟩)
  ·exact .inr (fun h K hk=>hk)
 |idxS x i=>
  simp only[aexec]
  split
  ·rename_i s k n e1 e2
   cases hb:s[n.toNat]? with
   |none=>exact .inr (fun h K hk=>by obtain⟨_,b,h1,_⟩:=hk;cases h1)
   |some b=>
    by_cases h0:0≤n
    ·exact .inl ⟨.int .u8 b.toNat,fun h K=>⟨fun hk=>by obtain⟨_,b',h1,h2⟩:=hk;injection h1 with h1;subst h1;exact h2,fun hk=>⟨h0,b,rfl,hk⟩⟩⟩
    ·exact .inr (fun h K hk=>h0 hk.1)
  ·exact .inr (fun h K hk=>hk)
 |un op x=>
  simp only[aexec]
  split
  ·exact .inl ⟨_,fun h K=>Iff.rfl⟩
  ·exact .inl ⟨_,fun h K=>Iff.rfl⟩
  ·exact .inl ⟨_,fun h K=>Iff.rfl⟩
  ·exact .inr (fun h K hk=>hk)
 |cvI k x=>
  simp only[aexec]
  split
  ·exact .inl ⟨_,fun h K=>Iff.rfl⟩
  ·exact .inr (fun h K hk=>hk)
 |idx z x i=>
  simp only[aexec]
  split
  ·rename_i id off len c k n e1 e2
   by_cases hb:0≤n∧n<len
   ·exact .inl ⟨_,fun h K=>⟨fun h=>h.2.2,fun h=>⟨hb.1,hb.2,h⟩⟩⟩
   ·exact .inr (fun h K hk=>hb ⟨hk.1,hk.2.1⟩)
  ·exact .inr (fun h K hk=>hk)
 |idxA m z x i=>
  simp only[aexec]
  split
  ·rename_i n e1 e2
   by_cases hb:0≤n∧n<m
   ·exact .inl ⟨_,fun h K=>⟨fun h=>h.2.2,fun h=>⟨hb.1,hb.2,h⟩⟩⟩
   ·exact .inr (fun h K hk=>hb ⟨hk.1,hk.2.1⟩)
  ·rename_i n e1 e2
   by_cases hb:0≤n∧n<m
   ·exact .inl ⟨_,fun h K=>⟨fun h=>h.2.2,fun h=>⟨hb.1,hb.2,h⟩⟩⟩
   ·exact .inr (fun h K hk=>hb ⟨hk.1,hk.2.1⟩)
  ·exact .inr (fun h K hk=>hk)
 |fld off x=>
  simp only[aexec]
  split
  ·exact .inl ⟨_,fun h K=>Iff.rfl⟩
  ·exact .inr (fun h K hk=>hk)
 |nn x=>
  simp only[aexec]
  split
  ·exact .inl ⟨_,fun h K=>Iff.rfl⟩
  ·exact .inr (fun h K hk=>hk)
 |prt sz off x=>
  simp only[aexec]
  split
  ·rename_i l e1
   cases sz with
   |none=>
    simp only
    cases hl:l[off]? with
    |none=>exact .inr (fun h K hk=>by simp at hk)
    |some v=>exact .inl ⟨v,fun h K=>by simp⟩
   |some n=>
    by_cases hb:off+n≤l.length
    ·exact .inl ⟨_,fun h K=>⟨fun h=>h.2,fun h=>⟨hb,h⟩⟩⟩
    ·exact .inr (fun h K hk=>hb hk.1)
  ·exact .inr (fun h K hk=>hk)
 |bld zr ps=>
  simp only[aexec]
  cases hl:abuild zr (ps.map fun p=>(p.1,p.2.1,aev ρ p.2.2)) with
  |none=>exact .inr (fun h K hk=>by simp at hk)
  |some v=>exact .inl ⟨.agg v,fun h K=>by simp⟩
 |len str x=>
  simp only[aexec]
  split
  ·exact .inl ⟨_,fun h K=>Iff.rfl⟩
  ·exact .inl ⟨_,fun h K=>Iff.rfl⟩
  ·exact .inr (fun h K hk=>hk)
 |capo x=>
  simp only[aexec]
  split
  ·exact .inl ⟨_,fun h K=>Iff.rfl⟩
  ·exact .inr (fun h K hk=>hk)
 |mnx mx x ys=>
  simp only[aexec]
  split
  ·rename_i k a e1
   rcases mnxs_det (mx:=mx) (k:=k) (a:=a) (ys:=ys.map (aev ρ)) with⟨v,hv⟩|hv
   ·exact .inl ⟨v,fun h K=>hv (fun v=>K v h)⟩
   ·exact .inr (fun h K=>hv (fun v=>K v h))
  ·exact .inr (fun h K hk=>hk)
 |mkf f a b=>exact .inl ⟨_,fun h K=>Iff.rfl⟩
 |ext x i=>
  simp only[aexec]
  split
  ·rename_i l e1
   cases hl:l[i]? with
   |none=>exact .inr (fun h K hk=>by simp at hk)
   |some v=>exact .inl ⟨v,fun h K=>by simp⟩
  ·exact .inr (fun h K hk=>hk)
 |_=>simp[AOp.pure,AOp.ne] at ho
theorem bound_det {ρ:Env} {d:Nat} {lo:Option AO}:(∃m,∀K,boundOf ρ d lo K↔K m)∨(∀K,¬boundOf ρ d lo K):=by
 unfold boundOf
 cases lo with
 |none=>exact .inl ⟨d,fun K=>Iff.rfl⟩
 |some x=>
  simp only
  split
  ·rename_i k n e
   by_cases hb:0≤n
   ·exact .inl ⟨_,fun K=>⟨fun h=>h.2,fun h=>⟨hb,h⟩⟩⟩
   ·exact .inr (fun K h=>hb h.1)
  ·exact .inr (fun K h=>h)
theorem det {P:Program} {o:AOp} (ho:o.ne=true) (ρ:Env) (h:H):(∃v,∀K,aexec P o ρ h K↔K v h)∨(∀K,¬aexec P o ρ h K):=by
 by_cases hp:o.pure=true
 ·rcases det_pure (P:=P) hp ρ with⟨v,hv⟩|hv
  ·exact .inl ⟨v,hv h⟩
  ·exact .inr (hv h)
 ·cases o with
  |bts x=>
   simp only[aexec]
   split
   ·rename_i id off n c e
    cases hr:h.rows id with
    |none=>exact .inr (fun K hk=>by simp at hk)
    |some r=>
     by_cases hb:0<n∧off+n≤r.cells.length∧allU8 ((r.cells.drop off).take n)=true
     ·exact .inl ⟨_,fun K=>⟨fun hk=>by obtain⟨r',h1,h2,h3,h4,h5⟩:=hk;injection h1 with h1;subst h1;exact h5,fun hk=>⟨r,rfl,hb.1,hb.2.1,hb.2.2,hk⟩⟩⟩
     ·exact .inr (fun K hk=>by obtain⟨r',h1,h2,h3,h4,h5⟩:=hk;injection h1 with h1;subst h1;exact hb ⟨h2,h3,h4⟩)
   ·exact .inr (fun K hk=>hk)
  |ld sz p=>
   simp only[aexec]
   split
   ·rename_i id off e
    cases hr:h.rows id with
    |none=>cases sz<;>exact .inr (fun K hk=>by simp at hk)
    |some r=>
     cases sz with
     |none=>
      simp only
      cases hl:r.cells[off]? with
      |none=>exact .inr (fun K hk=>by obtain⟨r',v,h1,h2,_⟩:=hk;injection h1 with h1;subst h1;rw[hl] at h2;cases h2)
      |some v=>exact .inl ⟨v,fun K=>⟨fun hk=>by obtain⟨r',v',h1,h2,h3⟩:=hk;injection h1 with h1;subst h1;rw[hl] at h2;injection h2 with h2;subst h2;exact h3,fun hk=>⟨r,v,rfl,hl,hk⟩⟩⟩
     |some n=>
      simp only
      by_cases hb:off+n≤r.cells.length
      ·exact .inl ⟨_,fun K=>⟨fun hk=>by obtain⟨r',h1,h2,h3⟩:=hk;injection h1 with h1;subst h1;exact h3,fun hk=>⟨r,rfl,hb,hk⟩⟩⟩
      ·exact .inr (fun K hk=>by obtain⟨r',h1,h2,_⟩:=hk;injection h1 with h1;subst h1;exact hb h2)
   ·rename_i g off e
    cases sz with
    |none=>
     simp only
     cases hg:gcell g off with
     |none=>exact .inr (fun K hk=>by obtain⟨n,h1,_⟩:=hk;cases h1)
     |some n=>exact .inl ⟨.int .u8 n,fun K=>⟨fun hk=>by obtain⟨n',h1,h2⟩:=hk;injection h1 with h1;subst h1;exact h2,fun hk=>⟨n,rfl,hk⟩⟩⟩
    |some n=>exact .inr (fun K hk=>hk)
   ·exact .inr (fun K hk=>hk)
  |slc z x lo hi=>
   simp only[aexec]
   split
   ·rename_i id off len cap e
    rcases bound_det (ρ:=ρ) (d:=len) (lo:=hi) with⟨b,hb⟩|hb
    ·simp only[hb]
     rcases bound_det (ρ:=ρ) (d:=0) (lo:=lo) with⟨a,ha⟩|ha
     ·simp only[ha]
      by_cases hc:a≤b∧(b≤len∨∃c,cap=some c∧b≤c)∧(∀i,id=some i→∃r,h.rows i=some r∧(r.own=none∨r.esz=z))
      ·exact .inl ⟨_,fun K=>⟨fun hk=>hk.2.2.2,fun hk=>⟨hc.1,hc.2.1,hc.2.2,hk⟩⟩⟩
      ·exact .inr (fun K hk=>hc ⟨hk.1,hk.2.1,hk.2.2.1⟩)
     ·exact .inr (fun K hk=>ha _ hk)
    ·exact .inr (fun K hk=>hb _ hk)
   ·exact .inr (fun K hk=>hk)
  |_=>simp_all [AOp.pure,AOp.ne]
end
section
theorem ACalls.mono {P:Program} {f:FuncId} {avs:List AV} {h:H} {K K':AV→H→Prop} (hk:∀v h',K v h'→K' v h') (hc:ACalls P f avs h K):ACalls P f avs h K':=by
 intro base w0 μ w vs R hr
 rcases hc base w0 μ w vs R hr with⟨h1,h2⟩|⟨v,h1,μ',r,h',q1,q2,q3,q4⟩
 ·refine .inl ⟨h1,h2.mono ?_⟩
  rintro e w' ⟨v,rfl,μ',r,h',q1,q2,q3,q4⟩
  exact⟨v,rfl,μ',r,h',q1,q2,q3,hk _ _ q4⟩
 ·exact .inr ⟨v,h1,μ',r,h',q1,q2,q3,hk _ _ q4⟩
theorem aexec_mono {P:Program} {o:AOp} {ρ:Env} {h:H} {K K':AV→H→Prop} (hk:∀v h',K v h'→K' v h') (hx:aexec P o ρ h K):aexec P o ρ h K':=by
 by_cases hn:o.ne=true
 ·rcases det (P:=P) hn ρ h with⟨v,hv⟩|hv
  ·exact(hv K').2 (hk v h ((hv K).1 hx))
  ·exact absurd hx (hv K)
 ·cases o with
  |st n p v=>
   simp only[aexec] at hx⊢
   split at hx
   ·obtain⟨r,h1,h2,h3,h4,h5,h6,h7⟩:=hx;exact⟨r,h1,h2,h3,h4,h5,h6,hk _ _ h7⟩
   ·exact hx
  |mk e z b zr l c=>
   simp only[aexec] at hx⊢
   split at hx
   ·exact⟨hx.1,hx.2.1,hx.2.2.1,hk _ _ hx.2.2.2⟩
   ·exact hx
  |bsl e z n zr ps=>
   simp only[aexec] at hx⊢
   obtain⟨l,h1,h2⟩:=hx
   exact⟨l,h1,hk _ _ h2⟩
  |box e x=>exact⟨hx.1,hk _ _ hx.2⟩
  |alloc e zr=>exact hk _ _ hx
  |app e z b s x=>
   simp only[aexec] at hx⊢
   split at hx
   ·refine⟨fun h0=>hk _ _ (hx.1 h0),fun h0=> ?_⟩
    obtain⟨j,r,h1,h2,h3,h4,h5,h6,h7⟩:=hx.2 h0
    refine⟨j,r,h1,h2,h3,h4,h5,h6, ?_⟩
    rcases h7 with⟨a1,a2,a3⟩|⟨i,q,a1,a2,a3,a4,a5,a6,a7⟩
    ·exact .inl ⟨a1,a2,hk _ _ a3⟩
    ·exact .inr ⟨i,q,a1,a2,a3,a4,a5,a6,hk _ _ a7⟩
   ·exact hx
  |cpy z d s=>
   simp only[aexec] at hx⊢
   split at hx
   ·refine⟨fun h0=>hk _ _ (hx.1 h0),fun h0=> ?_⟩
    obtain⟨i,q,j,r,h1,h2,h3,h4,h5,h6,h7,h8,h9⟩:=hx.2 h0
    exact⟨i,q,j,r,h1,h2,h3,h4,h5,h6,h7,h8,hk _ _ h9⟩
   ·exact hx
  |call f asx=>exact hx.mono hk
  |callV x asx=>
   simp only[aexec] at hx⊢
   split at hx
   ·exact hx.mono hk
   ·exact hx
  |bad=>exact hx
  |_=>exact absurd rfl hn
section
variable {P:Program}
theorem astep_mono {g:Option (Nat×Bool)} {o:AOp} {ρ:Env} {h:H} {K K':AV→H→Prop} (hk:∀v h',K v h'→K' v h') (hx:astep P g o ρ h K):astep P g o ρ h K':=by
 unfold astep at*
 split at hx
 ·exact aexec_mono hk hx
 ·split at hx
  ·split at hx
   ·rename_i hc;rw[if_pos hc];exact aexec_mono hk hx
   ·rename_i hc;rw[if_neg hc];exact hk _ _ hx
  ·exact hk _ _ hx
  ·exact hx
theorem astep_congr {g:Option (Nat×Bool)} {o:AOp} {ρ ρ':Env} {h:H} {K:AV→H→Prop} (hr:∀t∈grd g++o.rds,ρ t=ρ' t):astep P g o ρ h K↔astep P g o ρ' h K:=by
 unfold astep
 cases g with
 |none=>exact aexec_congr (fun t ht=>hr t (by simpa [grd] using ht))
 |some p=>
  obtain⟨t,b⟩:=p
  have e:ρ t=ρ' t:=hr t (by simp[grd])
  simp only[e]
  have e2:=aexec_congr (P:=P) (o:=o) (ρ:=ρ) (ρ':=ρ') (h:=h) (K:=K) (fun t ht=>hr t (by simp[ht]))
  split
  ·split
   ·exact e2
   ·exact Iff.rfl
  ·exact Iff.rfl
  ·exact Iff.rfl
theorem sdet {g:Option (Nat×Bool)} {o:AOp} (ho:o.ne=true) (ρ:Env) (h:H):(∃v,∀K,astep P g o ρ h K↔K v h)∨(∀K,¬astep P g o ρ h K):=by
 unfold astep
 cases g with
 |none=>exact det ho ρ h
 |some p=>
  obtain⟨t,b⟩:=p
  simp only
  split
  ·split
   ·exact det ho ρ h
   ·exact .inl ⟨.tup [],fun K=>Iff.rfl⟩
  ·exact .inl ⟨.tup [],fun K=>Iff.rfl⟩
  ·exact .inr (fun K hk=>hk)
theorem sdet_pure {g:Option (Nat×Bool)} {o:AOp} (ho:o.pure=true) (ρ:Env):(∃v,∀h K,astep P g o ρ h K↔K v h)∨(∀h K,¬astep P g o ρ h K):=by
 unfold astep
 cases g with
 |none=>exact det_pure ho ρ
 |some p=>
  obtain⟨t,b⟩:=p
  simp only
  split
  ·split
   ·exact det_pure ho ρ
   ·exact .inl ⟨.tup [],fun h K=>Iff.rfl⟩
  ·exact .inl ⟨.tup [],fun h K=>Iff.rfl⟩
  ·exact .inr (fun h K hk=>hk)
def AOper.looks (o:AOper):List Nat:=grd o.g++o.op.rds
def apartB (x y:AOper):Bool:=
 (match x.dst with
  |some d=> !(y.looks).contains d&&y.dst !=some d
  |none=>true)&&
 (match y.dst with
  |some d=> !(x.looks).contains d
  |none=>true)
theorem apartB_spec {x y:AOper} (h:apartB x y=true):(∀d,x.dst=some d→d ∉ y.looks)∧(∀d,x.dst=some d→y.dst≠some d)∧(∀d,y.dst=some d→d ∉ x.looks):=by
 refine⟨fun d hd=> ?_,fun d hd=> ?_,fun d hd=> ?_⟩<;>simp[apartB,hd] at h
 ·exact h.1.1
 ·exact h.1.2
 ·exact h.2
def stableB (x y:AOper):Bool:=
 match y.dst with
 |some d=> !(x.looks).contains d&&x.dst !=some d
 |none=>true
theorem stableB_spec {x y:AOper} (h:stableB x y=true):∀d,y.dst=some d→d ∉ x.looks∧x.dst≠some d:=by
 intro d hd
 simp[stableB,hd] at h
 exact h
def selfB (x:AOper):Bool:=match x.dst with
 |some d=> !(x.looks).contains d
 |none=>true
theorem aput_ne {ρ:Env} {d:Option Nat} {v:AV} {t:Nat} (h:d≠some t):aput ρ d v t=ρ t:=by
 cases d with
 |none=>rfl
 |some d=>simp only[aput,upd];rw[if_neg (fun e=>h (by rw[e]))]
theorem aput_eq {ρ:Env} {d:Nat} {v:AV}:aput ρ (some d) v d=v:=by simp[aput,upd]
theorem aput_comm {ρ:Env} {d e:Option Nat} {u v:AV} (h:∀x,d=some x→e≠some x):aput (aput ρ d u) e v=aput (aput ρ e v) d u:=by
 cases d with
 |none=>rfl
 |some d=>
  cases e with
  |none=>rfl
  |some e=>
   funext t
   simp only[aput,upd]
   by_cases h1:t=e
   ·by_cases h2:t=d
    ·exact absurd (by rw[←h1,h2]) (h d rfl)
    ·simp[h1,show e≠d from fun x=>h2 (by rw[h1,x])]
   ·simp[h1]
inductive NErun (P:Program) (h:H):List AOper→Env→Env→Prop
 |nil (ρ:Env):NErun P h [] ρ ρ
 |cons {o:AOper} {os:List AOper} {ρ ρ1:Env} {v:AV} (hv:∀K,astep P o.g o.op ρ h K↔K v h) (hr:NErun P h os (aput ρ o.dst v) ρ1):NErun P h (o::os) ρ ρ1
theorem NErun.back {h:H} {pre:List AOper} {ρ ρ1:Env} (hr:NErun P h pre ρ ρ1) (hc:∀j∈pre,j.chks=[]) {os:List AOper} {Q:Env→H→Prop} (ho:aops P os Q ρ1 h):aops P (pre++os) Q ρ h:=by
 induction hr with
 |nil ρ=>exact ho
 |cons hv hr ih=>
  simp only[List.cons_append,aops]
  rw[hv,hc _ (by simp)]
  exact⟨trivial,ih (fun j hj=>hc j (by simp[hj])) ho⟩
theorem NErun.of {h:H} {os:List AOper} {Q:Env→H→Prop}:∀{pre:List AOper} {ρ:Env},(∀j∈pre,j.op.ne=true)→aops P (pre++os) Q ρ h→∃ρ1,NErun P h pre ρ ρ1∧aops P os Q ρ1 h
 |[],ρ,_,ho=>⟨ρ, .nil ρ,ho⟩
 |o::pre,ρ,hn,ho=>by
  simp only[List.cons_append,aops] at ho
  rcases sdet (P:=P) (g:=o.g) (hn o (by simp)) ρ h with⟨v,hv⟩|hv
  ·rw[hv] at ho
   obtain⟨ρ1,h1,h2⟩:=NErun.of (fun j hj=>hn j (by simp[hj])) ho.2
   exact⟨ρ1, .cons hv h1,h2⟩
  ·exact absurd ho (hv _)
theorem NErun.out {h:H} {pre:List AOper} {ρ ρ1:Env} (hr:NErun P h pre ρ ρ1) {t:Nat} (ht:∀j∈pre,j.dst≠some t):ρ1 t=ρ t:=by
 induction hr with
 |nil ρ=>rfl
 |cons hv hr ih=>rw[ih (fun j hj=>ht j (by simp[hj])),aput_ne (ht _ (by simp))]
theorem NErun.again {h:H} {pre:List AOper} {ρ ρ1:Env} (hr:NErun P h pre ρ ρ1):(pre.Pairwise fun j k=>j.op.pure=true∨stableB j k=true)→(∀j∈pre,j.op.pure=true∨selfB j=true)→∀{j:AOper},j∈pre→¬j.op.pure=true→achk P ρ1 h (j.dst,j.g,j.op):=by
 induction hr with
 |nil ρ=>intro _ _ j hj;simp at hj
 | @cons o os ρ ρ1 v hv hr ih=>
  intro hp hs j hj hpu
  rcases List.mem_cons.1 hj with rfl|hj
  ·have hself:=(hs j (by simp)).resolve_left hpu
   have hst:∀k∈os,stableB j k=true:=fun k hk=>((List.pairwise_cons.1 hp).1 k hk).resolve_left hpu
   have hlook:∀t∈j.looks,ρ1 t=ρ t:=by
    intro t ht
    rw[hr.out (fun k hk e=>(stableB_spec (hst k hk) t e).1 ht),aput_ne (fun e=>by
     simp[selfB,e] at hself
     exact hself ht)]
   refine(astep_congr (fun t ht=>hlook t ht)).2 ((hv _).2 (fun d hd=> ?_))
   have hd':j.dst=some d:=hd
   rw[hr.out (fun k hk e=>(stableB_spec (hst k hk) d e).2 hd),hd',aput_eq]
  ·exact ih (List.pairwise_cons.1 hp).2 (fun k hk=>hs k (by simp[hk])) hj hpu
theorem NErun.over {h h':H} {di:Option Nat} {u:AV}:∀{pre:List AOper} {ρ ρ1:Env},NErun P h pre ρ ρ1→(∀j∈pre,j.op.ne=true)→(∀j∈pre,∀d,di=some d→d ∉ j.looks∧j.dst≠some d)→
  (pre.Pairwise fun j k=>j.op.pure=true∨stableB j k=true)→(∀j∈pre,j.op.pure=true∨selfB j=true)→
  (∀j∈pre,j.op.pure=true∨achk P ρ1 h' (j.dst,j.g,j.op))→NErun P h' pre (aput ρ di u) (aput ρ1 di u):=by
 intro pre ρ ρ1 hr
 induction hr with
 |nil ρ=>intro _ _ _ _ _;exact .nil _
 | @cons o os ρ ρ1 v hv hr ih=>
  intro hn hd hp hs hc
  have hdo:=hd o (by simp)
  have hcong:∀(h:H) (K:AV→H→Prop),astep P o.g o.op (aput ρ di u) h K↔astep P o.g o.op ρ h K:=fun h K=>astep_congr (fun t ht=>aput_ne (fun e=>(hdo t e).1 ht))
  have hcomm:∀v,aput (aput ρ di u) o.dst v=aput (aput ρ o.dst v) di u:=fun v=>aput_comm (fun x hx=>(hdo x hx).2)
  have hrest:=ih (fun j hj=>hn j (by simp[hj])) (fun j hj=>hd j (by simp[hj])) (List.pairwise_cons.1 hp).2 (fun j hj=>hs j (by simp[hj])) (fun j hj=>hc j (by simp[hj]))
  by_cases hpure:o.op.pure=true
  ·have hv':∀K,astep P o.g o.op ρ h' K↔K v h':=by
    rcases sdet_pure (P:=P) (g:=o.g) hpure ρ with⟨v',hv'⟩|hv'
    ·have:v=v':=((hv (fun x _=>x=v')).1 ((hv' h (fun x _=>x=v')).2 rfl))
     subst this
     exact hv' h'
    ·exact absurd ((hv (fun _ _=>True)).2 trivial) (hv' h _)
   refine .cons (v:=v) (fun K=>(hcong h' K).trans (hv' K)) ?_
   rw[hcomm]
   exact hrest
  ·have hst:∀k∈os,stableB o k=true:=fun k hk=>((List.pairwise_cons.1 hp).1 k hk).resolve_left hpure
   have hself:=(hs o (by simp)).resolve_left hpure
   have hchk:=(hc o (by simp)).resolve_left hpure
   have hlook:∀t∈o.looks,ρ1 t=ρ t:=by
    intro t ht
    rw[hr.out (fun j hj e=>(stableB_spec (hst j hj) t e).1 ht),aput_ne (fun e=>by
     simp[selfB,e] at hself
     exact hself ht)]
   have hchk':astep P o.g o.op ρ h' (fun x _=>∀d,o.dst=some d→x=ρ1 d):=(astep_congr (fun t ht=>hlook t ht)).1 hchk
   rcases sdet (P:=P) (g:=o.g) (hn o (by simp)) ρ h' with⟨v',hv'⟩|hv'
   ·have h1:=(hv' _).1 hchk'
    have h2:aput (aput ρ o.dst v') di u=aput (aput ρ o.dst v) di u:=by
     cases hdst:o.dst with
     |none=>rfl
     |some d=>
      have:v'=v:=by
       rw[h1 d hdst,hr.out (fun j hj e=>(stableB_spec (hst j hj) d e).2 hdst),hdst,aput_eq]
      rw[this]
    refine .cons (v:=v') (fun K=>(hcong h' K).trans (hv' K)) ?_
    rw[hcomm,h2]
    exact hrest
   ·exact absurd hchk' (hv' _)
theorem achks_mem {ρ:Env} {h:H}:∀{l:List (Option Nat×Option (Nat×Bool)×AOp)},achks P ρ h l→∀c∈l,achk P ρ h c
 |[],_,c,hc=>by simp at hc
 |d::l,hl,c,hc=>by
  rcases List.mem_cons.1 hc with rfl|hc
  ·exact hl.1
  ·exact achks_mem hl.2 c hc
theorem pull {pre rest:List AOper} {i:AOper} {Q:Env→H→Prop} {ρ:Env} {h:H} (ho:aops P (pre++i::rest) Q ρ h) (hn:∀j∈pre,j.op.ne=true) (hch:∀j∈pre,j.chks=[]) (ha:∀j∈pre,apartB j i=true)
  (hp:pre.Pairwise fun j k=>j.op.pure=true∨stableB j k=true) (hs:∀j∈pre,j.op.pure=true∨selfB j=true) (hc:∀j∈pre,j.op.pure=true∨i.op.ne=true∨(j.dst,j.g,j.op)∈i.chks):
  astep P i.g i.op ρ h (fun u h'=>aops P (pre++rest) Q (aput ρ i.dst u) h'):=by
 obtain⟨ρ1,hr,ho⟩:=NErun.of hn ho
 simp only[aops] at ho
 have hlook:∀t∈i.looks,ρ1 t=ρ t:=fun t ht=>hr.out (fun j hj e=>(apartB_spec (ha j hj)).1 t e ht)
 have hdj:∀j∈pre,∀d,i.dst=some d→d ∉ j.looks∧j.dst≠some d:=fun j hj d hd=>⟨(apartB_spec (ha j hj)).2.2 d hd,fun e=>(apartB_spec (ha j hj)).2.1 d e hd⟩
 have ho':=(astep_congr (P:=P) (g:=i.g) (o:=i.op) (fun t ht=>hlook t ht)).1 ho
 by_cases hi:i.op.ne=true
 ·rcases sdet (P:=P) (g:=i.g) hi ρ h with⟨v,hv⟩|hv
  ·rw[hv] at ho'⊢
   refine NErun.back (hr.over (h':=h) hn hdj hp hs (fun j hj=> ?_)) hch ho'.2
   --memory is asx it was
   by_cases hpu:j.op.pure=true
   ·exact .inl hpu
   ·refine .inr ?_
    exact hr.again hp hs hj hpu
  ·exact absurd ho' (hv _)
 ·refine astep_mono (fun u h' hk=> ?_) ho'
  refine NErun.back (hr.over (h':=h') hn hdj hp hs (fun j hj=> ?_)) hch hk.2
  rcases hc j hj with h1|h1|h1
  ·exact .inl h1
  ·exact absurd h1 hi
  ·exact .inr (achks_mem hk.1 _ h1)
end
end
section
section
variable (P:Program) (n:Nat)
def dstOk (d:Option Tmp):Bool:=match d with|some d=>decide (d<n)|none=>true
def comp (ops:Array Oper) (o:Oper):Option AOper:=
 if dstOk n o.dst=true then
  match o.guard with
  |none=>some ⟨o.dst,none,compileOp P n o.op,[]⟩
  |some (j,b)=>match(ops[j]?).bind (·.dst) with
   |some d=>if d<n then some ⟨o.dst,some (d,b),compileOp P n o.op,[]⟩ else none
   |none=>none
 else none
def Sim (base:Nat) (w0:World) (μ0:Mu) (ρ:Env) (h:H) (a:Act) (w:World):Prop:=∃μ,μ0.le μ∧RelT n μ ρ a∧Rep base w0 μ w h∧a.defers=[]
end
section
variable {P:Program} {n:Nat} {base:Nat} {w0:World} {μ0:Mu}
theorem RelT.put {μ:Mu} {ρ:Env} {a:Act} (hr:RelT n μ ρ a) {dst:Option Nat} {v:AV} {rv:Value} (hd:dstOk n dst=true) (hv:Rel μ v rv):RelT n μ (aput ρ dst v) (a.put dst rv):=by
 cases dst with
 |none=>exact hr
 |some d=>
  have hd':d<n:=by simpa [dstOk] using hd
  refine⟨by simp[Act.put,hr.1],fun t ht=> ?_⟩
  have hs:a.tmps.size=n:=hr.1
  by_cases e:t=d
  ·subst e
   simp only[aput,upd,if_true,Act.put]
   simpa [Array.getD,hs,ht] using hv
  ·rw[aput_ne (fun x=>e (by injection x with x;exact x.symm))]
   have e2:(a.tmps.setIfInBounds d rv).getD t undef=a.tmps.getD t undef:=by simp[Array.getD_eq_getD_getElem?,Ne.symm e]
   show Rel μ (ρ t) ((a.tmps.setIfInBounds d rv).getD t undef)
   rw[e2]
   exact hr.2 t ht
theorem RelT.mono {μ μ':Mu} (h:μ.le μ') {ρ:Env} {a:Act} (hr:RelT n μ ρ a):RelT n μ' ρ a:=⟨hr.1,fun t ht=>(hr.2 t ht).mono h⟩
theorem put_defers (a:Act) (d:Option Tmp) (v:Value):(a.put d v).defers=a.defers:=by cases d<;>rfl
theorem step_sound {ops:Array Oper} {i:Nat} {o:Oper} {oi:AOper} {ρ:Env} {h:H} {K:AV→H→Prop} {next:Act→World→Prop} {Q:Exit→Act→World→Prop} {a:Act} {w:World}
  (hi:ops[i]? =some o) (hc:comp P n ops o=some oi) (hx:astep P oi.g oi.op ρ h K) (hs:Sim n base w0 μ0 ρ h a w)
  (hn:∀v h' a' w',K v h'→Sim n base w0 μ0 (aput ρ oi.dst v) h' a' w'→next a' w'):wpOp P ops Q i next a w:=by
 obtain⟨μ,hle,hT,hR,hdf⟩:=hs
 unfold comp at hc
 split at hc
 ·rename_i hd
  have fin:oi.dst=o.dst→∀rv w',Fin base w0 μ K rv w'→next (a.put o.dst rv) w':=by
   rintro he rv w' ⟨μ',v,h',q1,q2,q3,q4⟩
   refine hn v h' _ w' q4 ⟨μ',Mu.le_trans hle q1, ?_,q3,by rw[put_defers];exact hdf⟩
   rw[he]
   exact(hT.mono q1).put hd q2
  unfold wpOp
  rw[hi]
  simp only
  split at hc
  ·rename_i hg
   injection hc with hc
   subst hc
   have hw:Region.wanted o (yielded ops a.tmps)=true:=by simp[Region.wanted,hg]
   rw[if_pos hw]
   exact .inl (op_sound hx hT hR (fin rfl))
  ·rename_i j b hg
   split at hc
   ·rename_i d hd'
    split at hc
    ·rename_i hdn
     injection hc with hc
     subst hc
     simp only[astep] at hx
     have hrel:=hT.2 d hdn
     split at hx
     ·rename_i c hρ
      rw[hρ] at hrel
      have hget:a.tmps.getD d undef= .bool c:=by
       cases hv:a.tmps.getD d undef<;>rw[hv] at hrel<;>cases hrel
       rfl
      have hy:yielded ops a.tmps j=some c:=by
       have hsz:d<a.tmps.size:=by rw[hT.1];exact hdn
       have:a.tmps[d]? =some (.bool c):=by
        rw[Array.getElem?_eq_getElem hsz]
        simp only[Array.getD,hsz,dif_pos] at hget
        exact congrArg some hget
       simp[yielded,hd',this]
      have hwant:Region.wanted o (yielded ops a.tmps)=(c==b):=by
       simp only[Region.wanted,hg,hy]
       cases c<;>cases b<;>rfl
      rw[hwant]
      split at hx
      ·rename_i hcb
       rw[if_pos (by simp[hcb])]
       exact .inl (op_sound hx hT hR (fin rfl))
      ·rename_i hcb
       rw[if_neg (by simp[hcb])]
       exact hn (.tup []) h _ w hx ⟨μ,hle,hT.put hd (RelA.nil μ).tup,hR,by rw[put_defers];exact hdf⟩
     ·rename_i hρ
      rw[hρ] at hrel
      have hget:∀c,a.tmps.getD d undef≠ .bool c:=by
       intro c e
       rw[e] at hrel
       cases hrel
      have hy:yielded ops a.tmps j=none:=by
       have hsz:d<a.tmps.size:=by rw[hT.1];exact hdn
       simp only[yielded,hd',Option.bind_some,Array.getElem?_eq_getElem hsz]
       split
       ·rename_i b' hb'
        exfalso
        injection hb' with hb'
        refine hget b' ?_
        simp only[Array.getD,hsz,dif_pos]
        exact hb'
       ·rfl
      have hwant:Region.wanted o (yielded ops a.tmps)=false:=by
       simp only[Region.wanted,hg,hy]
       cases b<;>rfl
      rw[hwant,if_neg (by simp)]
      exact hn (.tup []) h _ w hx ⟨μ,hle,hT.put hd (RelA.nil μ).tup,hR,by rw[put_defers];exact hdf⟩
     ·exact hx.elim
    ·cases hc
   ·cases hc
 ·cases hc
theorem ops_sound {ops:Array Oper} {Q:Exit→Act→World→Prop} {Qa:Env→H→Prop} (hq:∀ρ h a w,Qa ρ h→Sim n base w0 μ0 ρ h a w→Q .normal a w):∀(is:List Nat) (os:List AOper) (ρ:Env) (h:H) (a:Act) (w:World),
  is.map (fun i=>(ops[i]?).bind (comp P n ops))=os.map some→(∀o∈os,o.chks=[])→aops P os Qa ρ h→Sim n base w0 μ0 ρ h a w→wpOps P ops Q is a w
 |[],os,ρ,h,a,w,hm,_,ho,hs=>by
  have:os=[]:=by simpa using hm.symm
  subst this
  exact hq ρ h a w ho hs
 |i::is,[],ρ,h,a,w,hm,_,ho,hs=>by simp at hm
 |i::is,o::os,ρ,h,a,w,hm,hc,ho,hs=>by
  simp only[List.map_cons,List.cons.injEq] at hm
  cases hi:ops[i]? with
  |none=>rw[hi] at hm;simp at hm
  |some o'=>
   rw[hi] at hm
   simp only[Option.bind_some] at hm
   rw[wpOps_cons]
   simp only[aops] at ho
   exact step_sound hi hm.1 ho hs (fun v h' a' w' hk hs'=>ops_sound hq is os _ h' a' w' hm.2 (fun x hx=>hc x (by simp[hx])) hk.2 hs')
end
section
variable (P:Program) (n:Nat)
def pickNext (b:Array Nat) (base:Array AOper) (done:Nat):List Nat→Option Nat
 |[]=>none
 |i::is=>if done.testBit i then pickNext b base done is else
  if(b.getD i 0)&&&done==b.getD i 0 then some i else pickNext b base done is
def canonGo (b:Array Nat) (base:Array AOper) (nes effs:List Nat):Nat→Nat→List Nat→List Nat
 |0,_,acc=>acc.reverse
 |f+1,done,acc=>
  match pickNext b base done nes with
  |some i=>canonGo b base nes effs f (done|||2^i) (i::acc)
  |none=>match pickNext b base done effs with
   |some i=>canonGo b base nes effs f (done|||2^i) (i::acc)
   |none=>acc.reverse
def canon (b:Array Nat) (base:Array AOper):List Nat:=
 let is:=List.range base.size
 canonGo b base (is.filter fun i=>((base[i]?).map (·.op.ne)).getD false) (is.filter fun i=> !((base[i]?).map (·.op.ne)).getD false) base.size 0 []
def withChks (b:Array Nat) (base:Array AOper):List Nat→List Nat→List (Nat×AOper)
 |_,[]=>[]
 |before,i::is=>match base[i]? with
  |none=>[]
  |some o=>
   let cs:=if o.op.ne then [] else before.filterMap fun j=>match base[j]? with
    |some oj=>if oj.op.ne&& !oj.op.pure&& !(b.getD i 0).testBit j then some (oj.dst,oj.g,oj.op) else none
    |none=>none
   (i,{o with chks:=cs})::withChks b base (before++[i]) is
def pairB (b:Array Nat) (x y:Nat×AOper):Bool:=
 ((b.getD y.1 0).testBit x.1||(x.2.op.ne&&apartB x.2 y.2))&&(x.2.op.pure||stableB x.2 y.2)&& !(b.getD x.1 0).testBit y.1
def pairsB (b:Array Nat):List (Nat×AOper)→Bool
 |[]=>true
 |x::xs=>xs.all (pairB b x)&&(xs.all fun y=>x.1 !=y.1)&&(x.2.op.pure||selfB x.2)&& !(b.getD x.1 0).testBit x.1&&pairsB b xs
def predB (b:Array Nat) (ops:Array Oper):Bool:=
 (List.range ops.size).all fun i=>match ops[i]? with
  |none=>false
  |some o=>(o.after.all fun e=> !Region.binds .any e||(decide (e.on<ops.size)&&(b.getD i 0).testBit e.on))&&
   (List.range ops.size).all fun j=> !(b.getD i 0).testBit j||o.after.any fun e=>Region.binds .any e&&(e.on==j||(b.getD e.on 0).testBit j)
def drawOk (b:Array Nat) (ops:Array Oper) (L:List (Nat×AOper)):Bool:=
 pairsB b L&&predB b ops&&L.length==ops.size&&((List.range ops.size).all fun i=>L.any fun x=>x.1==i)&&L.all fun x=>decide (x.1<ops.size)
def compDraw (ops:Array Oper):Option (List AOper):=
 match ops.toList.mapM (comp P n ops) with
 |none=>none
 |some base=>
  let b:=Region.before ops
  let L:=withChks b base.toArray [] (canon b base.toArray)
  if drawOk b ops L=true then some (L.map (·.2)) else none
end
section
variable {P:Program} {n:Nat} {base:Nat} {w0:World} {μ0:Mu}
def Waits (b:Array Nat) (i j:Nat):Prop:=(b.getD i 0).testBit j=true
structure Rem (P:Program) (n:Nat) (ops:Array Oper) (b:Array Nat) (rem:List (Nat×AOper)):Prop where
 over:rem.Pairwise fun x y=>Waits b y.1 x.1∨(x.2.op.ne=true∧apartB x.2 y.2=true∧(x.2.op.pure=true∨y.2.op.ne=true∨(x.2.dst,x.2.g,x.2.op)∈y.2.chks))
 stab:rem.Pairwise fun x y=>x.2.op.pure=true∨stableB x.2 y.2=true
 later:rem.Pairwise fun x y=>¬Waits b x.1 y.1
 once:rem.Pairwise fun x y=>x.1≠y.1
 self:∀x∈rem,x.2.op.pure=true∨selfB x.2=true
 alone:∀x∈rem,¬Waits b x.1 x.1
 is:∀x∈rem,∃o o0,ops[x.1]? =some o∧comp P n ops o=some o0∧x.2.dst=o0.dst∧x.2.g=o0.g∧x.2.op=o0.op∧(x.2.op.ne=true→x.2.chks=[])
theorem Rem.sub {ops:Array Oper} {b:Array Nat} {l l':List (Nat×AOper)} (h:Rem P n ops b l) (hs:l'.Sublist l):Rem P n ops b l':=
 ⟨h.over.sublist hs,h.stab.sublist hs,h.later.sublist hs,h.once.sublist hs,fun x hx=>h.self x (hs.subset hx),fun x hx=>h.alone x (hs.subset hx),fun x hx=>h.is x (hs.subset hx)⟩
theorem ready_iff {ops:Array Oper} {listed:Array Bool} {i:Nat}:i∈Region.ready .any ops listed↔i<ops.size∧listed.getD i true=false∧∃o,ops[i]? =some o∧∀e∈o.after,Region.binds .any e=true→listed.getD e.on false=true:=by
 unfold Region.ready
 simp only[List.mem_filter,List.mem_range,Bool.and_eq_true,Bool.not_eq_true']
 constructor
 ·rintro⟨h1,h2,h3⟩
  refine⟨h1,h2, ?_⟩
  cases ho:ops[i]? with
  |none=>rw[ho] at h3;simp at h3
  |some o=>
   rw[ho] at h3
   refine⟨o,rfl,fun e he hb=> ?_⟩
   simp only[Option.map_some,Option.getD_some,Array.all_eq_true_iff_forall_mem] at h3
   have:=h3 e he
   simpa [hb] using this
 ·rintro⟨h1,h2,o,ho,h3⟩
  refine⟨h1,h2, ?_⟩
  rw[ho]
  simp only[Option.map_some,Option.getD_some,Array.all_eq_true_iff_forall_mem]
  intro e he
  by_cases hb:Region.binds .any e=true
  ·simp[h3 e he hb]
  ·simp[hb]
theorem any_sound {ops:Array Oper} {b:Array Nat} {Q:Exit→Act→World→Prop} {Qa:Env→H→Prop} (hq:∀ρ h a w,Qa ρ h→Sim n base w0 μ0 ρ h a w→Q .normal a w)
  (hp1:∀(i:Nat) (o:Oper),ops[i]? =some o→∀e∈o.after,Region.binds .any e=true→e.on<ops.size∧Waits b i e.on)
  (hp2:∀(i:Nat) (o:Oper),ops[i]? =some o→∀j,j<ops.size→Waits b i j→∃e∈o.after,Region.binds .any e=true∧(e.on=j∨Waits b e.on j)):
  ∀(fuel:Nat) (rem:List (Nat×AOper)) (listed:Array Bool) (ρ:Env) (h:H) (a:Act) (w:World),rem.length=fuel→Rem P n ops b rem→listed.size=ops.size→
   (∀i,i<ops.size→(listed.getD i true=false↔i∈rem.map (·.1)))→(∀k,k<ops.size→listed.getD k true=true→∀j,j<ops.size→Waits b k j→listed.getD j true=true)→(∀x∈rem,x.1<ops.size)→
   aops P (rem.map (·.2)) Qa ρ h→Sim n base w0 μ0 ρ h a w→wpAny P .any ops Q fuel listed a w:=by
 intro fuel
 induction fuel with
 |zero=>
  intro rem listed ρ h a w hl hR hsz hli hcl hlt ho hs
  have:rem=[]:=List.eq_nil_of_length_eq_zero hl
  subst this
  refine⟨?_,hq ρ h a w ho hs⟩
  cases hr:Region.ready .any ops listed with
  |nil=>rfl
  |cons i l=>
   have:=ready_iff.1 (by rw[hr];exact List.mem_cons_self:i∈Region.ready .any ops listed)
   have:=(hli i this.1).1 this.2.1
   simp at this
 |succ fuel ih=>
  intro rem listed ρ h a w hl hR hsz hli hcl hlt ho hs
  have gd:∀j,j<ops.size→∀d d',listed.getD j d=listed.getD j d':=by
   intro j hj d d'
   simp[Array.getD,hsz,hj]
  constructor
  ·intro hnil
   cases rem with
   |nil=>simp at hl
   |cons x rem=>
    exfalso
    obtain⟨o,o0,hoo,_⟩:=hR.is x (by simp)
    have hx:=hlt x (by simp)
    have:x.1∈Region.ready .any ops listed:=by
     refine ready_iff.2 ⟨hx,(hli x.1 hx).2 (by simp),o,hoo,fun e he hb=> ?_⟩
     obtain⟨h1,h2⟩:=hp1 x.1 o hoo e he hb
     rw[gd e.on h1 false true]
     cases hle:listed.getD e.on true with
     |true=>rfl
     |false=>
      have hm:=(hli e.on h1).1 hle
      simp only[List.map_cons,List.mem_cons,List.mem_map] at hm
      rcases hm with hm|⟨y,hy,hye⟩
      ·rw[hm] at h2
       exact absurd h2 (hR.alone x (by simp))
      ·exfalso
       have:=(List.pairwise_cons.1 hR.later).1 y hy
       rw[hye] at this
       exact this h2
    rw[hnil] at this
    simp at this
  ·intro i hi
   obtain⟨hisz,hlist,o,hoo,hedge⟩:=ready_iff.1 hi
   have hmem:=(hli i hisz).1 hlist
   obtain⟨x,hx,hxi⟩:=List.mem_map.1 hmem
   obtain⟨pre,post,rfl⟩:=List.append_of_mem hx
   subst hxi
   obtain⟨o',o0,ho',hc0,e1,e2,e3,e4⟩:=hR.is x (by simp)
   rw[hoo] at ho'
   injection ho' with ho'
   subst ho'
   have hwaits:∀j,j<ops.size→Waits b x.1 j→listed.getD j true=true:=by
    intro j hj hw
    obtain⟨e,he,hb,hej⟩:=hp2 x.1 o hoo j hj hw
    obtain⟨h1,h2⟩:=hp1 x.1 o hoo e he hb
    have hle:listed.getD e.on true=true:=by rw[gd e.on h1 true false];exact hedge e he hb
    rcases hej with rfl|hej
    ·exact hle
    ·exact hcl e.on h1 hle j hj hej
   have hpre:∀y∈pre,y.2.op.ne=true∧apartB y.2 x.2=true∧(y.2.op.pure=true∨x.2.op.ne=true∨(y.2.dst,y.2.g,y.2.op)∈x.2.chks):=by
    intro y hy
    rcases(List.pairwise_append.1 hR.over).2.2 y hy x (by simp) with h1|h1
    ·have hy':=hlt y (by simp[hy])
     have h2:=hwaits y.1 hy' h1
     have h3:=(hli y.1 hy').2 (List.mem_map.2 ⟨y,by simp[hy],rfl⟩)
     rw[h2] at h3
     cases h3
    ·exact h1
   have hsub:(pre++post).Sublist (pre++x::post):=List.Sublist.append_left (List.sublist_cons_self x post) pre
   have hpull:=pull (P:=P) (pre:=pre.map (·.2)) (rest:=post.map (·.2)) (i:=x.2) (Q:=Qa) (ρ:=ρ) (h:=h) (by simpa using ho)
    (fun j hj=>by obtain⟨y,hy,rfl⟩:=List.mem_map.1 hj;exact(hpre y hy).1)
    (fun j hj=>by
     obtain⟨y,hy,rfl⟩:=List.mem_map.1 hj
     obtain⟨_,_,_,_,_,_,_,hh⟩:=hR.is y (by simp[hy])
     exact hh (hpre y hy).1)
    (fun j hj=>by obtain⟨y,hy,rfl⟩:=List.mem_map.1 hj;exact(hpre y hy).2.1)
    (by rw[List.pairwise_map];exact(List.pairwise_append.1 hR.stab).1)
    (fun j hj=>by obtain⟨y,hy,rfl⟩:=List.mem_map.1 hj;exact hR.self y (by simp[hy]))
    (fun j hj=>by obtain⟨y,hy,rfl⟩:=List.mem_map.1 hj;exact(hpre y hy).2.2)
   rw[e2,e3] at hpull
   refine step_sound hoo hc0 hpull hs (fun v h' a' w' hk hs'=> ?_)
   refine ih (pre++post) (listed.setIfInBounds x.1 true) _ h' a' w' (by simp at hl⊢;omega) (hR.sub hsub) (by simp[hsz]) (fun j hj=> ?_) (fun k hk' hlk j hj hw=> ?_) (fun y hy=>hlt y (hsub.subset hy)) (by rw[←e1] at*;simpa using hk) hs'
   ·by_cases e:j=x.1
    ·subst e
     have:(listed.setIfInBounds x.1 true).getD x.1 true=true:=by simp[Array.getD,hsz,hj]
     rw[this]
     simp only[Bool.true_eq_false,false_iff]
     intro hm
     obtain⟨y,hy,hye⟩:=List.mem_map.1 hm
     have honce:=hR.once
     rw[List.pairwise_append] at honce
     rcases List.mem_append.1 hy with hy|hy
     ·exact honce.2.2 y hy x (by simp) hye
     ·exact(List.pairwise_cons.1 honce.2.1).1 y hy hye.symm
    ·have:(listed.setIfInBounds x.1 true).getD j true=listed.getD j true:=by simp[Array.getD_eq_getD_getElem?,Ne.symm e]
     rw[this,hli j hj]
     simp only[List.map_append,List.map_cons,List.mem_append,List.mem_cons]
     constructor
     ·rintro(h1|h1|h1)
      ·exact .inl h1
      ·exact absurd h1 e
      ·exact .inr h1
     ·rintro(h1|h1)
      ·exact .inl h1
      ·exact .inr (.inr h1)
   ·have up:∀j,j<ops.size→listed.getD j true=true→(listed.setIfInBounds x.1 true).getD j true=true:=by
     intro j hj hlj
     by_cases e:j=x.1
     ·subst e;simp[Array.getD,hsz,hj]
     ·have:(listed.setIfInBounds x.1 true).getD j true=listed.getD j true:=by simp[Array.getD_eq_getD_getElem?,Ne.symm e]
      rw[this];exact hlj
    by_cases e:k=x.1
    ·subst e
     exact up j hj (hwaits j hj hw)
    ·have:(listed.setIfInBounds x.1 true).getD k true=listed.getD k true:=by simp[Array.getD_eq_getD_getElem?,Ne.symm e]
     rw[this] at hlk
     exact up j hj (hcl k hk' hlk j hj hw)
theorem withChks_mem {b:Array Nat} {base:Array AOper}:∀(is before:List Nat),∀y∈withChks b base before is,∃o,base[y.1]? =some o∧y.2.dst=o.dst∧y.2.g=o.g∧y.2.op=o.op∧(o.op.ne=true→y.2.chks=[])
 |[],before,y,hy=>by simp[withChks] at hy
 |i::is,before,y,hy=>by
  simp only[withChks] at hy
  split at hy
  ·simp at hy
  ·rename_i o ho
   rcases List.mem_cons.1 hy with rfl|hy
   ·exact⟨o,ho,rfl,rfl,rfl,fun h=>by simp[h]⟩
   ·exact withChks_mem is _ y hy
theorem withChks_before {b:Array Nat} {base:Array AOper} {j:Nat} {oj:AOper} (hj:base[j]? =some oj) (h1:oj.op.ne=true) (h2:¬oj.op.pure=true):∀(is before:List Nat),j∈before→∀y∈withChks b base before is,¬Waits b y.1 j→y.2.op.ne=true∨(oj.dst,oj.g,oj.op)∈y.2.chks
 |[],before,_,y,hy=>by simp[withChks] at hy
 |i::is,before,hjb,y,hy=>by
  simp only[withChks] at hy
  split at hy
  ·simp at hy
  ·rename_i o ho
   rcases List.mem_cons.1 hy with rfl|hy
   ·intro hw
    by_cases hn:o.op.ne=true
    ·exact .inl hn
    ·refine .inr ?_
     simp only[hn,Bool.false_eq_true,if_false,List.mem_filterMap]
     refine⟨j,hjb, ?_⟩
     have hw':(b.getD i 0).testBit j=false:=by simpa [Waits] using hw
     simp only[hj,h1,hw']
     simp[h2]
   ·exact withChks_before hj h1 h2 is _ (List.mem_append_left _ hjb) y hy
theorem withChks_pairs {b:Array Nat} {base:Array AOper}:∀(is before:List Nat),(withChks b base before is).Pairwise fun x y=>x.2.op.ne=true→¬x.2.op.pure=true→¬Waits b y.1 x.1→y.2.op.ne=true∨(x.2.dst,x.2.g,x.2.op)∈y.2.chks
 |[],before=>by simp[withChks]
 |i::is,before=>by
  simp only[withChks]
  split
  ·exact List.Pairwise.nil
  ·rename_i o ho
   refine List.pairwise_cons.2 ⟨fun y hy h1 h2 hw=> ?_,withChks_pairs is _⟩
   exact withChks_before ho h1 h2 is _ (by simp) y hy hw
theorem pairsB_spec {b:Array Nat}:∀{L:List (Nat×AOper)},pairsB b L=true→(L.Pairwise fun x y=>Waits b y.1 x.1∨(x.2.op.ne=true∧apartB x.2 y.2=true))∧(L.Pairwise fun x y=>x.2.op.pure=true∨stableB x.2 y.2=true)∧
  (L.Pairwise fun x y=>¬Waits b x.1 y.1)∧(L.Pairwise fun x y=>x.1≠y.1)∧(∀x∈L,x.2.op.pure=true∨selfB x.2=true)∧(∀x∈L,¬Waits b x.1 x.1)
 |[],_=>⟨.nil, .nil, .nil, .nil,fun x hx=>by simp at hx,fun x hx=>by simp at hx⟩
 |x::xs,h=>by
  simp only[pairsB,Bool.and_eq_true,List.all_eq_true] at h
  obtain⟨⟨⟨⟨h1,h2⟩,h3⟩,h4⟩,h5⟩:=h
  obtain⟨i1,i2,i3,i4,i5,i6⟩:=pairsB_spec h5
  have hx:∀y∈xs,(Waits b y.1 x.1∨(x.2.op.ne=true∧apartB x.2 y.2=true))∧(x.2.op.pure=true∨stableB x.2 y.2=true)∧¬Waits b x.1 y.1:=by
   intro y hy
   have:=h1 y hy
   simp only[pairB,Bool.and_eq_true,Bool.or_eq_true,Bool.not_eq_true'] at this
   refine⟨this.1.1,this.1.2, ?_⟩
   unfold Waits
   rw[this.2]
   simp
  refine⟨List.pairwise_cons.2 ⟨fun y hy=>(hx y hy).1,i1⟩,List.pairwise_cons.2 ⟨fun y hy=>(hx y hy).2.1,i2⟩,List.pairwise_cons.2 ⟨fun y hy=>(hx y hy).2.2,i3⟩,List.pairwise_cons.2 ⟨fun y hy=>by simpa using h2 y hy,i4⟩, ?_, ?_⟩
  ·intro y hy
   rcases List.mem_cons.1 hy with rfl|hy
   ·simpa using h3
   ·exact i5 y hy
  ·intro y hy
   rcases List.mem_cons.1 hy with rfl|hy
   ·unfold Waits
    simp only[Bool.not_eq_true'] at h4
    rw[h4]
    simp
   ·exact i6 y hy
theorem mapM_get {ops:List Oper} {f:Oper→Option AOper}:∀{l:List AOper},ops.mapM f=some l→ops.map f=l.map some:=by
 induction ops with
 |nil=>intro l h;simp at h;subst h;rfl
 |cons o ops ih=>
  intro l h
  simp only[List.mapM_cons,Option.bind_eq_bind,Option.pure_def] at h
  cases ho:f o with
  |none=>simp[ho] at h
  |some x=>
   cases hr:ops.mapM f with
   |none=>simp[ho,hr] at h
   |some xs=>
    simp[ho,hr] at h
    subst h
    simp[ho,ih hr]
theorem draw_sound {ops:Array Oper} {id:Nat} {os:List AOper} {Q:Exit→Act→World→Prop} {Qa:Env→H→Prop} (hm:P.follows .mixedOrders=true) (hc:compDraw P n ops=some os) (hq:∀ρ h a w,Qa ρ h→Sim n base w0 μ0 ρ h a w→Q .normal a w)
  {ρ:Env} {h:H} {a:Act} {w:World} (ho:aops P os Qa ρ h) (hs:Sim n base w0 μ0 ρ h a w):(Code.region id ops true).wp P Q a w:=by
 unfold compDraw at hc
 split at hc
 ·cases hc
 ·rename_i bs hbs
  simp only at hc
  split at hc
  ·rename_i hok
   injection hc with hc
   subst hc
   have hget:=mapM_get hbs
   have hbase:∀(i:Nat) (o:AOper),bs.toArray[i]? =some o→∃o',ops[i]? =some o'∧comp P n ops o'=some o:=by
    intro i o hi
    have h1:(ops.toList.map (comp P n ops))[i]? =some (some o):=by rw[hget,List.getElem?_map];simp at hi;simp[hi]
    rw[List.getElem?_map] at h1
    cases ho':ops.toList[i]? with
    |none=>rw[ho'] at h1;simp at h1
    |some o'=>rw[ho'] at h1;simp at h1;exact⟨o',by simpa using ho',h1⟩
   simp only[drawOk,Bool.and_eq_true] at hok
   obtain⟨⟨⟨⟨k1,k2⟩,k3⟩,k4⟩,k5⟩:=hok
   obtain⟨p1,p2,p3,p4,p5,p6⟩:=pairsB_spec k1
   have hch:=withChks_pairs (b:=Region.before ops) (base:=bs.toArray) (canon (Region.before ops) bs.toArray) []
   have hpred:∀(i:Nat) (o:Oper),ops[i]? =some o→(∀e∈o.after,Region.binds .any e=true→e.on<ops.size∧Waits (Region.before ops) i e.on)∧(∀j,j<ops.size→Waits (Region.before ops) i j→∃e∈o.after,Region.binds .any e=true∧(e.on=j∨Waits (Region.before ops) e.on j)):=by
    intro i o hi
    have hisz:i<ops.size:=(Array.getElem?_eq_some_iff.1 hi).1
    have:=(List.all_eq_true.1 k2) i (by simp[hisz])
    rw[hi] at this
    simp only[Bool.and_eq_true,Array.all_eq_true_iff_forall_mem,List.all_eq_true,List.mem_range] at this
    refine⟨fun e he hb=> ?_,fun j hj hw=> ?_⟩
    ·have h1:=this.1 e he
     simp only[hb,Bool.not_true,Bool.false_or,Bool.and_eq_true,decide_eq_true_eq] at h1
     exact h1
    ·have h1:=this.2 j hj
     unfold Waits at hw
     simp only[hw,Bool.not_true,Bool.false_or] at h1
     rw[←Array.any_toList,List.any_eq_true] at h1
     obtain⟨e,he,h1⟩:=h1
     simp only[Bool.and_eq_true,Bool.or_eq_true,beq_iff_eq] at h1
     exact⟨e,by simpa using he,h1.1,h1.2⟩
   refine wp_region_any hm ?_
   refine any_sound hq (fun i o hi=>(hpred i o hi).1) (fun i o hi=>(hpred i o hi).2) ops.size (withChks (Region.before ops) bs.toArray [] (canon (Region.before ops) bs.toArray)) (Array.replicate ops.size false) ρ h a _ (by simpa using k3) ?_ (by simp) ?_ ?_ ?_ ho ?_
   ·refine⟨?_,p2,p3,p4,p5,p6,fun x hx=> ?_⟩
    ·refine(p1.and hch).imp ?_
     rintro x y ⟨h1,h2⟩
     rcases h1 with h1|⟨h1,h3⟩
     ·exact .inl h1
     ·by_cases hw:Waits (Region.before ops) y.1 x.1
      ·exact .inl hw
      ·refine .inr ⟨h1,h3, ?_⟩
       by_cases hpu:x.2.op.pure=true
       ·exact .inl hpu
       ·exact .inr (h2 h1 hpu hw)
    ·obtain⟨o,h1,h2,h3,h4,h5⟩:=withChks_mem _ _ x hx
     obtain⟨o',h6,h7⟩:=hbase x.1 o h1
     exact⟨o',o,h6,h7,h2,h3,h4,fun h=>h5 (by rw[←h4];exact h)⟩
   ·intro i hi
    have h1:(Array.replicate ops.size false).getD i true=false:=by simp[Array.getD,hi]
    rw[h1]
    simp only[true_iff]
    have:=(List.all_eq_true.1 k4) i (by simp[hi])
    obtain⟨x,hx,hxi⟩:=List.any_eq_true.1 this
    exact List.mem_map.2 ⟨x,hx,by simpa using hxi⟩
   ·intro k hk hl
    have h1:(Array.replicate ops.size false).getD k true=false:=by simp[Array.getD,hk]
    rw[h1] at hl
    cases hl
   ·intro x hx
    simpa using (List.all_eq_true.1 k5) x hx
   ·obtain⟨μ,q1,q2,q3,q4⟩:=hs
    exact⟨μ,q1,q2,q3.drew _,q4⟩
  ·cases hc
theorem region_sound {ops:Array Oper} {id:Nat} {os:List AOper} {Q:Exit→Act→World→Prop} {Qa:Env→H→Prop} (hc:ops.toList.mapM (comp P n ops)=some os) (hq:∀ρ h a w,Qa ρ h→Sim n base w0 μ0 ρ h a w→Q .normal a w)
  {ρ:Env} {h:H} {a:Act} {w:World} (ho:aops P os Qa ρ h) (hs:Sim n base w0 μ0 ρ h a w):(Code.region id ops false).wp P Q a w:=by
 refine wp_region (ops_sound hq (List.range ops.size) os ρ h a w ?_ ?_ ho hs)
 ·have hget:=mapM_get hc
  rw[←hget]
  apply List.ext_getElem?
  intro i
  simp only[List.getElem?_map]
  by_cases hi:i<ops.size
  ·simp[hi]
  ·have:ops.size≤i:=by omega
   simp[this]
 ·intro o hoo
  have hget:=mapM_get hc
  have:some o∈ops.toList.map (comp P n ops):=by rw[hget];exact List.mem_map.2 ⟨o,hoo,rfl⟩
  obtain⟨o',_,ho'⟩:=List.mem_map.1 this
  unfold comp at ho'
  split at ho'
  ·split at ho'
   ·injection ho' with ho';rw[←ho']
   ·split at ho'
    ·split at ho'
     ·injection ho' with ho';rw[←ho']
     ·cases ho'
    ·cases ho'
  ·cases ho'
inductive AT where
 |fin
 |no
 |alt (x:AOper) (ns:List AOper) (t r:AT)
inductive FT where
 |fin
 |no
 |alt (x:Nat×AOper) (ns:List (Nat×AOper)) (t r:FT)
def FT.bare:FT→AT
 | .fin=> .fin
 | .no=> .no
 | .alt x ns t r=> .alt x.2 (ns.map (·.2)) t.bare r.bare
def atP (P:Program) (Q:Env→H→Prop):AT→Env→H→Prop
 | .fin,ρ,h=>Q ρ h
 | .no,_,_=>True
 | .alt x ns t r,ρ,h=>aops P (x::ns) (atP P Q t) ρ h∧atP P Q r ρ h
def FT.heads:FT→List Nat
 | .alt x _ _ r=>x.1::r.heads
 |_=>[]
def waitsB (b:Array Nat) (i j:Nat):Bool:=(b.getD i 0).testBit j
def FT.isFork:FT→Bool
 | .alt _ _ _ _=>true
 |_=>false
def FT.fit (b:Array Nat) (sz:Nat) (D:List Nat) (t:FT):Bool:=((List.range sz).all fun i=>D.contains i||t.heads.contains i||(List.range sz).any fun j=> !D.contains j&&waitsB b i j)&&
 (t.isFork||(List.range sz).all fun i=>D.contains i)&&(match t with| .no=>false|_=>true)
def FT.ok (b:Array Nat) (sz:Nat):List (Nat×AOper)→List Nat→FT→Bool
 |_,_, .fin=>true
 |_,_, .no=>true
 |N,D, .alt x ns t r=> !D.contains x.1&&decide (x.1<sz)&&(N.all fun j=>waitsB b x.1 j.1||apartB j.2 x.2)&&pairsB b (N++ns)&&(ns.all fun y=>y.2.op.ne&& !D.contains y.1&&y.1 !=x.1&&decide (y.1<sz))&&
   ((List.range sz).all fun j=> !waitsB b x.1 j||D.contains j)&&(ns.all fun y=>(List.range sz).all fun j=> !waitsB b y.1 j||(D++x.1::ns.map (·.1)).contains j)&&
   t.fit b sz (D++x.1::ns.map (·.1))&&t.ok b sz (N++ns) (D++x.1::ns.map (·.1))&&r.ok b sz N D
def IsOp (P:Program) (n:Nat) (ops:Array Oper) (y:Nat×AOper):Prop:=∃o o0,ops[y.1]? =some o∧comp P n ops o=some o0∧y.2.dst=o0.dst∧y.2.g=o0.g∧y.2.op=o0.op∧(y.2.op.ne=true→y.2.chks=[])
def FT.good (P:Program) (n:Nat) (ops:Array Oper) (b:Array Nat):List (Nat×AOper)→FT→Prop
 |_, .fin=>True
 |_, .no=>True
 |N, .alt x ns t r=>IsOp P n ops x∧(∀y∈ns,IsOp P n ops y)∧(∀j∈N,j.2.op.ne=true→j.2.op.pure=true∨x.2.op.ne=true∨Waits b x.1 j.1∨(j.2.dst,j.2.g,j.2.op)∈x.2.chks)∧t.good P n ops b (N++ns)∧r.good P n ops b N
theorem aops_append {os ps:List AOper} {Q:Env→H→Prop}:∀{ρ:Env} {h:H},aops P (os++ps) Q ρ h↔aops P os (aops P ps Q) ρ h:=by
 induction os with
 |nil=>intro ρ h;exact Iff.rfl
 |cons o os ih=>
  intro ρ h
  simp only[List.cons_append,aops]
  exact⟨fun hx=>astep_mono (fun v h' hk=>⟨hk.1,ih.1 hk.2⟩) hx,fun hx=>astep_mono (fun v h' hk=>⟨hk.1,ih.2 hk.2⟩) hx⟩
theorem aops_imp {Q Q':Env→H→Prop} (hq:∀ρ h,Q ρ h→Q' ρ h):∀{os:List AOper} {ρ:Env} {h:H},aops P os Q ρ h→aops P os Q' ρ h
 |[],_,_,hx=>hq _ _ hx
 |o::os,ρ,h,hx=>by
  simp only[aops] at hx⊢
  exact astep_mono (fun v h' hh=>⟨hh.1,aops_imp hq hh.2⟩) hx
theorem FT.find {ops:Array Oper} {b:Array Nat} {Qa:Env→H→Prop} {N:List (Nat×AOper)} {D:List Nat} {i:Nat}:∀(t:FT),i∈t.heads→t.ok b ops.size N D=true→t.good P n ops b N→
  ∃x ns t1,x.1=i∧FT.ok b ops.size N D (.alt x ns t1 .no)=true∧FT.good P n ops b N (.alt x ns t1 .no)∧∀ρ h,atP P Qa t.bare ρ h→aops P (x.2::ns.map (·.2)) (atP P Qa t1.bare) ρ h
 | .fin,hi,_,_=>by simp[FT.heads] at hi
 | .no,hi,_,_=>by simp[FT.heads] at hi
 | .alt x ns t r,hi,hok,hg=>by
  by_cases e:x.1=i
  ·refine⟨x,ns,t,e, ?_,⟨hg.1,hg.2.1,hg.2.2.1,hg.2.2.2.1,trivial⟩,fun ρ h hx=>hx.1⟩
   simp only[FT.ok,Bool.and_eq_true,Bool.and_true] at hok⊢
   exact hok.1
  ·have hi':i∈r.heads:=by
    simp only[FT.heads,List.mem_cons] at hi
    exact hi.resolve_left (fun h=>e h.symm)
   simp only[FT.ok,Bool.and_eq_true] at hok
   obtain⟨x',ns',t1,h1,h2,h3,h4⟩:=FT.find r hi' hok.2 hg.2.2.2.2
   exact⟨x',ns',t1,h1,h2,h3,fun ρ h hx=>h4 ρ h hx.2⟩
theorem Rem.of {ops:Array Oper} {b:Array Nat} {L:List (Nat×AOper)} (h:pairsB b L=true) (hn:∀x∈L,x.2.op.ne=true) (hi:∀x∈L,IsOp P n ops x):Rem P n ops b L:=by
 obtain⟨p1,p2,p3,p4,p5,p6⟩:=pairsB_spec h
 refine⟨?_,p2,p3,p4,p5,p6,hi⟩
 refine p1.imp_of_mem ?_
 intro x y hx hy h1
 rcases h1 with h1|⟨h1,h3⟩
 ·exact .inl h1
 ·exact .inr ⟨h1,h3, .inr (.inl (hn y hy))⟩
theorem tree_sound {ops:Array Oper} {b:Array Nat} {Q:Exit→Act→World→Prop} {Qa:Env→H→Prop} (hq:∀ρ h a w,Qa ρ h→Sim n base w0 μ0 ρ h a w→Q .normal a w)
  (hp1:∀(i:Nat) (o:Oper),ops[i]? =some o→∀e∈o.after,Region.binds .any e=true→e.on<ops.size∧Waits b i e.on)
  (hp2:∀(i:Nat) (o:Oper),ops[i]? =some o→∀j,j<ops.size→Waits b i j→∃e∈o.after,Region.binds .any e=true∧(e.on=j∨Waits b e.on j)):
  ∀(fuel:Nat) (R:List Nat) (pre N:List (Nat×AOper)) (D:List Nat) (t:FT) (listed:Array Bool) (ρ:Env) (h:H) (a:Act) (w:World),R.length=fuel→R.Nodup→pre.Sublist N→Rem P n ops b N→(∀x∈N,x.2.op.ne=true∧x.1<ops.size∧x.1∈D∧∀j,j<ops.size→Waits b x.1 j→j∈D)→
   (∀i,i∈R↔i<ops.size∧(i∈pre.map (·.1)∨i ∉ D))→t.ok b ops.size N D=true→t.good P n ops b N→t.fit b ops.size D=true→listed.size=ops.size→
   (∀i,i<ops.size→(listed.getD i true=false↔i∈R))→(∀k,k<ops.size→listed.getD k true=true→∀j,j<ops.size→Waits b k j→listed.getD j true=true)→
   aops P (pre.map (·.2)) (atP P Qa t.bare) ρ h→Sim n base w0 μ0 ρ h a w→wpAny P .any ops Q fuel listed a w:=by
 intro fuel
 induction fuel with
 |zero=>
  intro R pre N D t listed ρ h a w hl hnd hsub hRem hN hR hok hgood hfit hsz hli hcl ho hs
  have:R=[]:=List.eq_nil_of_length_eq_zero hl
  subst this
  have hD:∀i,i<ops.size→i∈D:=fun i hi=>by
   rcases Classical.em (i∈D) with h1|h1
   ·exact h1
   ·have:=(hR i).2 ⟨hi, .inr h1⟩
    simp at this
  have hpre:pre=[]:=by
   cases pre with
   |nil=>rfl
   |cons x pre=>
    have hx:=hN x (hsub.subset (by simp))
    have:=(hR x.1).2 ⟨hx.2.1, .inl (by simp)⟩
    simp at this
  subst hpre
  refine⟨?_, ?_⟩
  ·cases hr:Region.ready .any ops listed with
   |nil=>rfl
   |cons i l=>
    have:=ready_iff.1 (by rw[hr];exact List.mem_cons_self:i∈Region.ready .any ops listed)
    have:=(hli i this.1).1 this.2.1
    simp at this
  ·cases t with
   |fin=>exact hq ρ h a w ho hs
   |no=>simp[FT.fit] at hfit
   |alt x ns t r=>
    simp only[FT.ok,Bool.and_eq_true,decide_eq_true_eq,Bool.not_eq_true',List.contains_eq_mem,decide_eq_false_iff_not] at hok
    exact absurd (hD x.1 hok.1.1.1.1.1.1.1.1.2) hok.1.1.1.1.1.1.1.1.1
 |succ fuel ih=>
  intro R pre N D t listed ρ h a w hl hnd hsub hRem hN hR hok hgood hfit hsz hli hcl ho hs
  have gd:∀j,j<ops.size→∀d d',listed.getD j d=listed.getD j d':=by
   intro j hj d d'
   simp[Array.getD,hsz,hj]
  have hRemP:=hRem.sub hsub
  constructor
  ·--one is ready
   have key:∃i o,i∈R∧ops[i]? =some o∧∀j,j<ops.size→Waits b i j→j ∉ R:=by
    cases pre with
    |cons x pre=>
     obtain⟨o,o0,hoo,_⟩:=hRemP.is x (by simp)
     have hx:=hN x (hsub.subset (by simp))
     refine⟨x.1,o,(hR x.1).2 ⟨hx.2.1, .inl (by simp)⟩,hoo,fun j hj hw hjR=> ?_⟩
     rcases((hR j).1 hjR).2 with h1|h1
     ·simp only[List.map_cons,List.mem_cons,List.mem_map] at h1
      rcases h1 with rfl|⟨y,hy,rfl⟩
      ·exact hRemP.alone x (by simp) hw
      ·exact(List.pairwise_cons.1 hRemP.later).1 y hy hw
     ·exact h1 (hx.2.2.2 j hj hw)
    |nil=>
     have hne:∃i,i∈R:=by
      cases R with
      |nil=>simp at hl
      |cons i R=>exact⟨i,by simp⟩
     obtain⟨i0,hi0⟩:=hne
     cases t with
     |fin=>
      simp only[FT.fit,FT.isFork,Bool.false_or,Bool.and_eq_true,List.all_eq_true,List.mem_range,List.contains_eq_mem,decide_eq_true_eq] at hfit
      have h1:=(hR i0).1 hi0
      rcases h1.2 with h2|h2
      ·simp at h2
      ·exact absurd (hfit.1.2 i0 h1.1) h2
     |no=>simp[FT.fit] at hfit
     |alt x ns t r=>
      simp only[FT.ok,Bool.and_eq_true,decide_eq_true_eq,Bool.not_eq_true',List.contains_eq_mem,decide_eq_false_iff_not,List.all_eq_true,List.mem_range,Bool.or_eq_true] at hok
      obtain⟨⟨⟨⟨⟨⟨⟨⟨⟨k1,k2⟩,_⟩,_⟩,_⟩,k6⟩,_⟩,_⟩,_⟩,_⟩:=hok
      obtain⟨o,o0,hoo,_⟩:=hgood.1
      refine⟨x.1,o,(hR x.1).2 ⟨k2, .inr k1⟩,hoo,fun j hj hw hjR=> ?_⟩
      rcases((hR j).1 hjR).2 with h1|h1
      ·simp at h1
      ·rcases k6 j hj with h2|h2
       ·unfold waitsB at h2
        unfold Waits at hw
        rw[hw] at h2
        cases h2
       ·exact h1 h2
   obtain⟨i,o,hiR,hoo,hw⟩:=key
   intro hnil
   have hisz:=((hR i).1 hiR).1
   have:i∈Region.ready .any ops listed:=by
    refine ready_iff.2 ⟨hisz,(hli i hisz).2 hiR,o,hoo,fun e he hb=> ?_⟩
    obtain⟨h1,h2⟩:=hp1 i o hoo e he hb
    rw[gd e.on h1 false true]
    cases hle:listed.getD e.on true with
    |true=>rfl
    |false=>exact absurd ((hli e.on h1).1 hle) (hw e.on h1 h2)
   rw[hnil] at this
   simp at this
  ·intro i hi
   obtain⟨hisz,hlist,o,hoo,hedge⟩:=ready_iff.1 hi
   have hiR:=(hli i hisz).1 hlist
   have hwaits:∀j,j<ops.size→Waits b i j→listed.getD j true=true:=by
    intro j hj hw
    obtain⟨e,he,hb,hej⟩:=hp2 i o hoo j hj hw
    obtain⟨h1,h2⟩:=hp1 i o hoo e he hb
    have hle:listed.getD e.on true=true:=by rw[gd e.on h1 true false];exact hedge e he hb
    rcases hej with rfl|hej
    ·exact hle
    ·exact hcl e.on h1 hle j hj hej
   have hnowait:∀j,j∈R→¬Waits b i j:=by
    intro j hj hw
    have hj':=((hR j).1 hj).1
    have:=hwaits j hj' hw
    rw[(hli j hj').2 hj] at this
    cases this
   have hli':∀j,j<ops.size→((listed.setIfInBounds i true).getD j true=false↔j∈R.erase i):=by
    intro j hj
    by_cases e:j=i
    ·subst e
     have:(listed.setIfInBounds j true).getD j true=true:=by simp[Array.getD,hsz,hj]
     rw[this]
     simp only[Bool.true_eq_false,false_iff]
     exact fun hm=>(hnd.mem_erase_iff.1 hm).1 rfl
    ·have:(listed.setIfInBounds i true).getD j true=listed.getD j true:=by simp[Array.getD_eq_getD_getElem?,Ne.symm e]
     rw[this,hli j hj,hnd.mem_erase_iff]
     exact⟨fun h=>⟨e,h⟩,fun h=>h.2⟩
   have hcl':∀k,k<ops.size→(listed.setIfInBounds i true).getD k true=true→∀j,j<ops.size→Waits b k j→(listed.setIfInBounds i true).getD j true=true:=by
    intro k hk' hlk j hj hw
    have up:∀j,j<ops.size→listed.getD j true=true→(listed.setIfInBounds i true).getD j true=true:=by
     intro j hj hlj
     by_cases e:j=i
     ·subst e;simp[Array.getD,hsz,hj]
     ·have:(listed.setIfInBounds i true).getD j true=listed.getD j true:=by simp[Array.getD_eq_getD_getElem?,Ne.symm e]
      rw[this];exact hlj
    by_cases e:k=i
    ·subst e
     exact up j hj (hwaits j hj hw)
    ·have:(listed.setIfInBounds i true).getD k true=listed.getD k true:=by simp[Array.getD_eq_getD_getElem?,Ne.symm e]
     rw[this] at hlk
     exact up j hj (hcl k hk' hlk j hj hw)
   have hlen:(R.erase i).length=fuel:=by rw[List.length_erase_of_mem hiR];omega
   by_cases hip:i∈pre.map (·.1)
   ·--it is one of those that neither write nor call
    obtain⟨x,hx,hxi⟩:=List.mem_map.1 hip
    obtain⟨p1,p2,rfl⟩:=List.append_of_mem hx
    subst hxi
    obtain⟨o',o0,ho',hc0,e1,e2,e3,e4⟩:=hRemP.is x (by simp)
    rw[hoo] at ho'
    injection ho' with ho'
    subst ho'
    have hneP:∀y∈p1++x::p2,y.2.op.ne=true:=fun y hy=>(hN y (hsub.subset hy)).1
    have hpre:∀y∈p1,apartB y.2 x.2=true:=by
     intro y hy
     rcases(List.pairwise_append.1 hRemP.over).2.2 y hy x (by simp) with h1|h1
     ·have hy':=hN y (hsub.subset (by simp[hy]))
      exact absurd h1 (hnowait y.1 ((hR y.1).2 ⟨hy'.2.1, .inl (List.mem_map.2 ⟨y,by simp[hy],rfl⟩)⟩))
     ·exact h1.2.1
    have hs1:(p1++p2).Sublist (p1++x::p2):=List.Sublist.append_left (List.sublist_cons_self x p2) p1
    have hpull:=pull (P:=P) (pre:=p1.map (·.2)) (rest:=p2.map (·.2)) (i:=x.2) (Q:=atP P Qa t.bare) (ρ:=ρ) (h:=h) (by simpa using ho)
     (fun j hj=>by obtain⟨y,hy,rfl⟩:=List.mem_map.1 hj;exact hneP y (by simp[hy]))
     (fun j hj=>by
      obtain⟨y,hy,rfl⟩:=List.mem_map.1 hj
      obtain⟨_,_,_,_,_,_,_,hh⟩:=hRemP.is y (by simp[hy])
      exact hh (hneP y (by simp[hy])))
     (fun j hj=>by obtain⟨y,hy,rfl⟩:=List.mem_map.1 hj;exact hpre y hy)
     (by rw[List.pairwise_map];exact(List.pairwise_append.1 hRemP.stab).1)
     (fun j hj=>by obtain⟨y,hy,rfl⟩:=List.mem_map.1 hj;exact hRemP.self y (by simp[hy]))
     (fun j hj=> .inr (.inl (hneP x (by simp))))
    rw[e2,e3] at hpull
    refine step_sound hoo hc0 hpull hs (fun v h' a' w' hk hs'=> ?_)
    refine ih (R.erase x.1) (p1++p2) N D t _ _ h' a' w' hlen (hnd.erase _) (hs1.trans hsub) hRem hN (fun j=> ?_) hok hgood hfit (by simp[hsz]) hli' hcl' (by rw[←e1];simpa using hk) hs'
    have hxD:=(hN x (hsub.subset (by simp))).2.2.1
    have honce:=hRemP.once
    rw[List.pairwise_append] at honce
    rw[hnd.mem_erase_iff,hR j]
    simp only[List.map_append,List.map_cons,List.mem_append,List.mem_cons]
    constructor
    ·rintro⟨h1,h2,(h3|h3|h3)|h3⟩
     ·exact⟨h2, .inl (.inl h3)⟩
     ·exact absurd h3 h1
     ·exact⟨h2, .inl (.inr h3)⟩
     ·exact⟨h2, .inr h3⟩
    ·rintro⟨h2,(h3|h3)|h3⟩
     ·refine⟨?_,h2, .inl (.inl h3)⟩
      rintro rfl
      obtain⟨y,hy,hye⟩:=List.mem_map.1 h3
      exact honce.2.2 y hy x (by simp) hye
     ·refine⟨?_,h2, .inl (.inr (.inr h3))⟩
      rintro rfl
      obtain⟨y,hy,hye⟩:=List.mem_map.1 h3
      exact(List.pairwise_cons.1 honce.2.1).1 y hy hye.symm
     ·exact⟨fun e=>h3 (by rw[e];exact hxD),h2, .inr h3⟩
   ·--it writes or calls,and comes next
    have hiD:i ∉ D:=(((hR i).1 hiR).2).resolve_left hip
    have hih:i∈t.heads:=by
     simp only[FT.fit,Bool.and_eq_true,List.all_eq_true,List.mem_range,Bool.or_eq_true,List.any_eq_true,List.contains_eq_mem,decide_eq_true_eq,Bool.not_eq_true',decide_eq_false_iff_not] at hfit
     rcases hfit.1.1 i hisz with(h1|h1)|⟨j,hj,h1,h2⟩
     ·exact absurd h1 hiD
     ·exact h1
     ·exact absurd h2 (hnowait j ((hR j).2 ⟨hj, .inr h1⟩))
    obtain⟨x,ns,t1,rfl,hok1,hg1,hx⟩:=FT.find (Qa:=Qa) t hih hok hgood
    obtain⟨o',o0,ho',hc0,e1,e2,e3,e4⟩:=hg1.1
    rw[hoo] at ho'
    injection ho' with ho'
    subst ho'
    simp only[FT.ok,Bool.and_eq_true,decide_eq_true_eq,Bool.not_eq_true',List.contains_eq_mem,decide_eq_false_iff_not,List.all_eq_true,List.mem_range,Bool.or_eq_true,Bool.and_true,bne_iff_ne,ne_eq] at hok1
    obtain⟨⟨⟨⟨⟨⟨⟨⟨k1,k2⟩,k3⟩,k4⟩,k5⟩,k6⟩,k7⟩,k8⟩,k9⟩:=hok1
    have hneN:∀y∈pre,y.2.op.ne=true:=fun y hy=>(hN y (hsub.subset hy)).1
    have hfree:∀y∈pre,¬Waits b x.1 y.1:=fun y hy=>hnowait y.1 ((hR y.1).2 ⟨(hN y (hsub.subset hy)).2.1, .inl (List.mem_map.2 ⟨y,hy,rfl⟩)⟩)
    have ho2:aops P (pre.map (·.2)++x.2::ns.map (·.2)) (atP P Qa t1.bare) ρ h:=aops_append.2 (aops_imp hx ho)
    have hpull:=pull (P:=P) (pre:=pre.map (·.2)) (rest:=ns.map (·.2)) (i:=x.2) (Q:=atP P Qa t1.bare) (ρ:=ρ) (h:=h) ho2
     (fun j hj=>by obtain⟨y,hy,rfl⟩:=List.mem_map.1 hj;exact hneN y hy)
     (fun j hj=>by
      obtain⟨y,hy,rfl⟩:=List.mem_map.1 hj
      obtain⟨_,_,_,_,_,_,_,hh⟩:=hRemP.is y hy
      exact hh (hneN y hy))
     (fun j hj=>by
      obtain⟨y,hy,rfl⟩:=List.mem_map.1 hj
      rcases k3 y (hsub.subset hy) with h1|h1
      ·exact absurd h1 (hfree y hy)
      ·exact h1)
     (by rw[List.pairwise_map];exact hRemP.stab)
     (fun j hj=>by obtain⟨y,hy,rfl⟩:=List.mem_map.1 hj;exact hRemP.self y hy)
     (fun j hj=>by
      obtain⟨y,hy,rfl⟩:=List.mem_map.1 hj
      rcases hg1.2.2.1 y (hsub.subset hy) (hneN y hy) with h1|h1|h1|h1
      ·exact .inl h1
      ·exact .inr (.inl h1)
      ·exact absurd h1 (hfree y hy)
      ·exact .inr (.inr h1))
    rw[e2,e3] at hpull
    refine step_sound hoo hc0 hpull hs (fun v h' a' w' hk hs'=> ?_)
    have hnsI:∀y∈N++ns,y.2.op.ne=true:=by
     intro y hy
     rcases List.mem_append.1 hy with hy|hy
     ·exact(hN y hy).1
     ·exact(k5 y hy).1.1.1
    have hRem1:Rem P n ops b (N++ns):=Rem.of k4 hnsI (fun y hy=>by
     rcases List.mem_append.1 hy with hy|hy
     ·exact hRem.is y hy
     ·exact hg1.2.1 y hy)
    refine ih (R.erase x.1) (pre++ns) (N++ns) (D++x.1::ns.map (·.1)) t1 _ _ h' a' w' hlen (hnd.erase _) (hsub.append (List.Sublist.refl ns)) hRem1 (fun y hy=> ?_) (fun j=> ?_) k9 hg1.2.2.2.1 k8 (by simp[hsz]) hli' hcl' (by rw[←e1];simpa using hk) hs'
    ·rcases List.mem_append.1 hy with hy|hy
     ·obtain⟨q1,q2,q3,q4⟩:=hN y hy
      exact⟨q1,q2,by simp[q3],fun j hj hw=>by simp[q4 j hj hw]⟩
     ·refine⟨(k5 y hy).1.1.1,(k5 y hy).2,by simp only[List.mem_append,List.mem_cons,List.mem_map];exact .inr (.inr ⟨y,hy,rfl⟩),fun j hj hw=> ?_⟩
      rcases k7 y hy j hj with h1|h1
      ·unfold waitsB at h1
       unfold Waits at hw
       rw[hw] at h1
       cases h1
      ·exact h1
    ·rw[hnd.mem_erase_iff,hR j]
     simp only[List.map_append,List.mem_append,List.mem_cons]
     constructor
     ·rintro⟨h1,h2,h3|h3⟩
      ·exact⟨h2, .inl (.inl h3)⟩
      ·by_cases h4:j∈ns.map (·.1)
       ·exact⟨h2, .inl (.inr h4)⟩
       ·exact⟨h2, .inr (fun h5=>h5.elim h3 (fun h5=>h5.elim h1 h4))⟩
     ·rintro⟨h2,(h3|h3)|h3⟩
      ·refine⟨?_,h2, .inl h3⟩
       rintro rfl
       exact hip h3
      ·obtain⟨y,hy,rfl⟩:=List.mem_map.1 h3
       have:=k5 y hy
       exact⟨this.1.2,h2, .inr this.1.1.2⟩
      ·exact⟨fun e=>h3 (.inr (.inl e)),h2, .inr (fun h4=>h3 (.inl h4))⟩
end
section
variable (P:Program) (n:Nat)
inductive IT where
 |fin
 |no
 |alt (x:Nat) (ns:List Nat) (t r:IT)
def nesGo (b:Array Nat) (base:Array AOper) (nes:List Nat):Nat→Nat→List Nat→List Nat×Nat
 |0,done,acc=>(acc.reverse,done)
 |f+1,done,acc=>match pickNext b base done nes with
  |some i=>nesGo b base nes f (done|||2^i) (i::acc)
  |none=>(acc.reverse,done)
def itAlts (go:Nat→IT) (nxt:Nat→List Nat×Nat) (done:Nat):List Nat→IT
 |[]=> .no
 |x::xs=> .alt x (nxt (done|||2^x)).1 (go (nxt (done|||2^x)).2) (itAlts go nxt done xs)
def itGo (b:Array Nat) (base:Array AOper) (nes effs:List Nat):Nat→Nat→IT
 |0,_=> .fin
 |f+1,done=>
  match effs.filter (fun i=> !done.testBit i&&((b.getD i 0)&&&done==b.getD i 0)) with
  |[]=> .fin
  |x::xs=>itAlts (itGo b base nes effs f) (fun d=>nesGo b base nes base.size d []) done (x::xs)
def mkNs (base:Array AOper) (is:List Nat):List (Nat×AOper):=is.filterMap fun i=>match base[i]? with
 |some o=>if o.op.ne=true then some (i,{o with chks:=[]}) else none
 |none=>none
def IT.mk (b:Array Nat) (base:Array AOper):List (Nat×AOper)→IT→FT
 |_, .fin=> .fin
 |_, .no=> .no
 |N, .alt i ns t r=>match base[i]? with
  |none=> .no
  |some o=>
   let cs:=if o.op.ne then [] else N.filterMap fun j=>if !j.2.op.pure&& !(b.getD i 0).testBit j.1 then some (j.2.dst,j.2.g,j.2.op) else none
   .alt (i,{o with chks:=cs}) (mkNs base ns) (t.mk b base (N++mkNs base ns)) (r.mk b base N)
def treeOk (b:Array Nat) (ops:Array Oper) (N:List (Nat×AOper)) (t:FT):Bool:=
 predB b ops&&pairsB b N&&(N.all fun x=>decide (x.1<ops.size)&&(List.range ops.size).all fun j=> !waitsB b x.1 j||(N.map (·.1)).contains j)&&t.fit b ops.size (N.map (·.1))&&t.ok b ops.size N (N.map (·.1))
def compTree (ops:Array Oper):Option (List AOper×AT):=
 match ops.toList.mapM (comp P n ops) with
 |none=>none
 |some base=>
  let b:=Region.before ops
  let is:=List.range base.toArray.size
  let nes:=is.filter fun i=>((base.toArray[i]?).map (·.op.ne)).getD false
  let effs:=is.filter fun i=> !((base.toArray[i]?).map (·.op.ne)).getD false
  let s:=nesGo b base.toArray nes base.toArray.size 0 []
  let N:=mkNs base.toArray s.1
  let t:=(itGo b base.toArray nes effs base.toArray.size s.2).mk b base.toArray N
  if treeOk b ops N t=true then some (N.map (·.2),t.bare) else none
end
section
variable {P:Program} {n:Nat} {base:Nat} {w0:World} {μ0:Mu}
theorem mkNs_mem {base:Array AOper} {is:List Nat}:∀y∈mkNs base is,∃o,base[y.1]? =some o∧y.2.dst=o.dst∧y.2.g=o.g∧y.2.op=o.op∧y.2.op.ne=true∧y.2.chks=[]:=by
 intro y hy
 obtain⟨i,_,h1⟩:=List.mem_filterMap.1 hy
 split at h1
 ·rename_i o ho
  split at h1
  ·rename_i hne
   injection h1 with h1
   subst h1
   exact⟨o,ho,rfl,rfl,rfl,hne,rfl⟩
  ·cases h1
 ·cases h1
theorem IT.good {ops:Array Oper} {b:Array Nat} {bs:Array AOper} (hbase:∀(i:Nat) (o:AOper),bs[i]? =some o→∃o',ops[i]? =some o'∧comp P n ops o'=some o):∀(t:IT) (N:List (Nat×AOper)),(t.mk b bs N).good P n ops b N
 | .fin,_=>trivial
 | .no,_=>trivial
 | .alt i ns t r,N=>by
  simp only[IT.mk]
  cases ho:bs[i]? with
  |none=>trivial
  |some o=>
   simp only
   obtain⟨o',h1,h2⟩:=hbase i o ho
   refine⟨⟨o',o,h1,h2,rfl,rfl,rfl,fun h=>by simp only at h⊢;rw[if_pos h]⟩,fun y hy=> ?_,fun j hj hne=> ?_,IT.good hbase t _,IT.good hbase r _⟩
   ·obtain⟨oy,q1,q2,q3,q4,q5,q6⟩:=mkNs_mem y hy
    obtain⟨oy',q7,q8⟩:=hbase y.1 oy q1
    exact⟨oy',oy,q7,q8,q2,q3,q4,fun _=>q6⟩
   ·by_cases hp:j.2.op.pure=true
    ·exact .inl hp
    ·by_cases hn:o.op.ne=true
     ·exact .inr (.inl hn)
     ·by_cases hw:(b.getD i 0).testBit j.1=true
      ·exact .inr (.inr (.inl hw))
      ·refine .inr (.inr (.inr ?_))
       simp only
       rw[if_neg hn]
       have hw':(b.getD i 0).testBit j.1=false:=by simpa using hw
       refine List.mem_filterMap.2 ⟨j,hj, ?_⟩
       rw[if_pos (by rw[hw'];simp[hp])]
theorem predB_spec {b:Array Nat} {ops:Array Oper} (k2:predB b ops=true):∀(i:Nat) (o:Oper),ops[i]? =some o→(∀e∈o.after,Region.binds .any e=true→e.on<ops.size∧Waits b i e.on)∧(∀j,j<ops.size→Waits b i j→∃e∈o.after,Region.binds .any e=true∧(e.on=j∨Waits b e.on j)):=by
 intro i o hi
 have hisz:i<ops.size:=(Array.getElem?_eq_some_iff.1 hi).1
 have:=(List.all_eq_true.1 k2) i (by simp[hisz])
 rw[hi] at this
 simp only[Bool.and_eq_true,Array.all_eq_true_iff_forall_mem,List.all_eq_true,List.mem_range] at this
 refine⟨fun e he hb=> ?_,fun j hj hw=> ?_⟩
 ·have h1:=this.1 e he
  simp only[hb,Bool.not_true,Bool.false_or,Bool.and_eq_true,decide_eq_true_eq] at h1
  exact h1
 ·have h1:=this.2 j hj
  unfold Waits at hw
  simp only[hw,Bool.not_true,Bool.false_or] at h1
  rw[←Array.any_toList,List.any_eq_true] at h1
  obtain⟨e,he,h1⟩:=h1
  simp only[Bool.and_eq_true,Bool.or_eq_true,beq_iff_eq] at h1
  exact⟨e,by simpa using he,h1.1,h1.2⟩
theorem base_of {ops:Array Oper} {bs:List AOper} (hbs:ops.toList.mapM (comp P n ops)=some bs):∀(i:Nat) (o:AOper),bs.toArray[i]? =some o→∃o',ops[i]? =some o'∧comp P n ops o'=some o:=by
 intro i o hi
 have h1:(ops.toList.map (comp P n ops))[i]? =some (some o):=by rw[mapM_get hbs,List.getElem?_map];simp at hi;simp[hi]
 rw[List.getElem?_map] at h1
 cases ho':ops.toList[i]? with
 |none=>rw[ho'] at h1;simp at h1
 |some o'=>rw[ho'] at h1;simp at h1;exact⟨o',by simpa using ho',h1⟩
theorem fork_sound {ops:Array Oper} {id:Nat} {os:List AOper} {t:AT} {Q:Exit→Act→World→Prop} {Qa:Env→H→Prop} (hm:P.follows .mixedOrders=true) (hc:compTree P n ops=some (os,t)) (hq:∀ρ h a w,Qa ρ h→Sim n base w0 μ0 ρ h a w→Q .normal a w)
  {ρ:Env} {h:H} {a:Act} {w:World} (ho:aops P os (atP P Qa t) ρ h) (hs:Sim n base w0 μ0 ρ h a w):(Code.region id ops true).wp P Q a w:=by
 unfold compTree at hc
 split at hc
 ·cases hc
 ·rename_i bs hbs
  simp only at hc
  split at hc
  ·rename_i hok
   injection hc with hc
   injection hc with hc1 hc2
   subst hc1;subst hc2
   have hbase:=base_of hbs
   have hgood:=IT.good (b:=Region.before ops) hbase
   generalize hN:mkNs bs.toArray _=N at*
   have hNm:∀y∈N,∃o,bs.toArray[y.1]? =some o∧y.2.dst=o.dst∧y.2.g=o.g∧y.2.op=o.op∧y.2.op.ne=true∧y.2.chks=[]:=fun y hy=>mkNs_mem y (by rw[hN];exact hy)
   generalize itGo _ _ _ _ _ _=it at*
   have hg:=hgood it N
   simp only[treeOk,Bool.and_eq_true,List.all_eq_true,decide_eq_true_eq,List.mem_range,Bool.or_eq_true,Bool.not_eq_true',List.contains_eq_mem] at hok
   obtain⟨⟨⟨⟨k1,k2⟩,k3⟩,k4⟩,k5⟩:=hok
   have hpred:=predB_spec k1
   refine wp_region_any hm ?_
   refine tree_sound hq (fun i o hi=>(hpred i o hi).1) (fun i o hi=>(hpred i o hi).2) ops.size (List.range ops.size) N N (N.map (·.1)) (it.mk (Region.before ops) bs.toArray N) (Array.replicate ops.size false) ρ h a _ (by simp) List.nodup_range (List.Sublist.refl N) (Rem.of k2 (fun y hy=>(hNm y hy).choose_spec.2.2.2.2.1) (fun y hy=> ?_)) (fun y hy=> ?_) (fun i=> ?_) k5 hg k4 (by simp) ?_ ?_ ho ?_
   ·obtain⟨o,h1,h2,h3,h4,h5,h6⟩:=hNm y hy
    obtain⟨o',h7,h8⟩:=hbase y.1 o h1
    exact⟨o',o,h7,h8,h2,h3,h4,fun _=>h6⟩
   ·refine⟨(hNm y hy).choose_spec.2.2.2.2.1,(k3 y hy).1,List.mem_map.2 ⟨y,hy,rfl⟩,fun j hj hw=> ?_⟩
    rcases(k3 y hy).2 j hj with h1|h1
    ·unfold waitsB at h1
     unfold Waits at hw
     rw[hw] at h1
     cases h1
    ·exact h1
   ·simp only[List.mem_range]
    exact⟨fun h=>⟨h,Classical.em _⟩,fun h=>h.1⟩
   ·intro i hi
    have h1:(Array.replicate ops.size false).getD i true=false:=by simp[Array.getD,hi]
    rw[h1]
    simp[hi]
   ·intro k hk hl
    have h1:(Array.replicate ops.size false).getD k true=false:=by simp[Array.getD,hk]
    rw[h1] at hl
    cases hl
   ·obtain⟨μ,q1,q2,q3,q4⟩:=hs
    exact⟨μ,q1,q2,q3.drew _,q4⟩
  ·cases hc
end
end
section
inductive AC where
 |skip
 |reg (os:List AOper)
 |regt (os:List AOper) (t:AT)
 |seq (a b:AC)
 |cond (c:AO) (x y:AC)
 |block (id:Nat) (c:AC)
 |loop (c:AC)
 |exit (id:Nat)
 |ret

--short names,for the printed codes
abbrev o (d:Nat) (p:AOp):AOper:=⟨some d,none,p,[]⟩
abbrev od (p:AOp):AOper:=⟨none,none,p,[]⟩
abbrev mv (d n:Nat):AOper:=⟨some d,none, .mv (.t n),[]⟩
abbrev bn (d:Nat) (q:BinOp) (x y:Nat):AOper:=⟨some d,none, .bin q (.t x) (.t y),[]⟩
abbrev og (d t:Nat) (b:Bool) (p:AOp):AOper:=⟨some d,some (t,b),p,[]⟩
abbrev i64 (n:Int):AO:= .c (.int .i64 n)
abbrev u64 (n:Int):AO:= .c (.int .u64 n)
abbrev Post:=Exit→Env→H→Prop
def athen (next:Env→H→Prop) (Q:Post):Post
 | .normal,ρ,h=>next ρ h
 |e,ρ,h=>Q e ρ h
def ablk (id:Nat) (Q:Post):Post
 | .exit id',ρ,h=>if id'=id then Q .normal ρ h else Q (.exit id') ρ h
 |e,ρ,h=>Q e ρ h
section
variable (P:Program)
def awp:AC→Post→Env→H→Prop
 | .skip,Q,ρ,h=>Q .normal ρ h
 | .reg os,Q,ρ,h=>aops P os (Q .normal) ρ h
 | .regt os t,Q,ρ,h=>aops P os (atP P (Q .normal) t) ρ h
 | .seq a b,Q,ρ,h=>awp a (athen (awp b Q) Q) ρ h
 | .cond c x y,Q,ρ,h=>∃t,aev ρ c= .bool t∧(t=true→awp x Q ρ h)∧(t=false→awp y Q ρ h)
 | .block id c,Q,ρ,h=>awp c (ablk id Q) ρ h
 | .loop c,Q,ρ,h=>∃(I:Nat→Env→H→Prop) (n:Nat),I n ρ h∧∀n ρ h,I n ρ h→awp c (athen (fun ρ' h'=>∃m,m<n∧I m ρ' h') Q) ρ h
 | .exit id,Q,ρ,h=>Q (.exit id) ρ h
 | .ret,Q,ρ,h=>Q .ret ρ h
variable (n:Nat)
def compile:Code→Option AC
 | .skip=>some .skip
 | .region _ ops false=>(ops.toList.mapM (comp P n ops)).map .reg
 | .region _ ops true=>match compDraw P n ops with
  |some os=>some (.reg os)
  |none=>(compTree P n ops).map fun x=> .regt x.1 x.2
 | .seq a b=>match compile a,compile b with
  |some x,some y=>some (.seq x y)
  |_,_=>none
 | .cond c a b=>match compile a,compile b with
  |some x,some y=>some (.cond (cop n c) x y)
  |_,_=>none
 | .block id c=>(compile c).map (.block id)
 | .loop c=>(compile c).map .loop
 | .exit id=>some (.exit id)
 | .ret=>some .ret
 |_=>none
end
section
variable {P:Program} {n:Nat} {base:Nat} {w0:World} {μ0:Mu}
def Lift (n:Nat) (base:Nat) (w0:World) (μ0:Mu) (Q:Post):Exit→Act→World→Prop:=fun e a w=>∃ρ h,Sim n base w0 μ0 ρ h a w∧Q e ρ h
theorem code_sound (hm:P.follows .mixedOrders=true):∀(c:Code) (ac:AC) (Q:Post) (Qr:Exit→Act→World→Prop) (ρ:Env) (h:H) (a:Act) (w:World),compile P n c=some ac→awp P ac Q ρ h→Sim n base w0 μ0 ρ h a w→
  (∀e a w,Lift n base w0 μ0 Q e a w→Qr e a w)→c.wp P Qr a w:=by
 intro c
 induction c with
 |skip=>
  intro ac Q Qr ρ h a w hc hx hs hq
  simp only[compile] at hc
  injection hc with hc
  subst hc
  exact wp_skip (hq _ _ _ ⟨ρ,h,hs,hx⟩)
 |region id ops draw=>
  intro ac Q Qr ρ h a w hc hx hs hq
  cases draw with
  |false=>
   simp only[compile,Option.map_eq_some_iff] at hc
   obtain⟨os,hos,rfl⟩:=hc
   exact region_sound hos (fun ρ h a w hQ hs=>hq _ _ _ ⟨ρ,h,hs,hQ⟩) hx hs
  |true=>
   simp only[compile] at hc
   split at hc
   ·rename_i os hos
    injection hc with hc
    subst hc
    exact draw_sound hm hos (fun ρ h a w hQ hs=>hq _ _ _ ⟨ρ,h,hs,hQ⟩) hx hs
   ·obtain⟨⟨os,t⟩,hos,rfl⟩:=Option.map_eq_some_iff.1 hc
    exact fork_sound hm hos (fun ρ h a w hQ hs=>hq _ _ _ ⟨ρ,h,hs,hQ⟩) hx hs
 |seq x y ihx ihy=>
  intro ac Q Qr ρ h a w hc hx hs hq
  simp only[compile] at hc
  split at hc
  ·rename_i ax ay hax hay
   injection hc with hc
   subst hc
   refine wp_seq (ihx ax _ _ ρ h a w hax hx hs ?_)
   rintro e a' w' ⟨ρ',h',hs',hQ⟩
   cases e with
   |normal=>exact ihy ay Q Qr ρ' h' a' w' hay hQ hs' hq
   |exit id=>exact hq _ _ _ ⟨ρ',h',hs',hQ⟩
   |goto l=>exact hq _ _ _ ⟨ρ',h',hs',hQ⟩
   |ret=>exact hq _ _ _ ⟨ρ',h',hs',hQ⟩
   |panic ch=>exact hq _ _ _ ⟨ρ',h',hs',hQ⟩
   |outgrown=>exact hq _ _ _ ⟨ρ',h',hs',hQ⟩
  ·cases hc
 |cond c x y ihx ihy=>
  intro ac Q Qr ρ h a w hc hx hs hq
  simp only[compile] at hc
  split at hc
  ·rename_i ax ay hax hay
   injection hc with hc
   subst hc
   obtain⟨t,ht,h1,h2⟩:=hx
   have hev:a.eval c= .bool t:=by
    obtain⟨μ,_,hT,_,_⟩:=hs
    have:=cop_rel hT c
    rw[ht] at this
    cases hv:a.eval c<;>rw[hv] at this<;>cases this
    rfl
   cases t with
   |true=>exact wp_cond_true hev (ihx ax Q Qr ρ h a w hax (h1 rfl) hs hq)
   |false=>exact wp_cond_false hev (ihy ay Q Qr ρ h a w hay (h2 rfl) hs hq)
  ·cases hc
 |block id c ih=>
  intro ac Q Qr ρ h a w hc hx hs hq
  simp only[compile,Option.map_eq_some_iff] at hc
  obtain⟨ax,hax,rfl⟩:=hc
  refine wp_block (ih ax _ _ ρ h a w hax hx hs ?_)
  rintro e a' w' ⟨ρ',h',hs',hQ⟩
  cases e with
  |exit id'=>
   simp only[ablk] at hQ
   simp only[Exit.inBlock]
   split at hQ
   ·rename_i he;rw[if_pos he];exact hq _ _ _ ⟨ρ',h',hs',hQ⟩
   ·rename_i he;rw[if_neg he];exact hq _ _ _ ⟨ρ',h',hs',hQ⟩
  |normal=>exact hq _ _ _ ⟨ρ',h',hs',hQ⟩
  |goto l=>exact hq _ _ _ ⟨ρ',h',hs',hQ⟩
  |ret=>exact hq _ _ _ ⟨ρ',h',hs',hQ⟩
  |panic ch=>exact hq _ _ _ ⟨ρ',h',hs',hQ⟩
  |outgrown=>exact hq _ _ _ ⟨ρ',h',hs',hQ⟩
 |loop c ih=>
  intro ac Q Qr ρ h a w hc hx hs hq
  simp only[compile,Option.map_eq_some_iff] at hc
  obtain⟨ax,hax,rfl⟩:=hc
  obtain⟨I,m0,hI,hround⟩:=hx
  have key:∀k m ρ h a w,m<k→I m ρ h→Sim n base w0 μ0 ρ h a w→Code.rounds P c Qr k a w:=by
   intro k
   induction k with
   |zero=>intro m ρ h a w hk;omega
   |succ k ihk=>
    intro m ρ h a w hk hI hs
    rw[rounds_succ]
    refine ih ax _ _ ρ h a w hax (hround m ρ h hI) hs ?_
    rintro e a' w' ⟨ρ',h',hs',hQ⟩
    cases e with
    |normal=>
     obtain⟨m',hlt,hI'⟩:=hQ
     exact ihk m' ρ' h' a' w' (by omega) hI' hs'
    |exit id=>exact hq _ _ _ ⟨ρ',h',hs',hQ⟩
    |goto l=>exact hq _ _ _ ⟨ρ',h',hs',hQ⟩
    |ret=>exact hq _ _ _ ⟨ρ',h',hs',hQ⟩
    |panic ch=>exact hq _ _ _ ⟨ρ',h',hs',hQ⟩
    |outgrown=>exact hq _ _ _ ⟨ρ',h',hs',hQ⟩
  exact wp_loop_rounds (m0+1) (key _ m0 ρ h a w (Nat.lt_succ_self _) hI hs)
 |exit id=>
  intro ac Q Qr ρ h a w hc hx hs hq
  simp only[compile] at hc
  injection hc with hc
  subst hc
  exact wp_exit (hq _ _ _ ⟨ρ,h,hs,hx⟩)
 |ret=>
  intro ac Q Qr ρ h a w hc hx hs hq
  simp only[compile] at hc
  injection hc with hc
  subst hc
  exact wp_ret (hq _ _ _ ⟨ρ,h,hs,hx⟩)
 |_=>intro ac Q Qr ρ h a w hc;simp[compile] at hc
inductive AR where
 |t (n:Nat)
 |c (n:Nat) (sz:Option Nat)
def compRes (P:Program) (n:Nat):List ResultVar→Option (List AR)
 |[]=>some []
 | .tmp t::rs=>if t<n then(compRes P n rs).map (AR.t t:: ·) else none
 | .cell a ty::rs=>match szT P ty with
  |some s=>if a<n then(compRes P n rs).map (AR.c a s:: ·) else none
  |none=>none
def tupOf:List AV→AV
 |[v]=>v
 |l=> .tup l
def afin (P:Program):List AR→List AV→(AV→H→Prop)→Env→H→Prop
 |[],acc,K,_,h=>K (tupOf acc) h
 | .t n::rs,acc,K,ρ,h=>afin P rs (acc++[ρ n]) K ρ h
 | .c n sz::rs,acc,K,ρ,h=>aexec P (.ld sz (.t n)) ρ h (fun v _=>afin P rs (acc++[v]) K ρ h)
def apost (P:Program) (rs:List AR) (K:AV→H→Prop):Post
 | .normal,ρ,h=>afin P rs [] K ρ h
 | .ret,ρ,h=>afin P rs [] K ρ h
 |_,_,_=>False
def envOf (l:List AV):Env:=fun t=>(l[t]?).getD .junk
def oneRes (tmps:Array Value):ResultVar→Sem Value
 | .tmp t=>pure (tmps.getD t undef)
 | .cell x t=>do loadVar t (←asAddr (tmps.getD x undef))
theorem results_eq (fn:Func) (tmps:Array Value):results fn tmps=(do
  let vs←List.toArray<$>fn.results.toList.mapM (oneRes tmps)
  pure (if h:vs.size=1 then vs[0] else .tuple vs)):=by
 have e:fn.results.mapM (oneRes tmps)=List.toArray<$>fn.results.toList.mapM (oneRes tmps):=by
  rw[←List.mapM_toArray,Array.toArray_toList]
 rw[←e]
 rfl
theorem res_sound {a:Act} {w:World} {h:H} {ρ:Env} {K:AV→H→Prop}:∀(rv:List ResultVar) (rs:List AR) (acc:List AV) (vs:List Value) (μ:Mu),RelT n μ ρ a→Rep base w0 μ w h→compRes P n rv=some rs→afin P rs acc K ρ h→RelA μ acc vs→
  ∃μ' l us,μ.le μ'∧RelA μ' l (vs++us)∧Rep base w0 μ' w h∧K (tupOf l) h∧us.length=rv.length∧(rv.mapM (oneRes a.tmps)).run P w= .ok us w
 |[],rs,acc,vs,μ,hT,R,hc,hf,hr=>by
  simp only[compRes] at hc
  injection hc with hc
  subst hc
  exact⟨μ,acc,[],μ.le_refl,by simpa using hr,R,hf,rfl,by simp⟩
 | .tmp t::rv,rs,acc,vs,μ,hT,R,hc,hf,hr=>by
  simp only[compRes] at hc
  split at hc
  ·rename_i ht
   obtain⟨rs',hrs,rfl⟩:=Option.map_eq_some_iff.1 hc
   simp only[afin] at hf
   obtain⟨μ',l,us,h0,h1,hR,h2,h3,h4⟩:=res_sound rv rs' _ (vs++[a.tmps.getD t undef]) μ hT R hrs hf (hr.append ((RelA.nil μ).cons (hT.2 t ht)))
   refine⟨μ',l,a.tmps.getD t undef::us,h0,by simpa using h1,hR,h2,by simp[h3], ?_⟩
   rw[List.mapM_cons,Sem.run_bind]
   show((Sem.run P (pure (a.tmps.getD t undef)) w).andThen _)=_
   rw[Sem.run_pure,Result.andThen_ok,Sem.run_bind,h4]
   rfl
  ·cases hc
 | .cell x ty::rv,rs,acc,vs,μ,hT,R,hc,hf,hr=>by
  simp only[compRes] at hc
  split at hc
  ·rename_i s hs
   split at hc
   ·rename_i ht
    obtain⟨rs',hrs,rfl⟩:=Option.map_eq_some_iff.1 hc
    simp only[afin] at hf
    have hf2:aexec P (.ld s (.t x)) ρ h (fun v h'=>h'=h∧afin P rs' (acc++[v]) K ρ h):=by
     rcases det (P:=P) (o:= .ld s (.t x)) rfl ρ h with⟨v,hv⟩|hv
     ·exact(hv _).2 ⟨rfl,(hv _).1 hf⟩
     ·exact absurd hf (hv _)
    obtain⟨v,hrun,μ',u,h',q1,q2,q3,rfl,q4⟩:=load_any (P:=P) (K:=fun v h'=>h'=h∧afin P rs' (acc++[v]) K ρ h) hs (hT.2 x ht) R hf2
    obtain⟨μ2,l,us,h0,h1,hR,h2,h3,h4⟩:=res_sound rv rs' _ (vs++[v]) μ' (hT.mono q1) q3 hrs q4 ((hr.mono q1).append ((RelA.nil μ').cons q2))
    refine⟨μ2,l,v::us,Mu.le_trans q1 h0,by simpa using h1,hR,h2,by simp[h3], ?_⟩
    have hl:(oneRes a.tmps (.cell x ty)).run P w= .ok v w:=by
     unfold oneRes
     simp only
     cases hv:a.tmps.getD x undef with
     |pointer ad=>
      rw[hv] at hrun
      cases ad with
      |none=>simp[Instr.loadAt,Instr.sureAddr] at hrun
      |some ad=>simpa [Instr.loadAt,Instr.sureAddr,asAddr] using hrun
     |_=>rw[hv] at hrun;simp[Instr.loadAt,Instr.sureAddr] at hrun
    rw[List.mapM_cons,Sem.run_bind,hl,Result.andThen_ok,Sem.run_bind,h4]
    rfl
   ·cases hc
  ·cases hc
theorem acalls_of (hm:P.follows .mixedOrders=true) {f:FuncId} {fn:Func} {c:Code} {ac:AC} {rs:List AR} {avs:List AV} {h:H} {K:AV→H→Prop} (hf:P.funcs[f]? =some fn) (hb:fn.body=some c) (hname:(fn.name== "runtime.NumGoroutine")=false)
  (hc:compile P fn.ntmps c=some ac) (hrs:compRes P fn.ntmps fn.results.toList=some rs) (hlen:avs.length≤fn.ntmps) (hx:awp P ac (apost P rs K) (envOf avs) h):ACalls P f avs h K:=by
 intro base w0 μ w vs R hr
 refine .inl ⟨?_, ?_⟩
 ·have hname':¬fn.name= "runtime.NumGoroutine" :=by simpa using hname
  simp[callFunc,hf,hname',hb]
 ·refine calls_of_wp hf hb (code_sound (base:=base) (w0:=w0) (μ0:=μ) hm c ac _ _ (envOf avs) h _ w hc hx ⟨μ,μ.le_refl,⟨?_,fun t ht=> ?_⟩,R,rfl⟩ ?_)
  ·have:=hr.1
   simp
   omega
  ·have hl:=hr.1
   unfold envOf
   rcases Nat.lt_or_ge t avs.length with h1|h1
   ·have hv:t<vs.length:=by omega
    have e:(vs.toArray++Array.replicate (fn.ntmps-vs.toArray.size) undef).getD t undef=vs[t]:=by
     simp[Array.getD_eq_getD_getElem?,Array.getElem?_append,hv]
    rw[e,List.getElem?_eq_getElem h1]
    exact hr.2 t _ _ (List.getElem?_eq_getElem h1) (List.getElem?_eq_getElem hv)
   ·rw[List.getElem?_eq_none h1]
    exact .junk _
  ·rintro e a' w' ⟨ρ',h',⟨μ',q1,q2,q3,q4⟩,hQ⟩
   have fin:afin P rs [] K ρ' h'→a'.defers=[]∧∃v,(results fn a'.tmps).run P w'= .ok v w'∧∃v_1,Ending.returned v=Ending.returned v_1∧∃μ'_1 r h'',μ.le μ'_1∧Rel μ'_1 r v_1∧Rep base w0 μ'_1 w' h''∧K r h'':=by
    intro hfin
    obtain⟨μ2,l,us,h0,h1,hR,h2,h3,h4⟩:=res_sound fn.results.toList rs [] [] μ' q2 q3 hrs hfin (RelA.nil _)
    simp only[List.nil_append] at h1
    have hrun:(results fn a'.tmps).run P w'= .ok (if h:us.length=1 then us[0] else .tuple us.toArray) w':=by
     rw[results_eq,Sem.run_bind,Sem.run_map,h4]
     simp only[Result.andThen_ok,Sem.run_pure]
     rfl
    refine⟨q4,_,hrun,_,rfl,μ2,tupOf l,h',Mu.le_trans q1 h0, ?_,hR,h2⟩
    by_cases hu:us.length=1
    ·rw[dif_pos hu]
     clear hrun
     obtain⟨u,rfl⟩:=List.length_eq_one_iff.1 hu
     obtain⟨x,rfl⟩:=List.length_eq_one_iff.1 h1.1
     exact h1.2 0 x u rfl rfl
    ·rw[dif_neg hu]
     have hl:tupOf l= .tup l:=by
      cases l with
      |nil=>rfl
      |cons x l=>
       cases l with
       |nil=>exact absurd h1.1.symm hu
       |cons y l=>rfl
     rw[hl]
     exact h1.tup
   cases e with
   |normal=>exact fin hQ
   |ret=>exact fin hQ
   |exit id=>exact hQ
   |goto l=>exact hQ
   |panic ch=>exact hQ.elim
   |outgrown=>exact hQ.elim
end
end
end Ab
end Go.Proofs.Ytkbglkjpdndkiaa
