import Derived.Test.YtpnjgjddabeapaaGreatDoorMa1
namespace Go.Proofs.YtpnjgjddabeapaaGreatDoor
set_option linter.all false
set_option maxHeartbeats 400000000
section
def BF(ops:List Oper)(gi:List Nat):List Nat→List Nat→Bool
 |_,[]=>true
 |pre,i::rest=>
  ((ops[i]?).map fun o=>(ur ops o).all fun t=>pre.all (fun j=> !(da ops j==some t)||jG ops i j)&&rest.all (fun j=> !(da ops j==some t)||jG ops j i)).getD false&&
  (!gi.elem i||rest.all (fun j=>gi.elem j||jG ops j i))&&BF ops gi (i::pre) rest
def EW(n:Nat)(ops:List Oper)(ord gi:List Nat)(k:Nat):Bool:=
 ops.all (fun o=> !eJ o.op)&&ops.all (fun o=>o.dst.all (fun d=>Nat.blt d n))&&iF (ops.filterMap (·.dst))&&
 (List.range k).all (fun i=>ord.elem i)&&iF ord&&BF ops gi [] ord&&ord.all (fun i=>Nat.blt i k)&&Nat.ble k ops.length&&
 ((List.range ops.length).all fun i=>((ops[i]?).map fun o=>(dI o).all (fun e=>Nat.blt e i)).getD false)&&
 ((List.range ops.length).all fun i=>Nat.blt i k||(List.range i).all (fun j=>jG ops i j))&&gi.all (fun i=>ord.elem i)
section
variable {P:Program} {n:Nat} {ops:List Oper} {Q:Exit→Act→World→Prop} {S:List Nat×Nat} {w0:World} {L0:Env} {G:List (Nat×GD)} {ord gi:List Nat} {k:Nat}
theorem nG:∀(rest pre:List Nat),BF ops gi pre rest=true→∀A r B,rest=A++r::B→∀o,ops[r]?=some o→
  (∀t∈ur ops o,(∀j,j∈A∨j∈pre→da ops j=some t→jG ops r j=true)∧(∀j∈B,da ops j=some t→jG ops j r=true))∧(gi.elem r=true→∀j∈B,gi.elem j=true∨jG ops j r=true)
 |[],_,_,A,r,B,h,_,_=>by cases A<;>simp at h
 |i::rest,pre,h,A,r,B,he,o,ho=>by
  simp only[BF,Bool.and_eq_true] at h
  obtain⟨⟨h1,h2⟩,h3⟩:=h
  cases A with
  |nil=>
   simp only[List.nil_append,List.cons.injEq] at he
   obtain⟨rfl,rfl⟩:=he
   rw[ho] at h1
   simp only[Option.map_some,Option.getD_some] at h1
   refine⟨fun t ht=>?_,fun hg j hj=>?_⟩
   ·have:=List.all_eq_true.1 h1 t ht
    simp only[Bool.and_eq_true] at this
    refine⟨fun j hj hd=>?_,fun j hj hd=>?_⟩
    ·rcases hj with hj|hj
     ·cases hj
     ·have:=List.all_eq_true.1 this.1 j hj
      simpa[hd] using this
    ·have:=List.all_eq_true.1 this.2 j hj
     simpa[hd] using this
   ·rw[hg] at h2
    simp only[Bool.not_true,Bool.false_or] at h2
    have:=List.all_eq_true.1 h2 j hj
    simpa using this
  |cons a A=>
   simp only[List.cons_append,List.cons.injEq] at he
   obtain⟨rfl,rfl⟩:=he
   obtain⟨g1,g2⟩:=nG _ (i::pre) h3 A r B rfl o ho
   refine⟨fun t ht=>⟨fun j hj hd=>(g1 t ht).1 j ?_ hd,(g1 t ht).2⟩,g2⟩
   rcases hj with hj|hj
   ·rcases List.mem_cons.1 hj with rfl|hj
    ·exact Or.inr (by simp)
    ·exact Or.inl hj
   ·exact Or.inr (by simp[hj])
structure Ag(n:Nat)(ops:List Oper)(ord gi:List Nat)(k:Nat):Prop where
 sel:∀o∈ops,eJ o.op=false
 dlt:∀o∈ops,∀d,o.dst=some d→d<n
 one:∀(i j:Nat) (oi oj:Oper) (t:Nat),ops[i]?=some oi→ops[j]?=some oj→oi.dst=some t→oj.dst=some t→i=j
 cover:∀i,i<k→i∈ord
 nodup:ord.Nodup
 ok:BF ops gi [] ord=true
 lt:∀i∈ord,i<k
 le:k≤ops.length
 ed:∀(i:Nat) (o:Oper),ops[i]?=some o→∀e∈dI o,e<i
 tl:∀i,i<ops.length→k≤i→∀j,j<i→jG ops i j=true
 gi:∀i∈gi,i∈ord
theorem Ag.of(h:EW n ops ord gi k=true):Ag n ops ord gi k:=by
 simp only[EW,Bool.and_eq_true] at h
 obtain⟨⟨⟨⟨⟨⟨⟨⟨⟨⟨h1,h2⟩,h3⟩,h4⟩,h5⟩,h6⟩,h7⟩,h8⟩,h9⟩,h10⟩,h11⟩:=h
 refine⟨fun o ho=>?_,fun o ho d hd=>?_,dL ops (eH _ h3),fun i hi=>?_,eH _ h5,h6,fun i hi=>?_,by simpa[Nat.ble_eq] using h8,fun i o ho e he=>?_,fun i hi hk j hj=>?_,fun i hi=>?_⟩
 ·simpa using List.all_eq_true.1 h1 o ho
 ·have:=List.all_eq_true.1 h2 o ho
  rw[hd] at this
  simpa[Nat.blt_eq] using this
 ·have:=List.all_eq_true.1 h4 i (by simpa using hi)
  rw[List.elem_eq_mem] at this
  exact of_decide_eq_true this
 ·simpa[Nat.blt_eq] using List.all_eq_true.1 h7 i hi
 ·have:=List.all_eq_true.1 h9 i (by simpa using(List.getElem?_eq_some_iff.1 ho).1)
  rw[ho] at this
  simp only[Option.map_some,Option.getD_some] at this
  simpa[Nat.blt_eq] using List.all_eq_true.1 this e he
 ·have:=List.all_eq_true.1 h10 i (by simpa using hi)
  simp only[Bool.or_eq_true,Nat.blt_eq] at this
  rcases this with h|h
  ·omega
  ·exact List.all_eq_true.1 h j (by simpa using hj)
 ·have:=List.all_eq_true.1 h11 i hi
  rw[List.elem_eq_mem] at this
  exact of_decide_eq_true this
theorem mP:∀{G:List (Nat×GD)} {i:Nat},ig G i=(G.map (·.1)).elem i
 |[],i=>rfl
 |(j,d)::G,i=>by
  have ih:=mP (G:=G) (i:=i)
  unfold ig at*
  simp only[ew,List.map_cons,List.elem_cons]
  by_cases e:j=i
  ·subst e;simp
  ·have h1:Nat.beq j i=false:=by rw[←Bool.not_eq_true,Nat.beq_eq];exact e
   have h2:(i==j)=false:=by simp;exact fun h=>e h.symm
   rw[h1,h2]
   simpa using ih
structure Fo(P:Program)(n:Nat)(ops:List Oper)(S:List Nat×Nat)(w0:World)(L0:Env)(G:List (Nat×GD))(K:Env→List Fact→Prop)(ord:List Nat)(D:Nat→Bool)(V:Nat→Value)(ξ:(i:Nat)→(bX G i).X)(a:Act)(w:World):Prop where
 closed:∀(i:Nat) (o:Oper),ops[i]?=some o→D i=true→∀e∈dI o,D e=true
 size:a.tmps.size=n
 defers:a.defers=[]
 slot:∀(i:Nat) (o:Oper) (d:Nat),ops[i]?=some o→D i=true→o.dst=some d→a.tmps[d]?=some (ij G V ξ i)
 old:∀t v,look L0 t=some v→(∀(i:Nat) (o:Oper),ops[i]?=some o→D i=true→o.dst≠some t)→a.tmps[t]?=some v
 kp:Kp S.1 w0 w
 k0:D S.2=false→Kp [] w0 w
 ph:∀i,ig G i=true→D i=true→(bX G i).phi (ξ i) w
 live:Live P S w0 ops G K D V ξ ord L0 []
theorem Fo.looks{K:Env→List Fact→Prop}{D:Nat→Bool}{V:Nat→Value}{ξ:(i:Nat)→(bX G i).X}{a:Act}{w:World}(c:Ag n ops ord gi k)(hst:Fo P n ops S w0 L0 G K ord D V ξ a w)(htl:∀i,i<ops.length→k≤i→D i=false)
  {r:Nat} {o:Oper} {A B:List Nat} {L':Env} (he:ord=A++r::B) (ho:ops[r]?=some o) (hdr:D r=false) (hanc:∀j,jG ops r j=true→D j=true) (hway:Way ops G L0 D V ξ (A.reverse++[]) L'):
  ∀t∈ur ops o,∀v,look L' t=some v→a.tmps[t]?=some v:=by
 intro t ht v hv
 obtain⟨g1,_⟩:=nG ord [] c.ok A r B he o ho
 rcases hway t v hv with⟨j,hj,h1,h2⟩|⟨h1,h2⟩
 ·have hjA:j∈A:=by simpa using hj
  have hdj:=hanc j ((g1 t ht).1 j (Or.inl hjA) h1)
  unfold da at h1
  cases hoj:ops[j]? with
  |none=>rw[hoj] at h1;simp at h1
  |some oj=>
   rw[hoj] at h1
   simp only[Option.bind_some] at h1
   rw[hst.slot j oj t hoj hdj h1,h2 hdj]
 ·refine hst.old t v h2 (fun i oi hoi hdi e=>?_)
  have hil:=(List.getElem?_eq_some_iff.1 hoi).1
  have hik:i<k:=by
   by_cases h:i<k
   ·exact h
   ·rw[htl i hil (by omega)] at hdi;cases hdi
  have hio:=c.cover i hik
  have hdi':da ops i=some t:=by simp[da,hoi,e]
  rw[he] at hio
  rcases List.mem_append.1 hio with hA|hB
  ·exact h1 i (by simpa using hA) hdi'
  ·rcases List.mem_cons.1 hB with rfl|hB
   ·rw[hdr] at hdi;cases hdi
   ·have h3:=(g1 t ht).2 i hB hdi'
    have:=eK hst.closed i oi hoi (hst.closed i oi hoi hdi) r h3
    rw[hdr] at this
    cases this
theorem rv{V:Nat→Value}{ξ:(i:Nat)→(bX G i).X}{r i:Nat}{v:Value}(h:i≠r):ij G (jH V r v) ξ i=ij G V ξ i:=by simp[ij,jH,h]
theorem rq{V:Nat→Value}{ξ:(i:Nat)→(bX G i).X}{r i:Nat}{x:(bX G r).X}(h:i≠r):ij G V (mg ξ r x) i=ij G V ξ i:=by simp[ij,me h]
theorem ub{a:Act}{n:Nat}{dst:Option Nat}{v:Value}(hs:a.tmps.size=n)(t:Nat)(u:Value)(h:a.tmps[t]?=some u)(hne:dst≠some t):(a.put dst v).tmps[t]?=some u:=by
 cases dst with
 |none=>exact h
 |some d=>
  have:d≠t:=fun e=>hne (by rw[e])
  simp only[Act.put]
  rw[Array.getElem?_setIfInBounds_ne this]
  exact h
theorem Bt{a:Act}{n d:Nat}{v:Value}(hs:a.tmps.size=n)(hd:d<n):(a.put (some d) v).tmps[d]?=some v:=by simp[Act.put,hs,hd]
theorem Fo.did{K:Env→List Fact→Prop}{D:Nat→Bool}{V V':Nat→Value}{ξ ξ':(i:Nat)→(bX G i).X}{a:Act}{w w':World}(c:Ag n ops ord gi k)(hst:Fo P n ops S w0 L0 G K ord D V ξ a w){r:Nat}{o:Oper}{v:Value}(ho:ops[r]?=some o)(hed:∀e∈dI o,D e=true)
  (hk:Dp S w0 G r w w') (hstab:∀i x,cm [] ((bX G i).phi x)) (hv:ij G V' ξ' r=v) (hoth:∀i,i≠r→ij G V' ξ' i=ij G V ξ i) (hx:∀i,i≠r→ξ' i=ξ i) (hr:ig G r=true→(bX G r).phi (ξ' r) w') (hlive:Live P S w0 ops G K (eN D r) V' ξ' ord L0 []):
  Fo P n ops S w0 L0 G K ord (eN D r) V' ξ' (a.put o.dst v) w':=by
 refine⟨fun i oi hoi hdi e he=>?_,?_,?_,fun i oi d hoi hdi hd=>?_,fun t u hu hno=>?_,(hk.elim (fun h=>hst.kp.trans h.any) (fun h=>h.1.elim (fun g=>g.2) (fun g=>g _ hst.kp))),(fun hd=>?_),fun i hg hdi=>?_,hlive⟩
 ·by_cases hir:i=r
  ·subst hir
   rw[ho] at hoi
   cases hoi
   exact jf (hed e he)
  ·rw[bH hir] at hdi
   exact jf (hst.closed i oi hoi hdi e he)
 ·cases hdd:o.dst with
  |none=>exact hst.size
  |some d=>simp[Act.put,hst.size]
 ·cases hdd:o.dst<;>exact hst.defers
 ·by_cases hir:i=r
  ·subst hir
   rw[ho] at hoi
   cases hoi
   rw[hd,hv]
   exact Bt hst.size (c.dlt o (List.mem_of_getElem? ho) d hd)
  ·rw[bH hir] at hdi
   rw[hoth i hir]
   exact ub hst.size d _ (hst.slot i oi d hoi hdi hd) (fun e=>hir (c.one i r oi o d hoi ho hd e))
 ·refine ub hst.size t u (hst.old t u hu (fun i oi hoi hdi=>hno i oi hoi (jf hdi))) (hno r o ho cS)
 ·by_cases hir:S.2=r
  ·rw[hir,cS] at hd
   cases hd
  ·rw[bH hir] at hd
   have h0:=hst.k0 hd
   rcases hk with h|⟨⟨h,-⟩|h,-⟩
   ·exact h0.trans h
   ·exact absurd h.symm hir
   ·exact h [] h0
 ·by_cases hir:i=r
  ·subst hir
   exact hr hg
  ·rw[bH hir] at hdi
   rw[hx i hir]
   exact hk.elim (fun h=>hstab i _ w w' h (hst.ph i hg hdi)) (fun h=>h.2 i _ hir (hst.ph i hg hdi))
def KX(n:Nat)(S:List Nat×Nat)(w0:World)(P:Program)(ops:List Oper)(Q:Exit→Act→World→Prop)(k:Nat)(L:Env)(Γ:List Fact):Prop:=
 ∀w',Kp S.1 w0 w'→(∀p∈Γ,p.2 w')→∀a,Fits n a L→wpList P ops.toArray Q (ops.drop k) a w'
theorem Fo.wpAny(c:Ag n ops ord (G.map (·.1)) k)(hstab:∀i x,cm [] ((bX G i).phi x)):∀(fuel:Nat) (listed:Array Bool) (V:Nat→Value) (ξ:(i:Nat)→(bX G i).X) (a:Act) (w:World),
  listed.size=ops.length→Fo P n ops S w0 L0 G (KX n S w0 P ops Q k) ord (fun j=>listed.getD j true) V ξ a w→(∀i,i<ops.length→k≤i→listed.getD i true=false)→
  (List.range ops.length).countP (fun i=> !listed.getD i true)=fuel→Go.wpAny P .any ops.toArray Q fuel listed a w:=by
 have hfin:∀(listed:Array Bool) (V:Nat→Value) (ξ:(i:Nat)→(bX G i).X) (a:Act) (w:World),Fo P n ops S w0 L0 G (KX n S w0 P ops Q k) ord (fun j=>listed.getD j true) V ξ a w→(∀i,i<ops.length→k≤i→listed.getD i true=false)→(∀i,i<k→listed.getD i true=true)→wpList P ops.toArray Q (ops.drop k) a w:=by
  intro listed V ξ a w hst htl hpre
  obtain⟨L',Γ',h1,h2,h3⟩:=Live.done (L0:=L0) (pre:=[]) hst.ph (fun i hi=>hpre i (c.lt i hi)) Way.nil (by simp) hst.live
  refine h3 w hst.kp h2 a ⟨fun t v hv=>?_,hst.size,hst.defers⟩
  rcases h1 t v hv with⟨j,hj,g1,g2⟩|⟨g1,g2⟩
  ·have hjo:j∈ord:=by simpa using hj
   have hdj:=hpre j (c.lt j hjo)
   unfold da at g1
   cases hoj:ops[j]? with
   |none=>rw[hoj] at g1;simp at g1
   |some oj=>
    rw[hoj] at g1
    simp only[Option.bind_some] at g1
    rw[hst.slot j oj t hoj hdj g1,g2 hdj]
  ·refine hst.old t v g2 (fun i oi hoi hdi e=>?_)
   have hil:=(List.getElem?_eq_some_iff.1 hoi).1
   have hik:i<k:=by
    by_cases h:i<k
    ·exact h
    ·simp only[htl i hil (by omega)] at hdi;cases hdi
   exact g1 i (by simpa using c.cover i hik) (by simp[da,hoi,e])
 intro fuel
 induction fuel with
 |zero=>
  intro listed V ξ a w hsz hst htl hcnt
  rw[List.countP_eq_zero] at hcnt
  have hall:∀i,i<ops.length→listed.getD i true=true:=fun i hi=>by simpa using hcnt i (by simpa using hi)
  have hle:=c.le
  have hk:k=ops.length:=by
   by_cases h:k<ops.length
   ·have:=htl k h (Nat.le_refl _)
    rw[hall k h] at this
    cases this
   ·omega
  exact iW c.ed 0 k listed a w (by omega) hsz c.tl hst.closed (fun i hi=>by rw[hall i hi];simp;omega) (hfin listed V ξ a w hst htl (fun i hi=>hall i (by omega)))
 |succ fuel ih=>
  intro listed V ξ a w hsz hst htl hcnt
  have hle:=c.le
  by_cases hpre:∀i,i<k→listed.getD i true=true
  ·have hdec:∀i,i<ops.length→listed.getD i true=decide (i<k):=by
    intro i hi
    by_cases hik:i<k
    ·rw[hpre i hik];simp[hik]
    ·rw[htl i hi (by omega)];simp[hik]
   have hm:k+(fuel+1)=ops.length:=by
    have:(List.range ops.length).countP (fun i=> !listed.getD i true)=ops.length-k:=by
     have e1:(List.range ops.length).countP (fun i=> !listed.getD i true)=(List.range ops.length).countP (fun i=> !decide (i<k)):=by
      apply List.countP_congr
      intro i hi
      rw[hdec i (by simpa using hi)]
     rw[e1]
     have:ops.length=k+(ops.length-k):=by omega
     rw[this,List.range_add,List.countP_append,List.countP_map]
     have h1:(List.range k).countP (fun i=> !decide (i<k))=0:=by
      rw[List.countP_eq_zero];intro i hi;simp at hi;simp[hi]
     have h2:(List.range (ops.length-k)).countP ((fun i=> !decide (i<k))∘fun x=>k+x)=(List.range (ops.length-k)).length:=by
      rw[List.countP_eq_length];intro i hi;simp
     rw[h1,h2]
     simp
    omega
   exact iW c.ed (fuel+1) k listed a w hm hsz c.tl hst.closed hdec (hfin listed V ξ a w hst htl hpre)
  ·constructor
   ·intro hr
    exfalso
    apply hpre
    intro i
    induction i using Nat.strongRecOn with
    |_ i ihi=>
     intro hik
     cases hd:listed.getD i true with
     |true=>rfl
     |false=>
      exfalso
      have:i∈Region.ready .any ops.toArray listed:=by
       refine(dZ hsz).2 ⟨ops[i],by simp,hd,fun e he=>?_⟩
       have hei:=c.ed i ops[i] (by simp) e he
       have:=ihi e hei (by omega)
       simp only[Array.getD_eq_getD_getElem?] at this⊢
       rw[Array.getElem?_eq_getElem (by omega)] at this⊢
       exact this
      rw[hr] at this
      cases this
   ·intro i hi
    obtain⟨o,ho,hnd,hed'⟩:=(dZ hsz).1 hi
    have hil:i<ops.length:=(List.getElem?_eq_some_iff.1 ho).1
    have hed:∀e∈dI o,listed.getD e true=true:=by
     intro e he
     have:=hed' e he
     simp only[Array.getD_eq_getD_getElem?] at this⊢
     cases h:listed[e]? with
     |none=>rfl
     |some b=>rw[h] at this;exact this
    have hanc:∀j,jG ops i j=true→listed.getD j true=true:=eK hst.closed i o ho hed
    have hsz':(listed.setIfInBounds i true).size=ops.length:=by simp[hsz]
    have hset:(fun j=>(listed.setIfInBounds i true).getD j true)=eN (fun j=>listed.getD j true) i:=funext fun j=>dw (by omega)
    by_cases hik:i<k
    ·have htl':∀j,j<ops.length→k≤j→(listed.setIfInBounds i true).getD j true=false:=by
      intro j hj hkj
      rw[dw (by omega),bH (by omega)]
      exact htl j hj hkj
     have hcnt':(List.range ops.length).countP (fun j=> !(listed.setIfInBounds i true).getD j true)=fuel:=by
      have key:∀(l:List Nat),l.Nodup→i∈l→l.countP (fun j=> !listed.getD j true)=l.countP (fun j=> !(listed.setIfInBounds i true).getD j true)+1:=by
       intro l
       induction l with
       |nil=>intro _ h;cases h
       |cons y l ihl=>
        intro hnl hm
        rw[List.nodup_cons] at hnl
        rw[List.countP_cons,List.countP_cons]
        by_cases e:y=i
        ·subst e
         have hsame:l.countP (fun j=> !listed.getD j true)=l.countP (fun j=> !(listed.setIfInBounds y true).getD j true):=by
          apply List.countP_congr
          intro j hj
          rw[dw (by omega),bH (show j≠y from fun e1=>hnl.1 (e1▸hj))]
         rw[hsame,dw (by omega),cS,hnd]
         simp
        ·have hm':i∈l:=by
          rcases List.mem_cons.1 hm with h|h
          ·exact absurd h.symm e
          ·exact h
         rw[ihl hnl.2 hm',dw (by omega),bH e]
         omega
      have:=key (List.range ops.length) List.nodup_range (by simpa using hil)
      omega
     have hio:=c.cover i hik
     cases hg:ig G i with
     |false=>
      have hgd:∀g A B,ord=A++g::B→i∈B→ig G g=true→listed.getD g true=true:=by
       intro g A B he hb hgg
       have hgo:g∈ord:=by rw[he];simp
       have hgl:g<ops.length:=Nat.lt_of_lt_of_le (c.lt g hgo) hle
       obtain⟨_,g2⟩:=nG ord [] c.ok A g B he ops[g] (by simp[hgl])
       rcases g2 (by rw[←mP];exact hgg) i hb with h|h
       ·rw[←mP,hg] at h;cases h
       ·exact hanc g h
      obtain⟨o',L',Γ',A,B,e1,e2,e3,e4,e5⟩:=Live.plain (D:=fun j=>listed.getD j true) hg hnd c.nodup hio hgd Way.nil (by simp) hst.ph hst.live
      have heo:o=o':=Option.some.inj (ho.symm.trans e2)
      subst heo
      have hlk:=hst.looks c htl e1 ho hnd hanc e3
      rcases e5 with⟨hw,hl⟩|⟨hw,v,hkn,hrun,hl⟩
      ·refine eL ho (cZ hlk hw) (fun h=>by cases h) (fun _=>?_)
       refine ih _ (jH V i undef) ξ _ w hsz' ?_ htl' hcnt'
       rw[hset]
       exact hst.did c ho hed (Or.inl (Kp.refl _ _)) hstab (by simp[ij,hg,jH]) (fun j hj=>rv hj) (fun j hj=>rfl) (fun h=>by rw[hg] at h;cases h) hl
      ·refine eL ho (cZ hlk hw) (fun _=>?_) (fun h=>by cases h)
       have hr:=hrun w hst.kp (fun p hp ha=>e4 p hp (hanc p.1 ha))
       have hr':=bh.congr (c.sel o (List.mem_of_getElem? ho)) (fx hlk hkn) hr
       refine hr'.wp (fun v' w' ⟨h1,h2⟩=>?_)
       subst h1
       refine ih _ (jH V i v') ξ _ w' hsz' ?_ htl' hcnt'
       rw[hset]
       exact hst.did c ho hed (Or.inl h2) hstab (by simp[ij,hg,jH]) (fun j hj=>rv hj) (fun j hj=>rfl) (fun h=>by rw[hg] at h;cases h) hl
     |true=>
      obtain⟨o',L',Γ',A,B,e1,e2,e3,e4,hw,hkn,hea⟩:=Live.effect (D:=fun j=>listed.getD j true) hg hnd hanc hst.ph c.nodup hio Way.nil (by simp) hst.live
      have heo:o=o':=Option.some.inj (ho.symm.trans e2)
      subst heo
      have hlk:=hst.looks c htl e1 ho hnd hanc e3
      refine eL ho (cZ hlk hw) (fun _=>?_) (fun h=>by cases h)
      rcases hea with⟨hrun,hl⟩|⟨_,x,hrun,hl⟩
      ·have hr:=hrun w hst.kp (fun e=>hst.k0 (by rw[←e];exact hnd)) (fun p hp ha=>e4 p hp (hanc p.1 ha))
       have hr':=bh.congr (c.sel o (List.mem_of_getElem? ho)) (fx hlk hkn) hr
       refine hr'.wp (fun v' w' ⟨x,h1,h2,h3⟩=>?_)
       subst h1
       refine ih _ V (mg ξ i x) _ w' hsz' ?_ htl' hcnt'
       rw[hset]
       exact hst.did c ho hed h3 hstab (by simp[ij,hg,gv]) (fun j hj=>rq hj) (fun j hj=>me hj) (fun _=>by rw[gv];exact h2) (hl x)
      ·have hr:=hrun w hst.kp (fun e=>hst.k0 (by rw[←e];exact hnd)) (fun p hp ha=>e4 p hp (hanc p.1 ha))
       have hr':=bh.congr (c.sel o (List.mem_of_getElem? ho)) (fx hlk hkn) hr
       refine hr'.wp (fun v' w' ⟨h1,h2,h3⟩=>?_)
       subst h1
       refine ih _ V (mg ξ i x) _ w' hsz' ?_ htl' hcnt'
       rw[hset]
       exact hst.did c ho hed h3 hstab (by simp[ij,hg,gv]) (fun j hj=>rq hj) (fun j hj=>me hj) (fun _=>by rw[gv];exact h2) hl
    ·exfalso
     apply hpre
     intro j hj
     exact hanc j (c.tl i hil (by omega) j (by omega))
theorem CG.Cl{id:Nat}(hm:P.follows .mixedOrders=true)(S:List Nat×Nat)(k:Nat)(ord:List Nat)(G:List (Nat×GD))(hc:EW n ops ord (G.map (·.1)) k=true)(hstab:∀p∈G,∀x,cm [] (p.2.phi x))
  (h:bE P S w0 ops G (KX n S w0 P ops Q k) ord L0 []):CG P n (.region id ops.toArray true) Q L0 w0:=by
 intro a ha
 have c:=Ag.of hc
 refine wp_region_any hm ?_
 have hget:∀j,(Array.replicate ops.toArray.size false).getD j true= !decide (j<ops.length):=by
  intro j
  simp[Array.getD_eq_getD_getElem?,Array.getElem?_replicate]
  split<;>simp_all
 have hstab':∀i x,cm [] ((bX G i).phi x):=by
  have:∀(G:List (Nat×GD)),(∀p∈G,∀x,cm [] (p.2.phi x))→∀i,∀x,cm [] ((bX G i).phi x):=by
   intro G
   induction G with
   |nil=>intro _ i x w w' _ _;exact trivial
   |cons p G ih=>
    intro h i
    obtain⟨j,d⟩:=p
    have e:bX ((j,d)::G) i=(if Nat.beq j i=true then d else bX G i):=by
     unfold bX
     simp only[ew]
     cases Nat.beq j i<;>rfl
    by_cases hb:Nat.beq j i=true
    ·rw[e,if_pos hb]
     exact h (j,d) (by simp)
    ·rw[e,if_neg hb]
     exact ih (fun q hq=>h q (by simp[hq])) i
  exact this G hstab
 refine Fo.wpAny (S:=S) (w0:=w0) (L0:=L0) (G:=G) c hstab' _ _ (fun _=>undef) (fun i=>(bX G i).x0) a _ (by simp) ?_ ?_ ?_
 ·have hD:(fun j=>(Array.replicate ops.toArray.size false).getD j true)=fun j=> !decide (j<ops.length):=funext hget
  rw[hD]
  refine⟨fun i o ho hd=>?_,ha.size,ha.defers,fun i o d ho hd=>?_,fun t v hv _=>ha.slot t v hv,(Kp.refl S.1 w0).drew,fun _=>(Kp.refl [] w0).drew,fun i hg hd=>?_,?_⟩
  ·simp[(List.getElem?_eq_some_iff.1 ho).1] at hd
  ·simp[(List.getElem?_eq_some_iff.1 ho).1] at hd
  ·rw[mP,List.elem_eq_mem] at hg
   have:=c.lt i (c.gi i (of_decide_eq_true hg))
   have hle:=c.le
   have hil:i<ops.length:=by omega
   simp[hil] at hd
  ·refine Live.congr (fun i hi=>⟨?_,rfl,rfl⟩) h
   have h1:=c.lt i hi
   have hle:=c.le
   have hil:i<ops.length:=by omega
   simp[hil]
 ·intro i hi _
  rw[hget];simp[hi]
 ·have:(List.range ops.length).countP (fun i=> !(Array.replicate ops.toArray.size false).getD i true)=(List.range ops.length).length:=by
   rw[List.countP_eq_length]
   intro i hi
   rw[hget]
   simp at hi
   simp[hi]
  rw[this]
  simp
theorem CG.free{id:Nat}(hm:P.follows .mixedOrders=true)(k:Nat)(ord:List Nat)(G:List (Nat×GD))(hc:EW n ops ord (G.map (·.1)) k=true)(hstab:∀p∈G,∀x,cm [] (p.2.phi x))
  (h:bE P ([],100000) w0 ops G (KX n ([],100000) w0 P ops Q k) ord L0 []):CG P n (.region id ops.toArray true) Q L0 w0:=CG.Cl hm ([],100000) k ord G hc hstab h
end
end
section
section
variable {P:Program} {n:Nat} {ops:List Oper} {Q:Exit→Act→World→Prop} {S:List Nat×Nat} {w0:World} {L:Env} {G:List (Nat×GD)} {K:Env→List Fact→Prop} {Γ:List Fact} {i:Nat} {ord:List Nat} {ty:TypeId} {pos:String} {af:Array Edge} {g:Option (Nat×Bool)}
theorem bE.val{d:Nat}{op:Op}{v:Value}(hg:ig G i=false)(ho:ops[i]?=some ⟨some d,op,ty,pos,af,g⟩)(hw:want ops L ⟨some d,op,ty,pos,af,g⟩=some true)(hk:op.operands.toList.all (known L)=true)
  (hv:aK P S.1 w0 (fk ops i Γ) L ⟨some d,op,ty,pos,af,g⟩ v) (h:bE P S w0 ops G K ord ((d,v)::L) Γ):bE P S w0 ops G K (i::ord) L Γ:=
 ⟨_,ho,Or.inl ⟨hg,Or.inr (Or.inr ⟨rfl,hw,v,hk,fun w hkp hF=>by unfold bh;rw[hv w hkp hF];exact⟨rfl,Kp.refl _ _⟩,h⟩)⟩⟩
theorem yd{d:Nat}{op:Op}{v:Value}(ho:ops[i]?=some ⟨some d,op,ty,pos,af,g⟩)(hb:(!ig G i&&(want ops L ⟨some d,op,ty,pos,af,g⟩==some true&&op.operands.toList.all (known L)))=true)
  (hv:aK P S.1 w0 (fk ops i Γ) L ⟨some d,op,ty,pos,af,g⟩ v) (h:bE P S w0 ops G K ord ((d,v)::L) Γ):bE P S w0 ops G K (i::ord) L Γ:=by
 simp only[Bool.and_eq_true,Bool.not_eq_true',beq_iff_eq] at hb
 exact bE.val hb.1 ho hb.2.1 hb.2.2 hv h
theorem bE.call{d:Nat}{f:FuncId}[bQ P f]{args:List Operand}{vs:List Value}{tys:Array TypeId}{v:Value}(hg:ig G i=false)
  (ho:ops[i]?=some ⟨some d,.call ⟨.value (.func f),args.toArray,tys⟩,ty,pos,af,g⟩) (hw:want ops L ⟨some d,.call ⟨.value (.func f),args.toArray,tys⟩,ty,pos,af,g⟩=some true) (hk:(Op.call ⟨.value (.func f),args.toArray,tys⟩).operands.toList.all (known L)=true)
  (he:bz L args vs) (hc:∀w,Kp S.1 w0 w→fk ops i Γ w→dz P f vs.toArray w v) (h:bE P S w0 ops G K ord ((d,v)::L) Γ):bE P S w0 ops G K (i::ord) L Γ:=
 ⟨_,ho,Or.inl ⟨hg,Or.inr (Or.inr ⟨rfl,hw,v,hk,fun w h1 h2=>fj (by rw[he.arr];exact(hc w h1 h2).mono (fun e w' ⟨g1,g2⟩=>⟨v,g1,rfl,g2⟩)),h⟩)⟩⟩
theorem bE.Hy{o:Oper}(D:GD)(hg:ew G i=some D)(ho:ops[i]?=some o)(hw:want ops L o=some true)(hk:o.op.operands.toList.all (known L)=true)
  (hc:∀w,Kp S.1 w0 w→fk ops i Γ w→bh P (bB L) o w (fun v w'=>∃x,v=D.val x∧D.phi x w'∧Kp [] w w'))
  (h:∀x,bE P S w0 ops G K ord (fY o.dst (D.val x) L) ((i,D.phi x)::Γ)):bE P S w0 ops G K (i::ord) L Γ:=by
 have e:bX G i=D:=by simp[bX,hg]
 refine⟨o,ho,Or.inr ⟨by simp[ig,hg],Or.inr (Or.inl ⟨rfl,hw,hk,?_,?_⟩)⟩⟩
 ·rw[e];exact fun w h1 _ h2=>(hc w h1 h2).mono (fun v w' ⟨x,g1,g2,g3⟩=>⟨x,g1,g2,Or.inl g3⟩)
 ·rw[e];exact h
theorem bE.Iv{o:Oper}(D:GD)(x:D.X)(hg:ew G i=some D)(ho:ops[i]?=some o)(hw:want ops L o=some true)(hk:o.op.operands.toList.all (known L)=true)(ha:Γ.all (fun p=>jG ops i p.1)=true)
  (hc:∀w,Kp S.1 w0 w→fk ops i Γ w→bh P (bB L) o w (fun v w'=>v=D.val x∧D.phi x w'∧(∀X,Kp X w0 w→Kp X w0 w')∧∀j y,j≠i→(bX G j).phi y w→(bX G j).phi y w'))
  (h:bE P S w0 ops G K ord (fY o.dst (D.val x) L) ((i,D.phi x)::Γ)):bE P S w0 ops G K (i::ord) L Γ:=by
 have e:bX G i=D:=by simp[bX,hg]
 subst e
 refine⟨o,ho,Or.inr ⟨by simp[ig,hg],Or.inr (Or.inr ⟨rfl,hw,hk,fun p hp=>List.all_eq_true.1 ha p hp,x,?_,h⟩)⟩⟩
 exact fun w h1 _ h2=>(hc w h1 h2).mono (fun v w' ⟨g1,g2,g3,g4⟩=>⟨g1,g2,Or.inr ⟨Or.inr g3,g4⟩⟩)
theorem bE.FT{d:Nat}{f:FuncId}[bQ P f]{args:List Operand}{vs:List Value}{tys:Array TypeId}(D:GD)(hi:i=S.2)(hg:ew G i=some D)
  (ho:ops[i]?=some ⟨some d,.call ⟨.value (.func f),args.toArray,tys⟩,ty,pos,af,g⟩) (hw:want ops L ⟨some d,.call ⟨.value (.func f),args.toArray,tys⟩,ty,pos,af,g⟩=some true) (hk:(Op.call ⟨.value (.func f),args.toArray,tys⟩).operands.toList.all (known L)=true)
  (he:bz L args vs) (hc:∀w,Kp [] w0 w→fk ops i Γ w→Calls P f vs.toArray w (fun e w'=>∃x,e= .returned (D.val x)∧D.phi x w'∧Kp S.1 w w')) (hkeep:∀j,j≠i→∀w w' x,Kp S.1 w w'→(bX G j).phi x w→(bX G j).phi x w')
  (h:∀x,bE P S w0 ops G K ord ((d,D.val x)::L) ((i,D.phi x)::Γ)):bE P S w0 ops G K (i::ord) L Γ:=by
 have e:bX G i=D:=by simp[bX,hg]
 refine⟨_,ho,Or.inr ⟨by simp[ig,hg],Or.inr (Or.inl ⟨rfl,hw,hk,?_,?_⟩)⟩⟩
 ·rw[e]
  exact fun w h1 h0 h2=>fj (by rw[he.arr];exact(hc w (h0 hi) h2).mono (fun e' w' ⟨x,g1,g2,g3⟩=>⟨_,g1,x,rfl,g2,Or.inr ⟨Or.inl ⟨hi,h1.trans g3⟩,fun j y hj hp=>hkeep j hj _ _ y g3 hp⟩⟩))
 ·rw[e]
  exact h
theorem bE.uV{d:Nat}{f:FuncId}[bQ P f]{args:List Operand}{vs:List Value}{tys:Array TypeId}(D:GD)(hg:ew G i=some D)
  (ho:ops[i]?=some ⟨some d,.call ⟨.value (.func f),args.toArray,tys⟩,ty,pos,af,g⟩) (hw:want ops L ⟨some d,.call ⟨.value (.func f),args.toArray,tys⟩,ty,pos,af,g⟩=some true) (hk:(Op.call ⟨.value (.func f),args.toArray,tys⟩).operands.toList.all (known L)=true)
  (he:bz L args vs) (hc:∀w,Kp S.1 w0 w→fk ops i Γ w→Calls P f vs.toArray w (fun e w'=>∃x,e= .returned (D.val x)∧D.phi x w'∧Kp [] w w'))
  (h:∀x,bE P S w0 ops G K ord ((d,D.val x)::L) ((i,D.phi x)::Γ)):bE P S w0 ops G K (i::ord) L Γ:=
 bE.Hy D hg ho hw hk (fun w h1 h2=>fj (by rw[he.arr];exact(hc w h1 h2).mono (fun e w' ⟨x,g1,g2,g3⟩=>⟨D.val x,g1,x,rfl,g2,g3⟩))) h
def gS{α:Type}(m:Nat)(enc:α→List Value)(sz:Nat)(l:List α):GD:=⟨Option Addr×Nat,(none,0),fun q=> .slice q.1 l.length q.2,fun q w=>tz m enc sz w q.1 q.2 l⟩
theorem EI{α:Type}{m:Nat}{enc:α→List Value}{sz:Nat}{l:List α}(x:(gS m enc sz l).X):cm [] ((gS m enc sz l).phi x):=fun w w' hk h=>tz.ay h hk
theorem bE.CP{α:Type}{enc:α→List Value}{sz:Nat}{m d:Nat}{f:FuncId}[bQ P f]{args:List Operand}{vs:List Value}{tys:Array TypeId}(l:List α)(hg:ew G i=some (gS m enc sz l))
  (ho:ops[i]?=some ⟨some d,.call ⟨.value (.func f),args.toArray,tys⟩,ty,pos,af,g⟩) (hw:want ops L ⟨some d,.call ⟨.value (.func f),args.toArray,tys⟩,ty,pos,af,g⟩=some true) (hk:(Op.call ⟨.value (.func f),args.toArray,tys⟩).operands.toList.all (known L)=true)
  (he:bz L args vs) (hm:m≤w0.heap.size) (hc:∀w,Kp S.1 w0 w→fk ops i Γ w→Fp P enc sz f vs.toArray w l)
  (h:∀(a:Option Addr) (c:Nat),bE P S w0 ops G K ord ((d,.slice a l.length c)::L) ((i,fun w=>tz m enc sz w a c l)::Γ)):bE P S w0 ops G K (i::ord) L Γ:=
 bE.uV (gS m enc sz l) hg ho hw hk he (fun w h1 h2=>(hc w h1 h2).mono (fun e w' ⟨a,c,g1,g2,g3⟩=>⟨(a,c),g1,g2.mono (Nat.le_trans hm h1.size),g3⟩)) (fun x=>h x.1 x.2)
theorem bE.tl{k:Nat}(h:∀w',Kp S.1 w0 w'→(∀p∈Γ,p.2 w')→SG P n ops Q (ops.drop k) L w'):bE P S w0 ops G (KX n S w0 P ops Q k) [] L Γ:=h
end
end
section
theorem Row.append{w:World}{b off:Nat}{A B:List Value}(h:Row w b off A)(h':Row w b (off+A.length) B):Row w b off (A++B):=by
 obtain⟨cs,T,f,h1,h2⟩:=h
 obtain⟨cs',T',f',h3,h4⟩:=h'
 rw[h1] at h3
 cases h3
 refine⟨cs,T,f,h1,fun i v hv=>?_⟩
 by_cases hi:i<A.length
 ·rw[List.getElem?_append_left hi] at hv
  exact h2 i v hv
 ·rw[List.getElem?_append_right (by omega)] at hv
  have:=h4 _ v hv
  rw[show off+A.length+(i-A.length)=off+i by omega] at this
  exact this
section
variable {α:Type} {enc:α→List Value} {sz:Nat}
theorem Sl.tail{w:World}{b off:Nat}{x:α}{l:List α}(h:Sl enc sz w (some ⟨b,off,none⟩) (x::l)):Sl enc sz w (some ⟨b,off+sz,none⟩) l:=fun i y hy=>by
 have:=h.row (i:=i+1) (x:=y) (by simpa using hy)
 refine⟨b,off+sz,rfl,?_⟩
 rw[show off+sz+i*sz=off+(i+1)*sz by rw[Nat.add_mul];omega]
 exact this
theorem Sl.flat(hel:∀x,(enc x).length=sz){w:World}{b:Nat}:∀{l:List α} {off:Nat},l≠[]→Sl enc sz w (some ⟨b,off,none⟩) l→Row w b off (bO enc l)
 |[],_,h,_=>absurd rfl h
 |[x],off,_,h=>by
  have:=h.row (i:=0) (x:=x) rfl
  simpa[bO] using this
 |x::y::l,off,_,h=>by
  have h1:=h.row (i:=0) (x:=x) rfl
  have h2:=Sl.flat hel (by simp) h.tail
  have:bO enc (x::y::l)=enc x++bO enc (y::l):=by simp[bO]
  rw[this]
  refine Row.append (by simpa using h1) ?_
  rw[hel]
  exact h2
variable {P:Program} {w:World}
theorem vP{t ty e:TypeId}[u:Ut P t (.slice e)]{i:TypeInfo}[f:dp P e i]{z:Value}(hz:i.zero=some z)(hzs:z.cells.size=i.size)(hsz:0<i.size)(hel:∀x,(enc x).length=i.size)(hone:∀x,bF (enc x)=true)
  {a:Option Addr} {c:Nat} {l:List α} (hs:Sl enc i.size w a l) {b0 m:Nat} (hb0:aF w b0 (.cells #[] e)) (hm:m≤b0) (h63:l.length≤maxLen) (hbytes:l.length*i.bytes≤140737488355328):
  ∃v' w',(Builtin.append_ #[t,t] ty #[.slice (some ⟨b0,0,none⟩) 0 0,.slice a l.length c]).run P w= .ok v' w'∧w'.ownsRow m e i.size v' l.length (bO enc l)∧Kp [] w w':=by
 have hown:w.ownsRow m e i.size (.slice (some ⟨b0,0,none⟩) 0 0) 0 []:=by
  refine⟨by simp,Or.inr ⟨b0,0,#[],rfl,hm,hb0,Nat.le_refl _,by simp[maxLen],by simp,by simp⟩⟩
 by_cases hl:l=[]
 ·subst hl
  refine⟨.slice (some ⟨b0,0,none⟩) 0 0,w,?_,hown,Kp.refl _ _⟩
  cases a<;>simp[Builtin.append_,run_underlying u.eq,sizeOf,typeInfo,f.eq,Builtin.lenOf,Builtin.firstCells,loadCells,loadCellsFrom,storeCells]
 ·have hpos:0<l.length:=List.length_pos_iff.2 hl
  obtain⟨b,off,rfl,_⟩:=hs.at hpos
  have hr:=hs.flat hel hl
  have hlen:(bO enc l).length=l.length*i.size:=bY hel l
  obtain⟨v',w',h1,h2,h3⟩:=fb (P:=P) (ty:=ty) (d:= .bool) (c:=c) (u:=u) (f:=f) hz hzs hsz hown hlen hr (mS hone l) (by omega) (by simpa using hbytes) (by have:=hb0.lt;omega)
  have hnews:∀j u',(bO enc l)[j]?=some u'→w.cell? ((⟨b,off,none⟩:Addr).add j)=some u':=fun j u' hu=>by rw[dd];exact hr.cell hu
  have hm':l.length≤9223372036854775807:=by simp only[maxLen] at h63;omega
  have hr2:=run_append_grow (P:=P) w t ty e i z u.eq f.eq hz ⟨b0,0,none⟩ 0 0 [] (by simp) (by simp) ⟨b,off,none⟩ l.length c (bO enc l) hlen hnews (by omega) (by omega) (growslice_fits (by omega) (by simpa using hbytes))
  have h1':=h1
  rw[hr2] at h1
  simp only[Result.ok.injEq] at h1
  obtain⟨hv,hw⟩:=h1
  have hk:Kp [] w w':=by rw[←hw];exact Kp.alloc_drew w _ rfl
  simp only[Nat.zero_add,List.nil_append] at h2
  exact⟨v',w',h1',h2,hk⟩
def gE(m:Nat)(E:TypeId):GD:=⟨Nat,0,fun b=> .slice (some ⟨b,0,none⟩) 0 0,fun b w=>m≤b∧aF w b (.cells #[] E)⟩
theorem qQ{T E:TypeId}{i:TypeInfo}[u:Ut P T (.slice E)][f:dp P E i]:(Instr.buildSlice T 0 #[]).run P w= .ok (.slice (some ⟨w.heap.size,0,none⟩) 0 0) {w with heap:=w.heap.push (.cells #[] E)}:=by
 simp[Instr.buildSlice,run_underlying u.eq,sizeOf,typeInfo,f.eq,Instr.fill,newRow,newObj,Sem.run,Result.andThen]
 congr 2
 exact Array.eq_empty_of_size_eq_zero (by simp)
variable {n:Nat} {ops:List Oper} {Q:Exit→Act→World→Prop} {S:List Nat×Nat} {w0:World} {L:Env} {G:List (Nat×GD)} {K:Env→List Fact→Prop} {Γ:List Fact} {j:Nat} {ord:List Nat} {ty:TypeId} {pos:String} {af:Array Edge} {g:Option (Nat×Bool)}
end
end
section
section
variable {α:Type} {enc:α→List Value} {sz:Nat} {P:Program}
def kt(P:Program)(E:TypeId)(enc:α→List Value)(sz:Nat)(f:FuncId)(args:Array Value)(w:World)(l:List α):Prop:=Calls P f args w (fun e w'=>∃v,e= .returned v∧w'.ownsRow w.heap.size E sz v l.length (bO enc l)∧Kp [] w w')
theorem cX{w:World}{base base':Nat}{E:TypeId}{v:Value}{n:Nat}{xs:List Value}(h:w.ownsRow base E sz v n xs)(hb:base'≤base):w.ownsRow base' E sz v n xs:=by
 obtain⟨h1,h2⟩:=h
 refine⟨h1,?_⟩
 rcases h2 with h2|⟨g,cap,cur,h3,h4,h5⟩
 ·exact Or.inl h2
 ·exact Or.inr ⟨g,cap,cur,h3,Nat.le_trans hb h4,h5⟩
theorem kt.Sn{E:TypeId}{f:FuncId}{args:Array Value}{w:World}{l:List α}(hel:∀x,(enc x).length=sz)(h:kt P E enc sz f args w l):Fp P enc sz f args w l:=
 h.mono (fun e w' ⟨v,h1,h2,h3⟩=>by
  obtain⟨a,c,e1,e2⟩:=tz.own hel h2 rfl
  exact⟨a,c,by rw[h1,e1],e2,h3⟩)
def gO(m:Nat)(E:TypeId)(enc:α→List Value)(sz:Nat)(l:List α):GD:=⟨Value,undef,fun v=>v,fun v w=>w.ownsRow m E sz v l.length (bO enc l)⟩
variable {n:Nat} {ops:List Oper} {Q:Exit→Act→World→Prop} {S:List Nat×Nat} {w0:World} {L:Env} {G:List (Nat×GD)} {K:Env→List Fact→Prop} {Γ:List Fact} {i:Nat} {ord:List Nat} {ty:TypeId} {pos:String} {af:Array Edge} {g:Option (Nat×Bool)}
end
end
section
section
variable {P:Program} {L:Env} {ty:TypeId} {pos:String} {af:Array Edge} {g:Option (Nat×Bool)} {S:List Nat} {w0:World} {ops:List Oper} {gh:List Nat} {K:Env→(World→Prop)→(World→Prop)→Prop} {i:Nat} {ord:List Nat} {F R:World→Prop}
theorem aI.CQ{X:Type}{d:Nat}{f:FuncId}[bQ P f]{args:List Operand}{vs:List Value}{tys:Array TypeId}(val:X→Value)(F' R':X→World→Prop)
  (ho:ops[i]?=some ⟨some d,.call ⟨.value (.func f),args.toArray,tys⟩,ty,pos,af,g⟩) (hw:want ops L ⟨some d,.call ⟨.value (.func f),args.toArray,tys⟩,ty,pos,af,g⟩=some true) (hg:gh.elem i=true) (hk:(Op.call ⟨.value (.func f),args.toArray,tys⟩).operands.toList.all (known L)=true)
  (he:bz L args vs) (hF:∀x,cm S (F' x)) (hR:∀x,cm [] (R' x)) (hFs:cm S F) (hc:∀w,Kp S w0 w→F w→R w→Calls P f vs.toArray w (fun e w'=>∃x,e= .returned (val x)∧F' x w'∧R' x w'∧Kp S w w'))
  (hd:∀x,aI P S w0 ops gh K ord ((d,val x)::L) (fun w=>F w∧F' x w) (R' x)):aI P S w0 ops gh K (i::ord) L F R:=
 aI.ghost val F' R' ho hw hg hk hF hR hFs (fun w h1 h2 h3=>fj (by rw[he.arr];exact(hc w h1 h2 h3).mono (fun e w' ⟨x,g1,g2,g3,g4⟩=>⟨val x,g1,x,rfl,g2,g3,g4⟩))) hd
end
end
section
abbrev PT:={z:Int// -9223372036854775808≤z∧z≤9223372036854775807}
@[reducible] def iv (z:PT):Value:= .int .i64 z.1
theorem GJ{a b:PT}(h:iv a=iv b):a=b:=by
 apply Subtype.ext
 simpa using h
theorem wf_i64(z:PT):(Lit.int .i64 z.1).wf=true:=by
 have:=z.2
 simp[Lit.wf,IntKind.min,IntKind.max,IntKind.signed,IntKind.bits]
 omega
theorem EF{P:Program}{k:TypeId}(hu:P.underlying k=some (.int .i64)):cT P k iv:=
 ⟨Maps.int_keyed hu,fun z=>⟨.int .i64 z.1,by simp[keyOf,hu,mapKey,wf_i64]⟩,fun a b h=>GJ h⟩
instance{P:Program}{k:TypeId}[u:Ut P k (.int .i64)]:xw P k iv:=⟨EF u.eq⟩
section
variable {κ ν:Type} {enc:κ→Value} {V:ν→Value} {m:List (κ×ν)} {w w':World} {b:Nat} {P:Program} {k T E:TypeId}
theorem vO[DecidableEq κ][u:Ut P T (.map k E)](h:aE w b enc V m)(K:cT P k enc)(x:κ)(ty:TypeId):
  ∃o',(Builtin.delete_ #[T,k] ty #[.map (some b),enc x]).run P w= .ok (.tuple #[]) {w with heap:=w.heap.setIfInBounds b o'}∧aE {w with heap:=w.heap.setIfInBounds b o'} b enc V (m.filter (fun p=>decide (p.1≠x)))∧Kp [b] w {w with heap:=w.heap.setIfInBounds b o'}:=by
 obtain⟨es,c,hb,hst,hm,hks⟩:=h.keys K
 obtain⟨l,hl⟩:=K.key x
 have hb':w.heap[b]?=some (.map es c):=hb
 have hkeys:es.toList.map (·.key)=m.map (fun p=>enc p.1):=by
  have:=congrArg (List.map Prod.fst) hm
  simpa[Function.comp_def] using this
 rcases K.law.find w hl es.toList hks with⟨h1,h2⟩|⟨j,e0,h1,h2,h3⟩
 ·refine⟨.map es c,?_,⟨es,c,hb.set _,hst,?_⟩,Kp.set w hb rfl rfl⟩
  ·simp[Builtin.delete_,run_underlying u.eq,MapKept.run_getObj_map hb',K.law.check w _ hl,h1,MapKept.run_setObj_map _ hb',Result.andThen]
  ·rw[List.filter_eq_self.2]
   ·exact hm
   ·intro p hp
    simp only[decide_eq_true_eq]
    intro e
    have:enc p.1∈es.toList.map (·.key):=by rw[hkeys];exact List.mem_map.2 ⟨p,hp,rfl⟩
    obtain⟨q,hq,hqe⟩:=List.mem_map.1 this
    exact h2 q hq (by rw[hqe,e])
 ·have hj:j<es.toList.length:=(List.getElem?_eq_some_iff.1 h2).1
  have hs:=(MapKept.stamped_iff es c).1 hst
  have hml:m.length=es.toList.length:=by
   have:=congrArg List.length hm
   simpa using this.symm
  have hjm:j<m.length:=by omega
  have hmj:enc m[j].1=enc x:=by
   have:=congrArg (fun l=>l[j]?) hkeys
   simp only[List.getElem?_map,h2,Option.map_some,List.getElem?_eq_getElem hjm,Option.some.injEq] at this
   rw[←this,h3]
  have hmx:m[j].1=x:=K.inj _ _ hmj
  have herase:m.filter (fun p=>decide (p.1≠x))=m.eraseIdx j:=by
   have hnd:=h.nodup
   have hsplit:m=m.take j++(m[j]::m.drop (j+1)):=by rw[←List.drop_eq_getElem_cons hjm,List.take_append_drop]
   rw[List.eraseIdx_eq_take_drop_succ]
   conv=>lhs;rw[hsplit]
   rw[hsplit,List.map_append,List.map_cons] at hnd
   have hd:=List.nodup_append.1 hnd
   have hc:=List.nodup_cons.1 hd.2.1
   rw[List.filter_append,List.filter_cons]
   rw[if_neg (by simp[hmx])]
   congr 1
   ·rw[List.filter_eq_self]
    intro p hp
    simp only[decide_eq_true_eq]
    intro e
    exact hd.2.2 p.1 (List.mem_map.2 ⟨p,hp,rfl⟩) m[j].1 (by simp) (by rw[e,hmx])
   ·rw[List.filter_eq_self]
    intro p hp
    simp only[decide_eq_true_eq]
    intro e
    exact hc.1 (by rw[hmx,←e];exact List.mem_map.2 ⟨p,hp,rfl⟩)
  refine⟨.map (es.eraseIdxIfInBounds j) c,?_,⟨es.eraseIdxIfInBounds j,c,hb.set _,?_,?_⟩,Kp.set w hb rfl rfl⟩
  ·simp[Builtin.delete_,run_underlying u.eq,MapKept.run_getObj_map hb',K.law.check w _ hl,h1,MapKept.run_setObj_map _ hb',Result.andThen]
  ·rw[MapKept.stamped_iff]
   have hsub:(es.eraseIdxIfInBounds j).toList.Sublist es.toList:=by
    simp only[Array.toList_eraseIdxIfInBounds]
    exact List.eraseIdx_sublist _ _
   exact⟨fun x hx=>hs.1 x (hsub.subset hx),hs.2.1.sublist (hsub.map _),hs.2.2.sublist hsub⟩
  ·rw[herase,Array.toList_eraseIdxIfInBounds,ChangeMaps.map_eraseIdx,hm,←ChangeMaps.map_eraseIdx]
end
section
variable {P:Program} {n:Nat} {Q:Exit→Act→World→Prop} {L:Env} {w:World} {ops:List Oper} {rest:List Oper} {ty:TypeId} {pos:String} {af:Array Edge} {g:Option (Nat×Bool)}
theorem SG.delete{κ ν:Type}[DecidableEq κ]{enc:κ→Value}{V:ν→Value}{m:List (κ×ν)}{b:Nat}{k T E:TypeId}[u:Ut P T (.map k E)][K:xw P k enc]{a x:Operand}{kx:κ}
  (hw:want ops L ⟨none,.call {callee:= .builtin .delete,args:= #[a,x],argTypes:= #[T,k]},ty,pos,af,g⟩=some true) (hk:(known L a&&known L x)=true) (ha:bB L a= .map (some b)) (hx:bB L x=enc kx) (hm:aE w b enc V m)
  (h:∀w',Kp [b] w w'→aE w' b enc V (m.filter (fun p=>decide (p.1≠kx)))→SG P n ops Q rest L w'):SG P n ops Q (⟨none,.call {callee:= .builtin .delete,args:= #[a,x],argTypes:= #[T,k]},ty,pos,af,g⟩::rest) L w:=by
 refine SG.op rfl rfl hw (by simpa[Op.operands,Call.operands] using hk) ?_
 unfold bh
 obtain⟨o',h1,h2,h3⟩:=vO (P:=P) (u:=u) hm K.key kx ty
 have:(execOp (bB L) ⟨none,.call {callee:= .builtin .delete,args:= #[a,x],argTypes:= #[T,k]},ty,pos,af,g⟩).run P w= .ok (.value (.tuple #[])) {w with heap:=w.heap.setIfInBounds b o'}:=by
  simp only[execOp,resolve,invoke,builtin,Sem.run_bind,Sem.run_pure,Result.andThen_ok,List.map_toArray,List.map_cons,List.map_nil,ha,hx,h1]
 rw[this]
 exact h _ h3 h2
theorem uK{T E:TypeId}[u:Ut P T (.slice E)]{a:Option Addr}{m c:Nat}:(Op.equal T (.slice a m c) (.slice none 0 0)).run P w= .ok a.isNone w:=uM (fun d=>by
 cases a<;>simp only[Op.equalIn,Sem.run_bind,run_underlying u.eq,Result.andThen,Sem.run_pure,Option.isNone])
theorem Jb{S:List Nat}{w0:World}{F:World→Prop}{d:Option Nat}{T T' E:TypeId}[u:Ut P T (.slice E)]{x:Operand}{a:Option Addr}{m c:Nat}(hx:ro L x=some (.slice a m c)):aK P S w0 F L ⟨d,.binOp .eql T x (.const (.slice none 0 0)) T',ty,pos,af,g⟩ (.bool a.isNone):=fun w _ _=>by
 have hc:bB L (.const (.slice none 0 0))= .slice none 0 0:=rfl
 simp[execOp,ag hx,hc,eqGuard,binOp,uK (u:=u)]
theorem SG.CE{α:Type}{enc:α→List Value}{m d:Nat}{t e:TypeId}{inf:TypeInfo}[u:Ut P t (.slice e)][f:dp P e inf]{z:Value}{s x:Operand}{b0:Nat}{a:Option Addr}{c:Nat}{l:List α}(hd:Nat.blt d n=true)
  (hw:want ops L ⟨some d,.call {callee:= .builtin .append,args:= #[s,x],argTypes:= #[t,t]},ty,pos,af,g⟩=some true) (hk:(known L s&&known L x)=true) (hel:∀x,(enc x).length=inf.size) (hone:∀x,bF (enc x)=true)
  (hs:bB L s= .slice (some ⟨b0,0,none⟩) 0 0) (hx:bB L x= .slice a l.length c) (hz:inf.zero=some z) (hzs:Nat.beq z.cells.size inf.size=true) (hsz:Nat.blt 0 inf.size=true) (h63:l.length≤maxLen) (hbytes:l.length*inf.bytes≤140737488355328) (hm:m≤b0)
  (hc:Sl enc inf.size w a l) (hb0:aF w b0 (.cells #[] e))
  (h:∀v w',Kp [] w w'→w'.ownsRow m e inf.size v l.length (bO enc l)→SG P n ops Q rest ((d,v)::L) w'):SG P n ops Q (⟨some d,.call {callee:= .builtin .append,args:= #[s,x],argTypes:= #[t,t]},ty,pos,af,g⟩::rest) L w:=by
 refine SG.op (by simpa using hd) rfl hw (by simpa[Op.operands,Call.operands] using hk) ?_
 obtain⟨v',w',e1,e2,e3⟩:=vP (P:=P) (ty:=ty) (c:=c) (u:=u) (f:=f) hz (Nat.eq_of_beq_eq_true hzs) (by simpa[Nat.blt_eq] using hsz) hel hone hc hb0 hm h63 hbytes
 unfold bh
 have:(execOp (bB L) ⟨some d,.call {callee:= .builtin .append,args:= #[s,x],argTypes:= #[t,t]},ty,pos,af,g⟩).run P w= .ok (.value v') w':=by
  simp only[execOp,resolve,invoke,builtin,Sem.run_bind,Sem.run_pure,Result.andThen_ok,List.map_toArray,List.map_cons,List.map_nil,hs,hx,e1]
 rw[this]
 exact h v' w' e3 e2
theorem SG.empty{d:Nat}{T E:TypeId}{i:TypeInfo}[u:Ut P T (.slice E)][f:dp P E i](hd:Nat.blt d n=true)(hw:want ops L ⟨some d,.buildSlice T 0 #[],ty,pos,af,g⟩=some true)
  (h:∀b w',Kp [] w w'→w.heap.size≤b→aF w' b (.cells #[] E)→SG P n ops Q rest ((d,.slice (some ⟨b,0,none⟩) 0 0)::L) w'):SG P n ops Q (⟨some d,.buildSlice T 0 #[],ty,pos,af,g⟩::rest) L w:=by
 refine SG.op (by simpa using hd) rfl hw (by simp[Op.operands]) ?_
 unfold bh
 have:(execOp (bB L) ⟨some d,.buildSlice T 0 #[],ty,pos,af,g⟩).run P w= .ok (.value (.slice (some ⟨w.heap.size,0,none⟩) 0 0)) {w with heap:=w.heap.push (.cells #[] E)}:=by
  simp only[execOp,List.map_toArray,List.map_nil,Sem.run_bind,qQ (u:=u) (f:=f),Result.andThen,Sem.run_pure]
 rw[this]
 exact h _ _ (Kp.push w _ rfl) (Nat.le_refl _) (aF.push w _)
end
end
section
section
variable {P:Program} {w w':World}
theorem jx{base:Nat}{t ty e:TypeId}{i:TypeInfo}[u:Ut P t (.slice e)][f:dp P e i]{z:Value}(hz:i.zero=some z)
  {v v':Value} {n:Nat} {xs:List Value} (hown:w.ownsRow base e i.size v n xs) {b off m c:Nat} {news:List Value} (hl:news.length=m*i.size) (hr:Row w b off news) (h1:bF news=true)
  (h63:n+m≤maxLen) (hbytes:(n+m)*i.bytes≤140737488355328) (hrun:(Builtin.append_ #[t,t] ty #[v,.slice (some ⟨b,off,none⟩) m c]).run P w= .ok v' w'):
  ∀g,v'.ownBlock=some g→v.ownBlock=some g∨g=w.heap.size:=by
 have hnews:∀j u,news[j]?=some u→w.cell? ((⟨b,off,none⟩:Addr).add j)=some u:=fun j u hu=>by rw[dd];exact hr.cell hu
 have h1':∀u∈news,u.oneCell'=true:=fun u hu=>by rw[mI];exact List.all_eq_true.1 h1 u hu
 have hsmall:n+m≤9223372036854775807:=by simp only[maxLen] at h63;omega
 rcases hown.2 with⟨rfl,rfl⟩|⟨g,cap,cur,rfl,hbg,hg,hnc,hcm,hcs,htake⟩
 ·by_cases hm:m=0
  ·subst hm
   have hn:news=[]:=List.eq_nil_of_length_eq_zero (by simpa using hl)
   subst hn
   have:(Builtin.append_ #[t,t] ty #[.slice none 0 0,.slice (some ⟨b,off,none⟩) 0 c]).run P w= .ok (.slice none 0 0) w:=by
    simp[Builtin.append_,run_underlying u.eq,sizeOf,typeInfo,f.eq,Builtin.lenOf,Builtin.firstCells,loadCells,loadCellsFrom]
   rw[this] at hrun
   cases hrun
   intro g hg
   exact Or.inl hg
  ·have hr2:=run_append_nil (P:=P) w t ty e i z u.eq f.eq hz ⟨b,off,none⟩ m c news hl hnews (by omega) (by omega) (by have hb:=hbytes;simp only[Nat.zero_add] at hb;omega)
   rw[hr2] at hrun
   cases hrun
   intro g hg
   simp only[Value.ownBlock,Option.some.injEq] at hg
   exact Or.inr hg.symm
 ·by_cases hroom:n+m≤cap
  ·have hfit:n*i.size+news.length≤cur.size:=by rw[hl,hcs,←Nat.add_mul];exact Nat.mul_le_mul_right _ hroom
   have hr2:=run_append_room (P:=P) w t ty e i u.eq f.eq g n cap cur hg ⟨b,off,none⟩ m c news hl hnews h1' hroom hfit
   rw[hr2] at hrun
   cases hrun
   intro g' hg'
   exact Or.inl hg'
  ·have holds:∀j u,xs[j]?=some u→w.cell? ((⟨g,0,none⟩:Addr).add j)=some u:=hown.cells (g:=g) rfl
   have hr2:=run_append_grow (P:=P) w t ty e i z u.eq f.eq hz ⟨g,0,none⟩ n cap xs hown.1 holds ⟨b,off,none⟩ m c news hl hnews (by omega) (by omega) (growslice_fits (by omega) hbytes)
   rw[hr2] at hrun
   cases hrun
   intro g' hg'
   simp only[Value.ownBlock,Option.some.injEq] at hg'
   exact Or.inr hg'.symm
variable {L:Env} {ty:TypeId} {pos:String} {af:Array Edge} {g:Option (Nat×Bool)} {S:List Nat} {w0:World} {ops:List Oper} {gh:List Nat} {K:Env→(World→Prop)→(World→Prop)→Prop} {j:Nat} {ord:List Nat} {F:World→Prop}
theorem aI.jy{base:Nat}{t e:TypeId}{i:TypeInfo}[u:Ut P t (.slice e)][f:dp P e i]{z:Value}{d:Nat}{s x:Operand}{v:Value}{nn:Nat}{xs:List Value}{b off m c:Nat}{news:List Value}
  (ho:ops[j]?=some ⟨some d,.call {callee:= .builtin .append,args:= #[s,x],argTypes:= #[t,t]},ty,pos,af,g⟩) (hw:want ops L ⟨some d,.call {callee:= .builtin .append,args:= #[s,x],argTypes:= #[t,t]},ty,pos,af,g⟩=some true) (hg:gh.elem j=true) (hk:(known L s&&known L x)=true)
  (hs:bB L s=v) (hx:bB L x= .slice (some ⟨b,off,none⟩) m c) (hz:i.zero=some z) (hzs:Nat.beq z.cells.size i.size=true) (hsz:Nat.blt 0 i.size=true) (hr:∀w,Kp S w0 w→F w→Row w b off news) (hl:news.length=m*i.size) (h1:bF news=true)
  (h63:nn+m≤maxLen) (hbytes:(nn+m)*i.bytes≤140737488355328) (hbase:base≤w0.heap.size) (hS:∀b∈aP v,b∈S) (hFs:cm S F)
  (h:∀v',aI P S w0 ops gh K ord ((d,v')::L) (fun w=>F w∧∀g,v'.ownBlock=some g→v.ownBlock=some g∨w0.heap.size≤g) (fun w=>w.ownsRow base e i.size v' (nn+m) (xs++news))):
  aI P S w0 ops gh K (j::ord) L F (fun w=>w.ownsRow base e i.size v nn xs):=by
 refine aI.ghost (X:=Value) (fun v'=>v') (fun v' _=>∀g,v'.ownBlock=some g→v.ownBlock=some g∨w0.heap.size≤g) (fun v' w=>w.ownsRow base e i.size v' (nn+m) (xs++news)) ho hw hg (by simpa[Op.operands,Call.operands] using hk) (fun _ _ _ _ h=>h) (fun v' w w' hk h=>aT h hk) hFs (fun w hk1 hF hown=>?_) h
 have hrow:=hr w hk1 hF
 have hb:base≤w.heap.size:=Nat.le_trans hbase hk1.size
 obtain⟨v',w',h2,h3,h4⟩:=fb (P:=P) (ty:=ty) (d:= .bool) (c:=c) (u:=u) (f:=f) hz (Nat.eq_of_beq_eq_true hzs) (by simpa[Nat.blt_eq] using hsz) hown hl hrow h1 h63 hbytes hb
 have hwh:=jx (P:=P) (ty:=ty) (c:=c) (u:=u) (f:=f) hz hown hl hrow h1 h63 hbytes h2
 unfold bh
 have:(execOp (bB L) ⟨some d,.call {callee:= .builtin .append,args:= #[s,x],argTypes:= #[t,t]},ty,pos,af,g⟩).run P w= .ok (.value v') w':=by
  simp only[execOp,resolve,invoke,builtin,Sem.run_bind,Sem.run_pure,Result.andThen_ok,List.map_toArray,List.map_cons,List.map_nil,hs,hx,h2]
 rw[this]
 refine⟨v',rfl,fun g hg=>?_,h3,h4.mono hS⟩
 rcases hwh g hg with h|h
 ·exact Or.inl h
 ·exact Or.inr (by rw[h];exact hk1.size)
theorem aI.jt{R:World→Prop}{d:Nat}{T E:TypeId}{b:Nat}{parts:List (Nat×Operand)}{vs:List (Nat×Value)}{cs:Array Value}
  (ho:ops[j]?=some ⟨some d,.buildSlice T b parts.toArray,ty,pos,af,g⟩) (hw:want ops L ⟨some d,.buildSlice T b parts.toArray,ty,pos,af,g⟩=some true) (hg:gh.elem j=true) (hk:(Op.buildSlice T b parts.toArray).operands.toList.all (known L)=true)
  (he:(parts.map fun p=>(p.1,bB L p.2))=vs) (hrun:∀w:World,(Instr.buildSlice T b vs.toArray).run P w= .ok (.slice (some ⟨w.heap.size,0,none⟩) b b) {w with heap:=w.heap.push (.cells cs E)}) (hS:∀z∈S,z<w0.heap.size) (hFs:cm S F) (hRs:cm [] R)
  (h:∀bn,aI P S w0 ops gh K ord ((d,.slice (some ⟨bn,0,none⟩) b b)::L) (fun w=>F w∧(w0.heap.size≤bn∧aF w bn (.cells cs E))) R):aI P S w0 ops gh K (j::ord) L F R:=by
 refine aI.ghost (X:=Nat) (fun bn=> .slice (some ⟨bn,0,none⟩) b b) (fun bn w=>w0.heap.size≤bn∧aF w bn (.cells cs E)) (fun _=>R) ho hw hg hk (fun bn w w' hk h=>⟨h.1,h.2.kp hk (fun hm=>by have:=hS _ hm;omega)⟩) (fun _=>hRs) hFs (fun w hk1 hF hR=>?_) h
 unfold bh
 have e:(parts.toArray.map fun(p:Nat×Operand)=>(p.1,bB L p.2))=vs.toArray:=by simp[he]
 have:(execOp (bB L) ⟨some d,.buildSlice T b parts.toArray,ty,pos,af,g⟩).run P w= .ok (.value (.slice (some ⟨w.heap.size,0,none⟩) b b)) {w with heap:=w.heap.push (.cells cs E)}:=by
  simp only[execOp,e,Sem.run_bind,hrun w,Result.andThen,Sem.run_pure]
 rw[this]
 exact⟨w.heap.size,rfl,⟨hk1.size,aF.push w _⟩,hRs _ _ (Kp.push w _ rfl) hR,(Kp.push w _ rfl).any⟩
end
end
section
section
variable {P:Program} {S:List Nat} {w0:World} {F:World→Prop} {L:Env} {d:Option Nat} {ty:TypeId} {pos:String} {af:Array Edge} {g:Option (Nat×Bool)}
theorem DI{T E:TypeId}{n:Nat}[u:Ut P T (.array n E)]{sz:Nat}[f:Sz P E sz]{x y:Operand}{b off:Nat}{k:IntKind}{j:Nat}(hx:bB L x= .pointer (some ⟨b,off,none⟩))(hy:bB L y= .int k (j:Int))(h1:j<n):
  aK P S w0 F L ⟨d,.indexAddr T x y,ty,pos,af,g⟩ (.pointer (some ⟨b,off+j*sz,none⟩)):=fun w _ _=>by
 obtain⟨i,h2,h3⟩:=f.eq
 have h4:(j:Int)<n:=by omega
 subst h3
 simp[execOp,hx,hy,Instr.indexAt,asIntOf,run_underlying u.eq,sizeOf,typeInfo,Instr.sureAddr,h2,h1,dd]
theorem Ea{T E:TypeId}{n:Nat}[u:Ut P T (.array n E)]{sz:Nat}[f:Sz P E sz]{x y:Operand}{b off:Nat}{k:IntKind}{z:Int}{j:Nat}(hx:ro L x=some (.pointer (some ⟨b,off,none⟩)))(hy:ro L y=some (.int k z))(hz:z=(j:Int))(h1:Ar (j<n)):
  aK P S w0 F L ⟨d,.indexAddr T x y,ty,pos,af,g⟩ (.pointer (some ⟨b,off+j*sz,none⟩)):=DI (u:=u) (f:=f) (ag hx) (by rw[ag hy,hz]) h1.h
end
end
section
open Go.Proofs
theorem qF{P:Program}{S:List Nat}{w0:World}{F:World→Prop}{L:Env}{d:Option Nat}{ty:TypeId}{pos:String}{af:Array Edge}{g:Option (Nat×Bool)}{T E:TypeId}{n:Nat}[u:Ut P T (.array n E)]{sz:Nat}[f:Sz P E sz]{x:Operand}{b off:Nat}{k:IntKind}{z:Int}(hx:ro L x=some (.pointer (some ⟨b,off,none⟩)))(h1:Ar (0≤z∧z<n)):
  aK P S w0 F L ⟨d,.indexAddr T x (.const (.int k z)),ty,pos,af,g⟩ (.pointer (some ⟨b,off+z.toNat*sz,none⟩)):=Ea (u:=u) (f:=f) (k:=k) (z:=z) hx rfl (Int.toNat_of_nonneg h1.h.1).symm ⟨by have:=h1.h;omega⟩
def jE(s:Hs):List Value:=[.int .u64 s.a,.int .u64 s.b,.int .u64 s.c,.int .u64 s.d]
theorem sM{w:World}{b:Nat}{T:TypeId}{s:Hs}(h:aF w b (.cells (jE s).toArray T)):Row w b 0 [.int .u64 s.a]∧Row w b 1 [.int .u64 s.b]∧Row w b 2 [.int .u64 s.c]∧Row w b 3 [.int .u64 s.d]∧Row w b 0 (jE s):=
 ⟨Row.of h [] [.int .u64 s.b,.int .u64 s.c,.int .u64 s.d] rfl rfl,Row.of h [.int .u64 s.a] [.int .u64 s.c,.int .u64 s.d] rfl rfl,Row.of h [.int .u64 s.a,.int .u64 s.b] [.int .u64 s.d] rfl rfl,Row.of h [.int .u64 s.a,.int .u64 s.b,.int .u64 s.c] [] rfl rfl,Row.all h rfl⟩
theorem QK(w:World)(a b c e:Int):(Instr.build 202 #[(0,.int .u64 a),(1,.int .u64 b),(2,.int .u64 c),(3,.int .u64 e)]).run Tryz.prog w= .ok (.agg (jE ⟨a,b,c,e⟩).toArray) w:=by kernel_rfl
attribute [local irreducible] CG NG SG aK aI Row aF aE aM kZ ic vk qj kR lJ
theorem my(w:World)(x k:Int)(h:qj (IntKind.wrap .u64 k) 63=k)(h0:0≤k∧k≤64):dz Tryz.prog 187 #[.int .u64 x,.int .i64 k] w (.int .u64 (sf x k)):=by
 refine bJ Tryz.func187 rfl Tryz.ntmps187 rfl ?_
 repeat (first|apply aj|(apply ar;rfl;(first|apply D6|apply N3|apply D5|apply Gc|apply N1|apply az|apply aD|apply vj)<;>first|rfl|(apply Ar.mk;omega)))
 rw[h]
 skip
 refine aO (Or.inl rfl) Tryz.results187 (aC.tmp rfl) ?_
 exact⟨rfl,Kp.refl _ _⟩
theorem HS(w:World)(x:Int):dz Tryz.prog 187 #[.int .u64 x,.int .i64 32] w (.int .u64 (sf x 32)):=my w x 32 (by decide+kernel) (by omega)
theorem HT(w:World)(x:Int):dz Tryz.prog 187 #[.int .u64 x,.int .i64 24] w (.int .u64 (sf x 24)):=my w x 24 (by decide+kernel) (by omega)
theorem HU(w:World)(x:Int):dz Tryz.prog 187 #[.int .u64 x,.int .i64 16] w (.int .u64 (sf x 16)):=my w x 16 (by decide+kernel) (by omega)
theorem HR(w:World)(x:Int):dz Tryz.prog 187 #[.int .u64 x,.int .i64 63] w (.int .u64 (sf x 63)):=my w x 63 (by decide+kernel) (by omega)
theorem xt{k:Nat}(h:k<1000):kZ (k:Int) 1=((k+1:Nat):Int):=by
 unfold kZ
 have e:(k:Int)+1=((k+1:Nat):Int):=by omega
 rw[e]
 exact lE (by omega)
theorem yO{w:World}{b:Nat}{s:Hs}(hB:aF w b (.cells (jE s).toArray 202)):Calls Tryz.prog 166 #[.pointer (some ⟨b,0,none⟩)] w (fun e w'=>e= .returned (.tuple #[])∧Kp [b] w w'∧aF w' b (.cells (jE (Fw s)).toArray 202)):=by
 refine bA Tryz.func166 rfl Tryz.ntmps166 rfl ?_
 obtain⟨r0,r1,r2,r3,_⟩:=sM hB
 apply CG.seq
 refine CG.eQ mixed [0,1,2,3,4,5,6,7,8,9,10,11,12,13,14,15,16,17,18,19] [] (by kernel_rfl) ?_
 repeat (apply bZ;rfl;rfl;(first|apply qF|apply az|apply aD|apply bf|apply bM)<;>first|rfl|assumption|(apply Ar.mk;omega)|exact List.not_mem_nil)
 refine aI.fin (fun w1 hk1 _ _=>?_)
 repeat (first|apply aj|(apply ar;rfl;apply az<;>rfl))
 refine CG.loop (X:=Nat) (fun i=>[(0,.pointer (some ⟨b,0,none⟩)),(2,.int .u64 (jg s i).a),(3,.int .u64 (jg s i).b),(4,.int .u64 (jg s i).c),(5,.int .u64 (jg s i).d),(23,.int .u64 (i:Int))])
  (fun i w'=>i≤6∧Kp [] w1 w') (fun i=>6-i) 0 ⟨by omega,Kp.refl _ _⟩ (aS.of rfl) ?_
 rintro i w2 ⟨hi,hk2⟩
 by_cases hlt:i<6
 ·have g1:(i:Int)<6:=by omega
  have e1:=xt (k:=i) (by omega)
  repeat (first|apply aj|(apply ar;rfl;apply cG<;>first|rfl|(apply bK;first|assumption|omega)))
  refine bL rfl ?_
  repeat (first|apply aj|(apply ar;rfl;(first|apply Bj|apply ze|apply az|apply aD)<;>rfl))
  refine SG.ret rfl rfl rfl (by repeat' (first|exact True.intro|exact ag rfl|refine And.intro ?_ ?_)) (HS w2 _) (fun w3 hk3=>?_)
  repeat (first|apply aj|(apply ar;rfl;(first|apply Bj|apply ze|apply az|apply aD)<;>rfl))
  refine SG.ret rfl rfl rfl (by repeat' (first|exact True.intro|exact ag rfl|refine And.intro ?_ ?_)) (HT w3 _) (fun w4 hk4=>?_)
  repeat (first|apply aj|(apply ar;rfl;(first|apply Bj|apply ze|apply az|apply aD)<;>rfl))
  refine SG.ret rfl rfl rfl (by repeat' (first|exact True.intro|exact ag rfl|refine And.intro ?_ ?_)) (HU w4 _) (fun w5 hk5=>?_)
  repeat (first|apply aj|(apply ar;rfl;(first|apply Bj|apply ze|apply az|apply aD)<;>rfl))
  refine SG.ret rfl rfl rfl (by repeat' (first|exact True.intro|exact ag rfl|refine And.intro ?_ ?_)) (HR w5 _) (fun w6 hk6=>?_)
  repeat (first|apply aj|(apply ar;rfl;(first|apply Bj|apply az|apply aD)<;>rfl))
  rw[e1]
  refine NG.round (i+1) (aS.of rfl) ⟨by omega,hk2.trans (hk3.trans (hk4.trans (hk5.trans hk6)))⟩ (by omega)
 ·have g1:¬(i:Int)<6:=by omega
  have e6:i=6:=by omega
  subst e6
  repeat (first|apply aj|(apply ar;rfl;apply cG<;>first|rfl|(apply bN;first|assumption|omega)))
  refine bG rfl ?_
  repeat (first|apply aj|(apply ar;rfl;apply az<;>rfl))
  refine SG.val rfl rfl rfl rfl (aG rfl (fun w=>QK w _ _ _ _)) ?_
  repeat (apply ar;rfl;apply bM<;>rfl)
  have hB2:=hB.ay (hk1.trans hk2)
  refine SG.aN (old:=jE s) (l:=jE (jg s 6)) rfl rfl (ag rfl) (ag rfl) hB2 rfl rfl rfl (fun w3 hk3 hB3=>?_)
  repeat apply aj
  refine nF (Or.inr rfl) Tryz.results166 ?_
  exact⟨rfl,(hk1.trans hk2).any.trans hk3,hB3⟩
end
section
open Go.Proofs
theorem Ix{n:Nat}(d:BA n){i:Nat}(h:i<n):(dc d)[i]?=some (bv (d.1[i]'(by rw[d.2];exact h))):=by
 simp only[dc,List.getElem?_map]
 rw[List.getElem?_eq_getElem (by rw[d.2];exact h)]
 rfl
theorem BJ{d:Dg}{i:Nat}(h:i<8):vk (val (d.1.take i):Int) (kR (((d.1[i]'(by rw[d.2];exact h)).toNat:Nat):Int) (8*(i:Int)))=(val (d.1.take (i+1)):Int):=by
 have hl:i<d.1.length:=by rw[d.2];exact h
 have h8:(8*(i:Int))=((8*i:Nat):Int):=by omega
 have h1:=AM hl
 have h2:val (d.1.take (i+1))<256^(i+1):=by
  have:=rS (d.1.take (i+1))
  have e:(d.1.take (i+1)).length=i+1:=by simp;omega
  rwa [e] at this
 have h3:(256:Nat)^(i+1)≤256^8:=Nat.pow_le_pow_right (by omega) (by omega)
 have h4:val (d.1.take (i+1))<18446744073709551616:=Nat.lt_of_lt_of_le h2 h3
 have h5:val (d.1.take i)<2^(8*i):=by
  have:=rS (d.1.take i)
  have e:(d.1.take i).length=i:=by simp;omega
  rw[e] at this
  rwa [Nat.pow_mul]
 rw[h1] at h4
 rw[h8,tT (Nat.lt_of_le_of_lt (Nat.le_add_left _ _) h4) (by omega),xS h5 h4,h1]
def zd:Dg:=⟨[0,0,0,0,0,0,0,0],rfl⟩
def part(n i:Nat):List Value:=(CW n i).map bv++List.replicate (8-i) (bv 0)
theorem Bz(n:Nat):part n 8=dc (frm n):=by simp[part,dc,frm]
theorem ue{n i:Nat}(h:i≤8):(part n i).length=8:=by simp[part,lW];omega
theorem CV(k:Nat):∀n,CW n (k+1)=CW n k++[UInt8.ofNat (n/2^(8*k))]:=by
 induction k with
 |zero=>intro n;simp[CW]
 |succ k ih=>
  intro n
  rw[CW,ih (n/256)]
  simp only[CW,List.cons_append]
  congr 3
  have:(2:Nat)^(8*(k+1))=256*2^(8*k):=by
   rw[show 8*(k+1)=8+8*k from by omega,Nat.pow_add]
  rw[this,Nat.div_div_eq_div_mul]
theorem zi{n i:Nat}(h:i<8):jd (part n i) i [bv (UInt8.ofNat (n/2^(8*i)))]=part n (i+1):=by
 have hr:List.replicate (8-i) (bv 0)=[bv 0]++List.replicate (8-(i+1)) (bv 0):=by
  rw[show 8-i=(8-(i+1))+1 from by omega,List.replicate_succ]
  rfl
 have:=mu (pre:=(CW n i).map bv) (old:=[bv 0]) (post:=List.replicate (8-(i+1)) (bv 0)) (l:=[bv (UInt8.ofNat (n/2^(8*i)))]) rfl
 rw[←hr] at this
 simp only[List.length_map,lW] at this
 unfold part
 rw[this,CV]
 simp
attribute [local irreducible] CG NG SG aK aI Row aF aE aM kZ ic vk qj kR lJ
theorem eG(d:Dg)(w:World):dz Tryz.prog 95 #[dv d] w (.int .u64 (num d:Int)):=by
 refine bA Tryz.func95 rfl Tryz.ntmps95 rfl ?_
 repeat apply aj
 refine SG.box rfl rfl rfl (ag rfl) (fun b w1 hk1 hb hB=>?_)
 have hB:aF w1 b (.cells (dc d).toArray 47):=hB
 have hr:Row w1 b 0 (dc d):=Row.all hB rfl
 repeat (first|apply aj|(apply ar;rfl;(first|apply az|apply aD|apply bj)<;>first|rfl|assumption|exact List.not_mem_nil|apply ah))
 refine CG.loop (X:=Nat) (fun i=>[(3,.int .u64 (val (d.1.take i):Int)),(6,dv d),(7,.int .i64 (i:Int))])
  (fun i w'=>i≤8∧w'=w1) (fun i=>8-i) 0 ⟨by omega,rfl⟩ (aS.of rfl) ?_
 rintro i w2 ⟨hi,rfl⟩
 by_cases hlt:i<8
 ·have g1:(i:Int)<8:=by omega
  have hv:=Ix d hlt
  have e1:=BJ (d:=d) hlt
  repeat (first|apply aj|(apply ar;rfl;apply cG<;>first|rfl|(apply bK;first|assumption|omega)))
  refine bL rfl ?_
  repeat (first|apply aj|(apply ar;rfl;first|(apply Gf<;>(first|rfl|assumption|(apply Ar.mk;omega)))|((first|apply D6|apply D5|apply Fy|apply HX|apply az|apply aD|apply dG)<;>(first|rfl|assumption|(apply Ar.mk;omega)))))
  rw[e1]
  refine NG.round (i+1) (aS.of rfl) ⟨by omega,rfl⟩ (by omega)
 ·have g1:¬(i:Int)<8:=by omega
  have e8:i=8:=by omega
  subst e8
  have hnum:(val (d.1.take 8):Int)=(num d:Int):=by
   unfold num
   rw[List.take_of_length_le (by rw[d.2];omega)]
  rw[hnum]
  repeat (first|apply aj|(apply ar;rfl;apply cG<;>first|rfl|(apply bN;first|assumption|omega)))
  refine bG rfl ?_
  repeat (first|apply aj|(apply ar;rfl;(first|apply az|apply aD)<;>rfl))
  refine aO (Or.inl rfl) Tryz.results95 (aC.tmp rfl) ?_
  exact⟨rfl,hk1⟩
theorem kJ(n:Nat)(w:World):dz Tryz.prog 147 #[.int .u64 (n:Int)] w (dv (frm n)):=by
 refine bA Tryz.func147 rfl Tryz.ntmps147 rfl ?_
 repeat apply aj
 refine SG.alloc rfl rfl rfl (fun b2 w1 hk1 hb2 hB2=>?_)
 repeat apply aj
 refine SG.alloc rfl rfl rfl (fun b3 w2 hk2 hb3 hB3=>?_)
 have hB2:aF w1 b2 (.cells (dc zd).toArray 47):=hB2
 have hB3:aF w2 b3 (.cells (dc zd).toArray 47):=hB3
 have hl2:=hB2.lt
 repeat (first|apply aj|(apply ar;rfl;apply az<;>rfl))
 refine CG.loop (X:=Nat) (fun i=>[(0,.int .u64 (n:Int)),(2,.pointer (some ⟨b2,0,none⟩)),(3,.pointer (some ⟨b3,0,none⟩)),(5,.int .i64 (i:Int))])
  (fun i w'=>i≤8∧Kp [b3] w2 w'∧aF w' b3 (.cells (part n i).toArray 47)) (fun i=>8-i) 0 ⟨by omega,Kp.refl _ _,hB3⟩ (aS.of rfl) ?_
 rintro i w3 ⟨hi,hk3,hB⟩
 by_cases hlt:i<8
 ·have g1:(i:Int)<8:=by omega
  have e1:lJ (n:Int) (8*(i:Int))=((n/2^(8*i):Nat):Int):=by
   have h8:(8*(i:Int))=((8*i:Nat):Int):=by omega
   rw[h8,tS (by omega)]
  repeat (first|apply aj|(apply ar;rfl;apply cG<;>first|rfl|(apply bK;first|assumption|omega)))
  refine bL rfl ?_
  repeat (first|apply aj|(apply ar;rfl;first|(apply Bo<;>(first|rfl|(apply Ar.mk;omega)))|((first|apply Gc|apply Fy|apply Ea|apply az|apply aD)<;>(first|rfl|(apply Ar.mk;omega)))))
  rw[e1]
  skip
  rw[oZ]
  refine SG.store rfl rfl (ag rfl) (ag rfl) hB rfl (by show 0+i*1+1≤(part n i).toArray.size;simp[ue hi];omega) rfl (fun w4 hk4 hB4=>?_)
  have hB4:aF w4 b3 (.cells (jd (part n i) (0+i*1) [bv (UInt8.ofNat (n/2^(8*i)))]).toArray 47):=hB4
  rw[show 0+i*1=i from by omega,zi hlt] at hB4
  repeat (first|apply aj|(apply ar;rfl;(first|apply az|apply dG)<;>first|rfl|(apply Ar.mk;omega)))
  refine NG.round (i+1) (aS.of rfl) ⟨by omega,hk3.trans hk4,hB4⟩ (by omega)
 ·have g1:¬(i:Int)<8:=by omega
  have e8:i=8:=by omega
  subst e8
  rw[Bz] at hB
  have hr:Row w3 b3 0 (dc (frm n)):=Row.all hB rfl
  repeat (first|apply aj|(apply ar;rfl;apply cG<;>first|rfl|(apply bN;first|assumption|omega)))
  refine bG rfl ?_
  repeat (first|apply aj|(apply ar;rfl;apply bj<;>first|rfl|assumption|exact List.not_mem_nil))
  refine SG.aN (old:=dc zd) (l:=dc (frm n)) rfl rfl (ag rfl) (ag rfl) ((hB2.ay hk2).kp hk3 (bP (by omega))) (ah _) (ah _) (bu _) (fun w4 hk4 hB4=>?_)
  have hr4:Row w4 b2 0 (dc (frm n)):=Row.all hB4 rfl
  repeat apply aj
  refine aO (Or.inl rfl) Tryz.results147 (by exact aC.agg rfl rfl (by assumption) (by first|exact ah _|exact nc_length _|exact rc_length _ _ _|exact aL _|exact dl_length _ _ _ _|exact aX _|exact aU _|exact bC _|exact au _|rfl)) ?_
  have s1:=hk1.size
  have s2:=hk2.size
  exact⟨rfl,((hk1.trans hk2).ai hk3 (aV (by omega))).ai hk4 (aV hb2)⟩
theorem ff{w:World}{b:Nat}{s:Hs}(hB:aF w b (.cells (jE s).toArray 202))(z:Int):Calls Tryz.prog 134 #[.pointer (some ⟨b,0,none⟩),.int .u64 z] w (fun e w'=>e= .returned (.tuple #[])∧Kp [b] w w'∧aF w' b (.cells (jE (c9 s z)).toArray 202)):=by
 refine bJ Tryz.func134 rfl Tryz.ntmps134 rfl ?_
 obtain⟨r0,r1,r2,r3,_⟩:=sM hB
 apply CG.seq
 refine CG.tail mixed 8 [0,1,2,3,4,5,6,7] (by kernel_rfl) ?_
 repeat (apply bZ;rfl;rfl;(first|apply ze|apply qF|apply az|apply bf|apply bM)<;>first|rfl|assumption|(apply Ar.mk;omega)|exact List.not_mem_nil)
 refine aI.tl (fun w1 hk1 _ _=>?_)
 refine SG.store rfl rfl (ag rfl) (ag rfl) (hB.ay hk1) rfl (by show 0+0*1+1≤4;omega) rfl (fun w2 hk2 hB2=>?_)
 have hB2:aF w2 b (.cells (jE ⟨ic s.a z,s.b,s.c,s.d⟩).toArray 202):=hB2
 repeat (first|apply aj|(apply ar;rfl;apply az<;>rfl))
 refine SG.call rfl rfl rfl (by repeat' (first|exact True.intro|exact ag rfl|refine And.intro ?_ ?_)) ((yO hB2).mono (fun e w3 hh=>?_))
 obtain⟨he,hk3,hB3⟩:=hh
 refine⟨_,he,?_⟩
 repeat apply aj
 refine nF (Or.inr rfl) Tryz.results134 ?_
 exact⟨rfl,(hk1.any.trans hk2).trans hk3,hB3⟩
theorem jm{w:World}{b:Nat}{s:Hs}(hB:aF w b (.cells (jE s).toArray 202)):dz Tryz.prog 110 #[.pointer (some ⟨b,0,none⟩)] w (dv (cQ s)):=by
 refine bA Tryz.func110 rfl Tryz.ntmps110 rfl ?_
 obtain⟨n,hn,_⟩:=Ao s.a s.c
 have hg:cQ s=frm n:=by unfold cQ;rw[hn];rfl
 rw[hg]
 repeat apply aj
 refine SG.alloc rfl rfl rfl (fun b2 w1 hk1 hb2 hB2=>?_)
 have hB2:aF w1 b2 (.cells (dc zd).toArray 47):=hB2
 obtain⟨r0,r1,r2,r3,_⟩:=sM (hB.ay hk1)
 repeat apply aj
 refine CG.tail mixed 9 [0,1,2,3,4,5,6,7,8] (by kernel_rfl) ?_
 repeat (apply bZ;rfl;rfl;(first|apply ze|apply qF|apply az|apply bf|apply bM)<;>first|rfl|assumption|(apply Ar.mk;omega)|exact List.not_mem_nil)
 rw[hn]
 refine aI.tl (fun w2 hk2 _ _=>?_)
 refine SG.ret rfl rfl rfl (by repeat' (first|exact True.intro|exact ag rfl|refine And.intro ?_ ?_)) (kJ n w2) (fun w3 hk3=>?_)
 refine SG.aN (old:=dc zd) (l:=dc (frm n)) rfl rfl (ag rfl) (ag rfl) ((hB2.ay hk2).ay hk3) (ah _) (ah _) (bu _) (fun w4 hk4 hB4=>?_)
 have hr4:Row w4 b2 0 (dc (frm n)):=Row.all hB4 rfl
 repeat apply aj
 refine aO (Or.inl rfl) Tryz.results110 (by exact aC.agg rfl rfl (by assumption) (by first|exact ah _|exact nc_length _|exact rc_length _ _ _|exact aL _|exact dl_length _ _ _ _|exact aX _|exact aU _|exact bC _|exact au _|rfl)) ?_
 exact⟨rfl,((hk1.trans hk2).trans hk3).ai hk4 (aV hb2)⟩
theorem jv(z:Int)(w:World):dz Tryz.prog 108 #[.int .u64 z] w (.agg (jE (cJ z)).toArray):=by
 refine bA Tryz.func108 rfl Tryz.ntmps108 rfl ?_
 repeat apply aj
 refine SG.alloc rfl rfl rfl (fun b2 w1 hk1 hb2 hB2=>?_)
 have hB2:aF w1 b2 (.cells (jE ⟨0,0,0,0⟩).toArray 202):=hB2
 repeat (first|apply aj|(apply ar;rfl;apply az<;>rfl))
 refine SG.val rfl rfl rfl rfl (aG rfl (fun w=>QK w _ _ _ _)) ?_
 refine SG.aN (old:=jE ⟨0,0,0,0⟩) (l:=jE (cJ z)) rfl rfl (ag rfl) (ag rfl) hB2 rfl rfl rfl (fun w2 hk2 hB3=>?_)
 have hr:Row w2 b2 0 (jE (cJ z)):=Row.all hB3 rfl
 repeat apply aj
 refine aO (Or.inl rfl) Tryz.results108 (by exact aC.agg rfl rfl (by assumption) (by first|exact ah _|exact nc_length _|exact rc_length _ _ _|exact aL _|exact dl_length _ _ _ _|exact aX _|exact aU _|exact bC _|exact au _|rfl)) ?_
 exact⟨rfl,hk1.ai hk2 (aV hb2)⟩
end
section
section
variable {P:Program} {L:Env} {S:List Nat} {w0:World} {F:World→Prop} {d:Option Nat} {ty:TypeId} {pos:String} {af:Array Edge} {g:Option (Nat×Bool)}
end
end
section
structure Pu where
 money:Int
 nonce:Int
instance:DecidableEq Pu:=fun a b=>decidable_of_iff (a.money=b.money∧a.nonce=b.nonce) (by cases a;cases b;simp)
def tu(x:Pu):List Value:=[.int .i64 x.money,.int .i64 x.nonce]
@[reducible] def qV (x:Pu):Value:= .agg (tu x).toArray
def pz:Pu:=⟨0,0⟩
theorem bC(x:Pu):(tu x).length=2:=rfl
theorem Ee(x:Pu):bF (tu x)=true:=rfl
def Pu.Fit(p:Pu):Prop:= -4000000000000000000≤p.money∧p.money≤4000000000000000000∧-4000000000000000000≤p.nonce∧p.nonce≤4000000000000000000
structure Ac where
 key:Dg
 money:Int
 nonce:Int
def acl(e:Ac):List Value:=dc e.key++[.int .i64 e.money,.int .i64 e.nonce]
@[reducible] def Fl (e:Ac):Value:= .agg (acl e).toArray
theorem aX(e:Ac):(acl e).length=10:=by simp[acl,ah]
theorem nh(e:Ac):bF (acl e)=true:=by
 have:=bu e.key
 unfold bF at*
 simp[acl,this,jJ]
instance:DecidableEq Ac:=fun a b=>decidable_of_iff (a.key=b.key∧a.money=b.money∧a.nonce=b.nonce) (by cases a;cases b;simp)
abbrev Bk:=List (Dg×Pu)
structure bS(w:World)(bt bm:Nat)(m:Bk):Prop where
 blk:aF w bt (.cells #[.map (some bm)] 136)
 map:aE w bm (dv (n:=8)) qV m
section
variable {w w':World} {bt bm:Nat} {m:Bk}
theorem bS.kp{S:List Nat}(h:bS w bt bm m)(hk:Kp S w w')(h1:bt∉S)(h2:bm∉S):bS w' bt bm m:=⟨h.blk.kp hk h1,h.map.kp hk h2⟩
theorem bS.ay(h:bS w bt bm m)(hk:Kp [] w w'):bS w' bt bm m:=h.kp hk (by simp) (by simp)
theorem bS.r0(h:bS w bt bm m):Row w bt 0 [.map (some bm)]:=Row.of h.blk [] [] rfl rfl
theorem aE.blk{κ ν:Type}{w:World}{b:Nat}{enc:κ→Value}{V:ν→Value}{m:List (κ×ν)}(h:aE w b enc V m):∃es c,aF w b (.map es c):=by
 obtain⟨es,c,hb,_⟩:=h
 exact⟨es,c,hb⟩
theorem bS.ne(h:bS w bt bm m):bt≠bm:=by
 rintro rfl
 obtain⟨es,acl,hmb⟩:=h.map.blk
 cases h.blk.uniq hmb
end
def cg(m:Bk)(k:Dg):Pu:=(aB m k).getD pz
def gJ(m:Bk)(k:Dg)(p:Pu):Bk:=if p=pz then m.filter (fun q=>decide (q.1≠k)) else cF m k p
theorem Hx{m:Bk}{k:Dg}:Lk qV (.agg #[.int .i64 0,.int .i64 0]) m k (qV (cg m k)) (aB m k).isSome:=by
 unfold cg
 cases hr:aB m k with
 |none=>exact tv hr
 |some p=>exact kX hr
theorem FA:∃m,Tryz.prog.types.size=m+3:=⟨Tryz.prog.types.size-3,by kernel_rfl⟩
theorem Iz:Tryz.prog.cellsOf 3=1:=by kernel_rfl
theorem FP:Tryz.prog.cellsOf 133=2:=by kernel_rfl
theorem pk(z:Int)(h1: -4000000000000000000≤z)(h2:z≤4000000000000000000):(Lit.int .i64 z).wf=true:=by
 simp[Lit.wf,IntKind.min,IntKind.max,IntKind.signed,IntKind.bits]
 omega
theorem xO(x:Pu)(h:x.Fit):(Tryz.prog.keyLits (Tryz.prog.types.size+1) 133 (tu x)).isSome=true:=by
 obtain⟨m,hm⟩:=FA
 rw[hm]
 obtain⟨a,b⟩:=x
 obtain⟨h1,h2,h3,h4⟩:=h
 simp[tu,Program.keyLits,Tryz.underlying133,Tryz.underlying3,Iz,FP,pk a h1 h2,pk b h3 h4,List.range,List.range.loop]
theorem qU(x:Pu):(qV x).formed Tryz.prog 133=true:=by
 simp[Value.formed,Tryz.underlying133,FP,bC]
theorem Ef{a b:Pu}(h:tu a=tu b):a=b:=by
 obtain⟨p,n⟩:=a
 obtain⟨q,m⟩:=b
 simp[tu] at h
 obtain⟨rfl,rfl⟩:=h
 rfl
theorem uL{a b:Pu}(ha:a.Fit)(hb:b.Fit)(w:World):(Op.equal 133 (qV a) (qV b)).run Tryz.prog w= .ok (decide (a=b)) w:=by
 obtain⟨r,h1,h2⟩:=nR (P:=Tryz.prog) (T:=133) 3 (by omega) (by kernel_rfl) (by kernel_rfl) (by rw[Tryz.underlying133]) (by kernel_rfl) (qU a) (qU b) (xO a ha) (xO b hb) w
 have h3:r=decide (a=b):=by
  by_cases e:a=b
  ·rw[decide_eq_true e]
   exact h2.2 (by rw[e])
  ·rw[decide_eq_false e]
   cases r with
   |false=>rfl
   |true=>exact absurd (Ef (h2.1 rfl)) e
 rw[h3] at h1
 exact h1
theorem ye:Tryz.prog.eqGuardType Tryz.prog.depth 133=false:=by kernel_rfl
theorem P0{S:List Nat}{w0:World}{F:World→Prop}{L:Env}{d:Option Nat}{ty:TypeId}{pos:String}{af:Array Edge}{g:Option (Nat×Bool)}{x y:Operand}{T':TypeId}{a b:Pu}{c:Bool}(hx:ro L x=some (qV a))(hy:ro L y=some (qV b))(ha:a.Fit)(hb:b.Fit)(h:Dc (a=b) c):
  aK Tryz.prog S w0 F L ⟨d,.binOp .eql 133 x y T',ty,pos,af,g⟩ (.bool c):=fun w _ _=>by
 rw[←h.eq]
 simp[execOp,ag hx,ag hy,eqGuard,binOp,uL ha hb,ye]
theorem PZ{S:List Nat}{w0:World}{F:World→Prop}{L:Env}{d:Option Nat}{ty:TypeId}{pos:String}{af:Array Edge}{g:Option (Nat×Bool)}{x y:Operand}{T':TypeId}{a b:Pu}{c:Bool}(hx:ro L x=some (qV a))(hy:ro L y=some (qV b))(ha:a.Fit)(hb:b.Fit)(h:Dc (a=b) c):
  aK Tryz.prog S w0 F L ⟨d,.binOp .neq 133 x y T',ty,pos,af,g⟩ (.bool (!c)):=fun w _ _=>by
 rw[←h.eq]
 simp[execOp,ag hx,ag hy,eqGuard,binOp,uL ha hb,ye]
theorem OC:pz.Fit:=by unfold Pu.Fit pz;simp
attribute [local irreducible] CG NG SG aK aI Row aF aE aM
theorem kM{w:World}{bt bm:Nat}{m:Bk}(hB:bS w bt bm m)(k:Dg)(p:Pu)(hf:p.Fit):Calls Tryz.prog 79 #[.pointer (some ⟨bt,0,none⟩),dv k,qV p] w (fun e w'=>e= .returned (.tuple #[])∧bS w' bt bm (gJ m k p)∧Kp [bm] w w'):=by
 refine ey Tryz.func79 rfl Tryz.ntmps79 rfl ?_
 have hf0:=OC
 have hne:=hB.ne
 repeat apply aj
 refine SG.box rfl rfl rfl (ag rfl) (fun b4 w1 hk1 hb4 hB4=>?_)
 refine SG.box rfl rfl rfl (ag rfl) (fun b5 w2 hk2 hb5 hB5=>?_)
 have hR4:Row w2 b4 0 (dc k):=Row.all (hB4.ay hk2) rfl
 have hR5:Row w2 b5 0 (tu p):=Row.all hB5 rfl
 have h2:=(hB.ay hk1).ay hk2
 have hr0:=h2.r0
 have hm:=h2.map
 repeat (first|apply aj|(apply ar;rfl;apply bj<;>first|rfl|assumption|exact List.not_mem_nil))
 refine SG.val rfl rfl rfl rfl (aG (v:=qV pz) rfl (fun w=>by kernel_rfl)) ?_
 by_cases e:p=pz
 ·repeat (first|apply aj|(apply ar;rfl;apply P0<;>first|rfl|assumption|(apply bK;first|assumption|omega)))
  refine bL rfl ?_
  repeat apply aj
  refine CG.tail mixed 5 [0,1,2,3,4] (by kernel_rfl) ?_
  repeat (apply bZ;rfl;rfl;(first|apply az|apply bf|apply bj|apply aW|apply bM)<;>first|rfl|assumption|exact List.not_mem_nil|apply ah)
  refine aI.tl (fun w3 hk3 _ _=>?_)
  have h3:=h2.ay hk3
  refine SG.delete (V:=qV) (kx:=k) rfl rfl (ag rfl) (ag rfl) h3.map (fun w4 hk4 hm4=>?_)
  repeat apply aj
  refine nF (Or.inl rfl) Tryz.results79 ?_
  refine⟨rfl,⟨h3.blk.kp hk4 (bP hne),?_⟩,((hk1.trans hk2).trans hk3).any.trans hk4⟩
  unfold gJ
  rw[if_pos e]
  exact hm4
 ·repeat (first|apply aj|(apply ar;rfl;apply P0<;>first|rfl|assumption|(apply bN;first|assumption|omega)))
  refine bG rfl ?_
  repeat apply aj
  refine CG.tail mixed 6 [0,1,2,3,4,5] (by kernel_rfl) ?_
  repeat (apply bZ;rfl;rfl;(first|apply az|apply bf|apply bj|apply aW|apply bM)<;>first|rfl|assumption|exact List.not_mem_nil|apply ah)
  refine aI.tl (fun w3 hk3 _ _=>?_)
  have h3:=h2.ay hk3
  refine SG.mapUpdate (enc:=dv (n:=8)) (V:=qV) (kx:=k) (vy:=p) rfl rfl (ag rfl) (ag rfl) (ag rfl) h3.map gr.key (fun w4 hk4 hm4=>?_)
  repeat apply aj
  refine nF (Or.inr rfl) Tryz.results79 ?_
  refine⟨rfl,⟨h3.blk.kp hk4 (bP hne),?_⟩,((hk1.trans hk2).trans hk3).any.trans hk4⟩
  unfold gJ
  rw[if_neg e]
  exact hm4
end
section
abbrev Nn:={n:Int//0≤n∧n≤1099511627776}
def Dr(x:Dg×Nn):List Value:=dc x.1++[.int .i64 x.2.1]
@[reducible] def HH (x:Dg×Nn):Value:= .agg (Dr x).toArray
def vl(x:Dg×Dg):List Value:=dc x.1++dc x.2
@[reducible] def ER (x:Dg×Dg):Value:= .agg (vl x).toArray
theorem gx(x:Dg×Nn):(Dr x).length=9:=by simp[Dr,ah]
theorem DQ(x:Dg×Nn):bF (Dr x)=true:=by simp[Dr,bF,dc,jJ]
theorem fe(x:Dg×Dg):(vl x).length=16:=by simp[vl,ah]
theorem ES(x:Dg×Dg):bF (vl x)=true:=by simp[vl,bF,dc,jJ]
theorem DR{x y:Dg×Nn}(h:Dr x=Dr y):x=y:=by
 obtain⟨p,n,hn⟩:=x
 obtain⟨q,m,hm⟩:=y
 have h':=List.append_inj h (by simp[ah])
 have h1:=p7 h'.1
 have h2:n=m:=by simpa using h'.2
 subst h1
 subst h2
 rfl
theorem ET{x y:Dg×Dg}(h:vl x=vl y):x=y:=by
 obtain⟨p,n⟩:=x
 obtain⟨q,m⟩:=y
 have h':=List.append_inj h (by simp[ah])
 exact Prod.ext (p7 h'.1) (p7 h'.2)
theorem CL:Tryz.prog.cellsOf 5=1:=by kernel_rfl
theorem CO:Tryz.prog.cellsOf 47=8:=by kernel_rfl
theorem E0:Tryz.prog.cellsOf 3=1:=by kernel_rfl
theorem CM:Tryz.prog.cellsOf 242=9:=by kernel_rfl
theorem CN:Tryz.prog.cellsOf 341=16:=by kernel_rfl
theorem Fu:∃m,Tryz.prog.types.size=m+3:=⟨Tryz.prog.types.size-3,by kernel_rfl⟩
theorem AY(m:Nat)(a0 a1 a2 a3 a4 a5 a6 a7:UInt8)(h:Int)(h0:0≤h)(hh:h≤1099511627776):(Tryz.prog.keyLits (m+3+1) 242 [bv a0,bv a1,bv a2,bv a3,bv a4,bv a5,bv a6,bv a7,.int .i64 h]).isSome=true:=by
 have hw:(Lit.int .i64 h).wf=true:=by
  simp[Lit.wf,IntKind.min,IntKind.max,IntKind.signed,IntKind.bits]
  omega
 simp[Program.keyLits,Tryz.underlying242,Tryz.underlying47,Tryz.underlying5,Tryz.underlying3,CL,CO,E0,CM,oY,hw,List.range,List.range.loop]
theorem Cw(m:Nat)(a0 a1 a2 a3 a4 a5 a6 a7 b0 b1 b2 b3 b4 b5 b6 b7:UInt8):(Tryz.prog.keyLits (m+3+1) 341 [bv a0,bv a1,bv a2,bv a3,bv a4,bv a5,bv a6,bv a7,bv b0,bv b1,bv b2,bv b3,bv b4,bv b5,bv b6,bv b7]).isSome=true:=by
 simp[Program.keyLits,Tryz.underlying341,Tryz.underlying47,Tryz.underlying5,CL,CO,CN,oY,List.range,List.range.loop]
theorem AZ:cT Tryz.prog 242 HH:=by
 refine cT.deep (enc:=Dr) 3 (by omega) (by kernel_rfl) (by kernel_rfl) (by rw[Tryz.underlying242]) (by kernel_rfl) (fun x=>by simp[Value.formed,Tryz.underlying242,CM,gx]) (fun x=>?_) (fun x y h=>DR h)
 obtain⟨m,hm⟩:=Fu
 rw[hm]
 obtain⟨⟨l,hl⟩,h,h0,h1⟩:=x
 match l,hl with
 |[a0,a1,a2,a3,a4,a5,a6,a7],_=>exact AY m a0 a1 a2 a3 a4 a5 a6 a7 h h0 h1
theorem Cx:cT Tryz.prog 341 ER:=by
 refine cT.deep (enc:=vl) 3 (by omega) (by kernel_rfl) (by kernel_rfl) (by rw[Tryz.underlying341]) (by kernel_rfl) (fun x=>by simp[Value.formed,Tryz.underlying341,CN,fe]) (fun x=>?_) (fun x y h=>ET h)
 obtain⟨m,hm⟩:=Fu
 rw[hm]
 obtain⟨⟨l,hl⟩,⟨k,hk⟩⟩:=x
 match l,hl,k,hk with
 |[a0,a1,a2,a3,a4,a5,a6,a7],_,[b0,b1,b2,b3,b4,b5,b6,b7],_=>exact Cw m a0 a1 a2 a3 a4 a5 a6 a7 b0 b1 b2 b3 b4 b5 b6 b7
end
section
section
variable {P:Program} {n:Nat} {Q:Exit→Act→World→Prop} {L:Env} {w w0:World} {ops rest:List Oper} {ty:TypeId} {pos:String} {af:Array Edge} {g:Option (Nat×Bool)} {S:List Nat} {F:World→Prop}
def j8(f:FuncId)(caps:List Value):Value:= .func (.func f) #[] caps.toArray
theorem Bh:∀{cs:List Operand} {vs:List Value},cs.map (ro L)=vs.map some→cs.map (bB L)=vs
 |[],vs,h=>by cases vs<;>simp at h⊢
 |x::cs,[],h=>by simp at h
 |x::cs,v::vs,h=>by
  simp only[List.map_cons,List.cons.injEq] at h⊢
  exact⟨ag h.1,Bh h.2⟩
theorem Ht{d:Option Nat}{f:FuncId}{cs:List Operand}{vs:List Value}(h:cs.map (ro L)=vs.map some):aK P S w0 F L ⟨d,.makeFunc (.func f) #[] cs.toArray,ty,pos,af,g⟩ (j8 f vs):=fun w _ _=>by
 have e:cs.map (bB L)=vs:=Bh h
 simp[execOp,Instr.makeFunc,j8,e]
theorem qR{f:FuncId}[Fn:bQ P f]{x:Operand}{args:List Operand}{vs caps:List Value}{tys:Array TypeId}{d:Option Nat}(hf:bB L x=j8 f caps)(he:bz L args vs):
  (execOp (bB L) ⟨d,.call ⟨.value x,args.toArray,tys⟩,ty,pos,af,g⟩).run P w= .ok (.enter f (vs++caps).toArray) w:=by
 simp only[execOp,resolve,hf,j8,Deferred.ofValue,he.arr]
 simp[invoke,Fn.run]
theorem SG.FR{d:Nat}{f:FuncId}[Fn:bQ P f]{x:Operand}{args:List Operand}{vs caps:List Value}{tys:Array TypeId}(hd:Nat.blt d n=true)(hw:want ops L ⟨some d,.call ⟨.value x,args.toArray,tys⟩,ty,pos,af,g⟩=some true)(hk:(Op.call ⟨.value x,args.toArray,tys⟩).operands.toList.all (known L)=true)
  (hf:bB L x=j8 f caps) (he:bz L args vs) (hc:Calls P f (vs++caps).toArray w (fun e w'=>∃v,e= .returned v∧SG P n ops Q rest ((d,v)::L) w')):SG P n ops Q (⟨some d,.call ⟨.value x,args.toArray,tys⟩,ty,pos,af,g⟩::rest) L w:=by
 refine SG.op (by simpa using hd) rfl hw hk ?_
 unfold bh
 rw[qR (Fn:=Fn) hf he]
 exact hc
theorem SG.mA{d:Nat}{f:FuncId}[Fn:bQ P f]{x:Operand}{args:List Operand}{vs caps:List Value}{tys:Array TypeId}{v:Value}(hd:Nat.blt d n=true)(hw:want ops L ⟨some d,.call ⟨.value x,args.toArray,tys⟩,ty,pos,af,g⟩=some true)(hk:(Op.call ⟨.value x,args.toArray,tys⟩).operands.toList.all (known L)=true)
  (hf:bB L x=j8 f caps) (he:bz L args vs) (hc:dz P f (vs++caps).toArray w v) (h:∀w',Kp [] w w'→SG P n ops Q rest ((d,v)::L) w'):SG P n ops Q (⟨some d,.call ⟨.value x,args.toArray,tys⟩,ty,pos,af,g⟩::rest) L w:=
 SG.FR (Fn:=Fn) hd hw hk hf he (hc.mono (fun e w' ⟨h1,h2⟩=>⟨v,h1,h w' h2⟩))
end
end
section
section
variable {P:Program} {L:Env} {ty:TypeId} {pos:String} {af:Array Edge} {g:Option (Nat×Bool)} {S:List Nat} {w0 w:World} {ops:List Oper} {gh:List Nat} {K:Env→(World→Prop)→(World→Prop)→Prop} {i:Nat} {ord:List Nat} {F R:World→Prop}
theorem wj{f:FuncId}[Fn:bQ P f]{x:Operand}{args:List Operand}{vs caps:List Value}{tys:Array TypeId}{d:Option Nat}{R:Value→World→Prop}(hf:bB L x=j8 f caps)(he:bz L args vs)(h:Calls P f (vs++caps).toArray w (fun e w'=>∃v,e= .returned v∧R v w')):
  bh P (bB L) ⟨d,.call ⟨.value x,args.toArray,tys⟩,ty,pos,af,g⟩ w R:=by
 unfold bh
 rw[qR (Fn:=Fn) hf he]
 exact h
theorem aI.G1{X:Type}{d:Nat}{f:FuncId}[Fn:bQ P f]{x:Operand}{args:List Operand}{vs caps:List Value}{tys:Array TypeId}(val:X→Value)(F' R':X→World→Prop)
  (ho:ops[i]?=some ⟨some d,.call ⟨.value x,args.toArray,tys⟩,ty,pos,af,g⟩) (hw:want ops L ⟨some d,.call ⟨.value x,args.toArray,tys⟩,ty,pos,af,g⟩=some true) (hg:gh.elem i=true) (hk:(Op.call ⟨.value x,args.toArray,tys⟩).operands.toList.all (known L)=true)
  (hf:bB L x=j8 f caps) (he:bz L args vs) (hF:∀x,cm S (F' x)) (hR:∀x,cm [] (R' x)) (hFs:cm S F) (hc:∀w,Kp S w0 w→F w→R w→Calls P f (vs++caps).toArray w (fun e w'=>∃x,e= .returned (val x)∧F' x w'∧R' x w'∧Kp S w w'))
  (hd:∀x,aI P S w0 ops gh K ord ((d,val x)::L) (fun w=>F w∧F' x w) (R' x)):aI P S w0 ops gh K (i::ord) L F R:=
 aI.ghost val F' R' ho hw hg hk hF hR hFs (fun w h1 h2 h3=>wj (Fn:=Fn) hf he ((hc w h1 h2 h3).mono (fun e w' ⟨x,g1,g2,g3,g4⟩=>⟨val x,g1,x,rfl,g2,g3,g4⟩))) hd
end
end
section
class yB(P:Program)(t:TypeId)(name:String)(f:outParam FuncId):Prop where
 run:∀(v:Value) (w:World),(method (P.types.size+Made.depth) t v name).run P w= .ok (f,v) w
 ahead:∀(v:Value) (w:World),(nilAhead (P.types.size+Made.depth) t v name).run P w= .ok (some false) w
section
variable {P:Program} {n:Nat} {Q:Exit→Act→World→Prop} {L:Env} {w w0:World} {ops rest:List Oper} {ty:TypeId} {pos:String} {af:Array Edge} {g:Option (Nat×Bool)} {S:List Nat} {F R:World→Prop}
def H7(name:String)(x:Value):Value:= .func (.method name) #[x] #[]
theorem Jd{d:Option Nat}{name:String}{x:Operand}{v:Value}(h:ro L x=some v):aK P S w0 F L ⟨d,.makeFunc (.method name) #[x] #[],ty,pos,af,g⟩ (H7 name v):=fun w _ _=>by
 simp[execOp,Instr.makeFunc,H7,ag h]
theorem D8{d:Option Nat}{name:String}{x:Operand}{t:TypeId}{f:FuncId}{v:Value}(h:ro L x=some (H7 name (.iface t v)))(M:yB P t name f):aK P S w0 F L ⟨d,.nilCheck x,ty,pos,af,g⟩ (H7 name (.iface t v)):=fun w _ _=>by
 simp[execOp,ag h,H7,M.ahead]
theorem pC{t:TypeId}{v:Value}{name:String}{f:FuncId}[M:yB P t name f][Fn:bQ P f]{x:Operand}{args:List Operand}{vs:List Value}{tys:Array TypeId}{d:Option Nat}(hf:bB L x= .iface t v)(he:bz L args vs):
  (execOp (bB L) ⟨d,.call ⟨.invoke x name,args.toArray,tys⟩,ty,pos,af,g⟩).run P w= .ok (.enter f (v::vs).toArray) w:=by
 simp only[execOp,resolve,hf,he.arr]
 simp[invoke,callMethod,M.run,Fn.run]
theorem SG.uU{d:Nat}{t:TypeId}{v:Value}{name:String}{f:FuncId}[M:yB P t name f][Fn:bQ P f]{x:Operand}{args:List Operand}{vs:List Value}{tys:Array TypeId}(hd:Nat.blt d n=true)(hw:want ops L ⟨some d,.call ⟨.invoke x name,args.toArray,tys⟩,ty,pos,af,g⟩=some true)(hk:(Op.call ⟨.invoke x name,args.toArray,tys⟩).operands.toList.all (known L)=true)
  (hf:bB L x= .iface t v) (he:bz L args vs) (hc:Calls P f (v::vs).toArray w (fun e w'=>∃v,e= .returned v∧SG P n ops Q rest ((d,v)::L) w')):SG P n ops Q (⟨some d,.call ⟨.invoke x name,args.toArray,tys⟩,ty,pos,af,g⟩::rest) L w:=by
 refine SG.op (by simpa using hd) rfl hw hk ?_
 unfold bh
 rw[pC (M:=M) (Fn:=Fn) hf he]
 exact hc
theorem SG.HV{d:Nat}{t:TypeId}{v u:Value}{name:String}{f:FuncId}[M:yB P t name f][Fn:bQ P f]{x:Operand}{args:List Operand}{vs:List Value}{tys:Array TypeId}(hd:Nat.blt d n=true)(hw:want ops L ⟨some d,.call ⟨.invoke x name,args.toArray,tys⟩,ty,pos,af,g⟩=some true)(hk:(Op.call ⟨.invoke x name,args.toArray,tys⟩).operands.toList.all (known L)=true)
  (hf:bB L x= .iface t v) (he:bz L args vs) (hc:dz P f (v::vs).toArray w u) (h:∀w',Kp [] w w'→SG P n ops Q rest ((d,u)::L) w'):SG P n ops Q (⟨some d,.call ⟨.invoke x name,args.toArray,tys⟩,ty,pos,af,g⟩::rest) L w:=
 SG.uU (M:=M) (Fn:=Fn) hd hw hk hf he (hc.mono (fun e w' ⟨h1,h2⟩=>⟨u,h1,h w' h2⟩))
theorem lN{t:TypeId}{v:Value}{name:String}{f:FuncId}[M:yB P t name f][Fn:bQ P f]{x:Operand}{args:List Operand}{vs:List Value}{tys:Array TypeId}{d:Option Nat}{R:Value→World→Prop}(hf:bB L x= .iface t v)(he:bz L args vs)(h:Calls P f (v::vs).toArray w (fun e w'=>∃u,e= .returned u∧R u w')):
  bh P (bB L) ⟨d,.call ⟨.invoke x name,args.toArray,tys⟩,ty,pos,af,g⟩ w R:=by
 unfold bh
 rw[pC (M:=M) (Fn:=Fn) hf he]
 exact h
variable {gh:List Nat} {K:Env→(World→Prop)→(World→Prop)→Prop} {i:Nat} {ord:List Nat}
theorem aI.xj{X:Type}{d:Nat}{t:TypeId}{v:Value}{name:String}{f:FuncId}[M:yB P t name f][Fn:bQ P f]{x:Operand}{args:List Operand}{vs:List Value}{tys:Array TypeId}(val:X→Value)(F' R':X→World→Prop)
  (ho:ops[i]?=some ⟨some d,.call ⟨.invoke x name,args.toArray,tys⟩,ty,pos,af,g⟩) (hw:want ops L ⟨some d,.call ⟨.invoke x name,args.toArray,tys⟩,ty,pos,af,g⟩=some true) (hg:gh.elem i=true) (hk:(Op.call ⟨.invoke x name,args.toArray,tys⟩).operands.toList.all (known L)=true)
  (hf:bB L x= .iface t v) (he:bz L args vs) (hF:∀x,cm S (F' x)) (hR:∀x,cm [] (R' x)) (hFs:cm S F) (hc:∀w,Kp S w0 w→F w→R w→Calls P f (v::vs).toArray w (fun e w'=>∃x,e= .returned (val x)∧F' x w'∧R' x w'∧Kp S w w'))
  (hd:∀x,aI P S w0 ops gh K ord ((d,val x)::L) (fun w=>F w∧F' x w) (R' x)):aI P S w0 ops gh K (i::ord) L F R:=
 aI.ghost val F' R' ho hw hg hk hF hR hFs (fun w h1 h2 h3=>lN (M:=M) (Fn:=Fn) hf he ((hc w h1 h2 h3).mono (fun e w' ⟨x,g1,g2,g3,g4⟩=>⟨val x,g1,x,rfl,g2,g3,g4⟩))) hd
theorem aI.uU{d:Nat}{t:TypeId}{v u:Value}{name:String}{f:FuncId}[M:yB P t name f][Fn:bQ P f]{x:Operand}{args:List Operand}{vs:List Value}{tys:Array TypeId}
  (ho:ops[i]?=some ⟨some d,.call ⟨.invoke x name,args.toArray,tys⟩,ty,pos,af,g⟩) (hw:want ops L ⟨some d,.call ⟨.invoke x name,args.toArray,tys⟩,ty,pos,af,g⟩=some true) (hk:(Op.call ⟨.invoke x name,args.toArray,tys⟩).operands.toList.all (known L)=true)
  (hf:bB L x= .iface t v) (he:bz L args vs) (hc:∀w,Kp S w0 w→F w→dz P f (v::vs).toArray w u)
  (hd:aI P S w0 ops gh K ord ((d,u)::L) F R):aI P S w0 ops gh K (i::ord) L F R:=
 aI.run u ho hw hk (fun w hkp hF=>lN (M:=M) (Fn:=Fn) hf he ((hc w hkp hF).mono (fun e w' ⟨h1,h2⟩=>⟨u,h1,rfl,h2⟩))) hd
theorem wX{T:TypeId}{ms:Array (String×TypeId)}[u:Ut P T (.interface ms)](k:Nat)(t:TypeId)(v:Value):(Op.equalIn (k+1) T (.iface t v) .nilIface).run P w= .ok false w:=by
 simp only[Op.equalIn]
 simp[run_underlying u.eq,Result.andThen]
theorem Ct{T:TypeId}{ms:Array (String×TypeId)}[u:Ut P T (.interface ms)](t:TypeId)(v:Value):(Op.equal T (.iface t v) .nilIface).run P w= .ok false w:=wX 9999 t v
theorem Gd{d:Option Nat}{T T':TypeId}{ms:Array (String×TypeId)}[u:Ut P T (.interface ms)]{x:Operand}{t:TypeId}{v:Value}(h:ro L x=some (.iface t v)):aK P S w0 F L ⟨d,.binOp .eql T x (.const .nilIface) T',ty,pos,af,g⟩ (.bool false):=fun w _ _=>by
 have hc:bB L (.const .nilIface)= .nilIface:=rfl
 simp only[execOp,ag h,hc]
 simp[eqGuard,binOp,Ct t v,Result.andThen]
theorem D9{d:Option Nat}{T:TypeId}{x:Operand}{v:Value}{u:TypeDesc}[hu:Ut P T u](hn:(match u with| .interface _=>false|_=>true)=true)(h:ro L x=some v):aK P S w0 F L ⟨d,.makeInterface T x,ty,pos,af,g⟩ (.iface T v):=fun w _ _=>by
 simp only[execOp,ag h,Instr.makeInterface]
 cases u<;>first|(simp at hn;done)|simp[run_underlying hu.eq,Result.andThen]
theorem Oe{d:Option Nat}{T A:TypeId}{x:Operand}{v:Value}{u:TypeDesc}[hu:Ut P A u](hn:(match u with| .interface _=>false|_=>true)=true)(h:ro L x=some (.iface A v)):aK P S w0 F L ⟨d,.typeAssert x T A true,ty,pos,af,g⟩ (.tuple #[v,.bool true]):=fun w _ _=>by
 simp only[execOp,ag h,Instr.typeAssert]
 cases u<;>first|(simp at hn;done)|simp[run_underlying hu.eq,Result.andThen]
end
end
section
instance Hv:yB Tryz.prog 40 "Verify" 245:=⟨fun v w=>by kernel_rfl,fun v w=>by kernel_rfl⟩
instance Oo:yB Tryz.prog 197 "Key" 253:=⟨fun v w=>by kernel_rfl,fun v w=>by kernel_rfl⟩
instance Jf:yB Tryz.prog 197 "Sign" 254:=⟨fun v w=>by kernel_rfl,fun v w=>by kernel_rfl⟩
instance P5:yB Tryz.prog 74 "Do" 138:=⟨fun v w=>by kernel_rfl,fun v w=>by kernel_rfl⟩
instance H8:yB Tryz.prog 74 "Clone" 250:=⟨fun v w=>by kernel_rfl,fun v w=>by kernel_rfl⟩
instance Jg:yB Tryz.prog 74 "Same" 251:=⟨fun v w=>by kernel_rfl,fun v w=>by kernel_rfl⟩
end
section
section
variable {P:Program} {S:List Nat} {w0:World} {F:World→Prop} {L:Env} {d:Option Nat} {ty:TypeId} {pos:String} {af:Array Edge} {g:Option (Nat×Bool)}
theorem P3{T E:TypeId}[u:Ut P T (.slice E)]{sz:Nat}[f:Sz P E sz]{x lo hi:Operand}{b off n c:Nat}{k k':IntKind}{z z':Int}{j m:Nat}(hx:ro L x=some (.slice (some ⟨b,off,none⟩) n c))(hlo:ro L lo=some (.int k z))(hhi:ro L hi=some (.int k' z'))(hz:z=(j:Int))(hz':z'=(m:Int))(hj:Ar (j≤m∧m≤c∧j<c)):
  aK P S w0 F L ⟨d,.slice T x (some lo) (some hi) none,ty,pos,af,g⟩ (.slice (some ⟨b,off+j*sz,none⟩) (m-j) (c-j)):=fun w _ _=>by
 obtain⟨i,h2,h3⟩:=f.eq
 obtain⟨q1,q2,q3⟩:=hj.h
 subst h3
 subst hz
 subst hz'
 simp only[execOp,ag hx,Option.map_some,Option.map_none,ag hlo,ag hhi,Instr.sliceAt,Sem.run_bind,run_underlying u.eq,Result.andThen,Instr.slice,Instr.sliceBounds,Instr.sliceBound,asIntOf,Sem.run_pure]
 have h5:(0:Int)≤(m:Int)∧(m:Int)≤(c:Int):=⟨by omega,by omega⟩
 simp only[h5,and_self,if_true,Sem.run_pure,Int.toNat_natCast]
 have h6:(0:Int)≤(j:Int)∧(j:Int)≤(m:Int):=⟨by omega,by omega⟩
 simp only[h6,and_self,if_true,Sem.run_pure,sizeOf,typeInfo,Sem.run_bind,run_program,Result.andThen,h2]
 have hc:c≠j:=by omega
 simp[hc,dd]
theorem pr{T E:TypeId}[u:Ut P T (.slice E)]{sz:Nat}[f:Sz P E sz]{x lo:Operand}{n c:Nat}{k:IntKind}{j:Nat}(hx:ro L x=some (.slice none n c))(hlo:ro L lo=some (.int k (j:Int)))(hj:j≤n):
  aK P S w0 F L ⟨d,.slice T x (some lo) none none,ty,pos,af,g⟩ (.slice none (n-j) (c-j)):=fun w _ _=>by
 obtain⟨i,h2,h3⟩:=f.eq
 have h4:(j:Int)≤n:=by omega
 subst h3
 simp only[execOp,ag hx,Option.map_some,Option.map_none,ag hlo,Instr.sliceAt,Sem.run_bind,run_underlying u.eq,Result.andThen,Instr.slice,Instr.sliceBounds,Instr.sliceBound,asIntOf,Sem.run_pure]
 have h5:(0:Int)≤(j:Int)∧(j:Int)≤(n:Int):=⟨by omega,h4⟩
 simp only[h5,and_self,if_true,Sem.run_pure,sizeOf,typeInfo,Sem.run_bind,run_program,Result.andThen,h2]
 simp
theorem SA{T E:TypeId}{n:Nat}[u:Ut P T (.array n E)]{x:Operand}{a:Addr}{m c:Nat}(hx:ro L x=some (.slice (some a) m c))(h:Ar (n≤m)):
  aK P S w0 F L ⟨d,.sliceToArrayPointer T x,ty,pos,af,g⟩ (.pointer (some a)):=fun w _ _=>by
 have h1:=h.h
 simp[execOp,ag hx,Instr.arrayAt,run_underlying u.eq]
 intro h2
 omega
theorem SI{T E:TypeId}{n sz:Nat}[u:Ut P T (.array n E)][f:Sz P E sz]{x:Operand}{b off:Nat}(hx:ro L x=some (.pointer (some ⟨b,off,none⟩))):
  aK P S w0 F L ⟨d,.slice T x none none none,ty,pos,af,g⟩ (.slice (some ⟨b,off,none⟩) n n):=fun w _ _=>by
 obtain⟨i,h2,h3⟩:=f.eq
 subst h3
 simp only[execOp,ag hx,Option.map_none,Instr.sliceAt,Sem.run_bind,run_underlying u.eq,Result.andThen,Instr.sureAddr,Instr.sliceBounds,Sem.run_pure,sizeOf,typeInfo,run_program,h2]
 simp[Addr.add]
end
section
variable {P:Program} {n:Nat} {Q:Exit→Act→World→Prop} {L:Env} {w:World} {ops:List Oper} {rest:List Oper} {ty:TypeId} {pos:String} {af:Array Edge} {g:Option (Nat×Bool)}
theorem SG.copy{d:Nat}{t t2 e T':TypeId}[u:Ut P t (.slice e)][z:Sz P e 1]{s x:Operand}{b m c2 c0:Nat}{a2:Option Addr}{cs:Array Value}{news:List Value}
  (hd:Nat.blt d n=true) (hw:want ops L ⟨some d,.call {callee:= .builtin .copy,args:= #[s,x],argTypes:= #[t,t2]},ty,pos,af,g⟩=some true) (hk:(known L s&&known L x)=true)
  (hs:bB L s= .slice (some ⟨b,0,none⟩) m c0) (hx:bB L x= .slice a2 news.length c2) (hB:aF w b (.cells cs T')) (hm:news.length≤m) (hc:m≤cs.size) (hone:bF news=true) (hS:∀b2 off,a2=some ⟨b2,off,none⟩→news≠[]→Row w b2 off news) (ha2:news≠[]→∃b2 off,a2=some ⟨b2,off,none⟩)
  (hno:a2=none∨∃b2 off,a2=some ⟨b2,off,none⟩)
  (h:∀w',Kp [b] w w'→aF w' b (.cells (jd cs.toList 0 news).toArray T')→SG P n ops Q rest ((d,.int .i64 (news.length:Int))::L) w'):SG P n ops Q (⟨some d,.call {callee:= .builtin .copy,args:= #[s,x],argTypes:= #[t,t2]},ty,pos,af,g⟩::rest) L w:=by
 refine SG.op (by simpa using hd) rfl hw (by simpa[Op.operands,Call.operands] using hk) ?_
 unfold bh
 obtain⟨i,h2,h3⟩:=z.eq
 have hmin:Nat.min news.length m=news.length:=Nat.min_eq_left hm
 have hload:(Builtin.firstCells i.size (Nat.min news.length m) (.slice a2 news.length c2)).run P w= .ok news.toArray w:=by
  rw[hmin,h3]
  rcases hno with rfl|⟨b2,off,rfl⟩
  ·have:news=[]:=by
    cases news with
    |nil=>rfl
    |cons y l=>obtain⟨b2,off,e⟩:=ha2 (by simp);cases e
   subst this
   simp[Builtin.firstCells]
  ·simp only[Builtin.firstCells,loadCells,Nat.mul_one]
   by_cases he:news=[]
   ·subst he
    simp[loadCellsFrom]
   ·rw[run_loadCellsFrom (hS b2 off rfl he) news.length 0 _ (by omega)]
    simp
 have hst:=eF (P:=P) (b:=b) (off:=0) (T:=T') news 0 w cs hB (by simp;omega) hone
 have:(execOp (bB L) ⟨some d,.call {callee:= .builtin .copy,args:= #[s,x],argTypes:= #[t,t2]},ty,pos,af,g⟩).run P w= .ok (.value (.int .i64 (news.length:Int))) {w with heap:=w.heap.setIfInBounds b (.cells (jd cs.toList 0 news).toArray T')}:=by
  have hcopy:(Builtin.copy_ #[t,t2] ty #[.slice (some ⟨b,0,none⟩) m c0,.slice a2 news.length c2]).run P w= .ok (.int .i64 (news.length:Int)) {w with heap:=w.heap.setIfInBounds b (.cells (jd cs.toList 0 news).toArray T')}:=by
   rw[hmin] at hload
   simp only[Nat.add_zero] at hst
   simp only[Builtin.copy_,List.getElem?_toArray,List.getElem?_cons_zero,List.getElem?_cons_succ,Sem.run_bind,run_underlying u.eq,Result.andThen_ok,sizeOf,typeInfo,run_program,h2,Builtin.lenOf,Sem.run_pure,hmin,hload,hst,goInt]
  simp only[execOp,resolve,invoke,builtin,Sem.run_bind,Sem.run_pure,Result.andThen_ok,List.map_toArray,List.map_cons,List.map_nil,hs,hx,hcopy]
 rw[this]
 exact h _ (Kp.set w hB rfl rfl) (hB.set _)
end
end
section
open Go.Proofs
abbrev gw:UInt8→List Value:=fun u=>[bv u]
theorem EN(l:List UInt8):bO gw l=l.map bv:=by
 induction l with
 |nil=>rfl
 |cons x l ih=>simp[bO,gw] at ih⊢;exact ih
theorem A8{w:World}{b off:Nat}{l:List UInt8}(h:Sl gw 1 w (some ⟨b,off,none⟩) l)(i m:Nat)(him:i+m≤l.length)(hm:0<m):Row w b (off+i*1) (((l.drop i).take m).map bv):=by
 have hS:Sl gw 1 w (some ⟨b,off+i*1,none⟩) ((l.drop i).take m):=fun k x hx=>by
  have hk:k<((l.drop i).take m).length:=(List.getElem?_eq_some_iff.1 hx).1
  have hk2:k<m:=by simp at hk;omega
  rw[List.getElem?_take_of_lt hk2,List.getElem?_drop] at hx
  refine⟨b,off+i*1,rfl,?_⟩
  have:=h.row hx
  rwa [show off+(i+k)*1=off+i*1+k*1 from by omega] at this
 have hne:(l.drop i).take m≠[]:=by
  intro e
  have:((l.drop i).take m).length=0:=by rw[e];rfl
  simp at this
  omega
 have:=Sl.flat (enc:=gw) (fun _=>rfl) hne hS
 rwa [EN] at this
theorem uN(s:Hs):∀(i:Nat) (l:List UInt8),gq s l (i+1)=c9 (gq s l i) (val ((l.drop (i*8)).take 8):Int):=by
 intro i
 induction i generalizing s with
 |zero=>intro l;simp[gq]
 |succ i ih=>
  intro l
  rw[gq,ih,gq,List.drop_drop,show 8+i*8=(i+1)*8 from by omega]
def d8(l:List UInt8)(h:l.length=8):Dg:=⟨l,h⟩
attribute [local irreducible] CG NG SG aK aI Row aF aE aM kZ ic vk qj kR lJ
theorem vq{w:World}{b:Nat}{s:Hs}{a:Option Addr}{c:Nat}{l:List UInt8}(hB:aF w b (.cells (jE s).toArray 202))(hS:Sl gw 1 w a l)(hab:∀b2 off,a=some ⟨b2,off,none⟩→b2≠b)(hl:l.length≤1000000000)(hc:l.length≤c):
  Calls Tryz.prog 145 #[.pointer (some ⟨b,0,none⟩),.slice a l.length c] w (fun e w'=>e= .returned (.tuple #[])∧Kp [b] w w'∧aF w' b (.cells (jE (gq s l (l.length/8))).toArray 202)):=by
 refine bJ Tryz.func145 rfl Tryz.ntmps145 rfl ?_
 have ediv:(l.length:Int)/8=((l.length/8:Nat):Int):=by omega
 repeat (first|apply aj|(apply ar;rfl;(first|apply N9|apply az|apply dy)<;>first|rfl|(apply Ar.mk;omega)))
 rw[ediv]
 refine CG.loop (X:=Nat) (fun i=>[(0,.pointer (some ⟨b,0,none⟩)),(1,.slice a l.length c),(7,.int .i64 ((l.length/8:Nat):Int)),(8,.int .i64 (i:Int))])
  (fun i w'=>i≤l.length/8∧Kp [b] w w'∧aF w' b (.cells (jE (gq s l i)).toArray 202)) (fun i=>l.length/8-i) 0 ⟨by omega,Kp.refl _ _,hB⟩ (aS.of rfl) ?_
 rintro i w1 ⟨hi,hk1,hB1⟩
 by_cases hlt:i<l.length/8
 ·have g1:(i:Int)<((l.length/8:Nat):Int):=by omega
  obtain⟨b2,off,rfl,_⟩:=hS.at (i:=i) (by omega)
  have hne:=hab b2 off rfl
  have hr:=A8 (hS.kp hk1 (fun b3 off3 e=>by cases e;exact bP hne)) (i*8) 8 (by omega) (by omega)
  have h8:((l.drop (i*8)).take 8).length=8:=by simp;omega
  have hr:Row w1 b2 (off+i*8*1) (dc (d8 _ h8)):=hr
  have ez:(i:Int)*8=((i*8:Nat):Int):=by omega
  have ez2:((i*8:Nat):Int)+8=((i*8+8:Nat):Int):=by omega
  repeat (first|apply aj|(apply ar;rfl;apply cG<;>first|rfl|(apply bK;first|assumption|omega)))
  refine bL rfl ?_
  repeat (first|apply aj|(apply ar;rfl;(first|apply Fy|apply az|apply aD|apply dG)<;>first|rfl|(apply Ar.mk;omega)))
  rw[ez]
  skip
  rw[ez2]
  repeat (apply ar;rfl;(first|apply P3|apply SA|apply bj)<;>first|rfl|assumption|(apply Ar.mk;omega)|exact List.not_mem_nil|apply ah)
  refine SG.ret rfl rfl rfl (by repeat' (first|exact True.intro|exact ag rfl|refine And.intro ?_ ?_)) (eG (d8 _ h8) w1) (fun w2 hk2=>?_)
  refine SG.call rfl rfl rfl (by repeat' (first|exact True.intro|exact ag rfl|refine And.intro ?_ ?_)) ((ff (hB1.ay hk2) _).mono (fun e w3 hh=>?_))
  obtain⟨he,hk3,hB3⟩:=hh
  refine⟨_,he,?_⟩
  repeat (first|apply aj|(apply ar;rfl;(first|apply az|apply dG)<;>first|rfl|(apply Ar.mk;omega)))
  refine NG.round (i+1) (aS.of rfl) ⟨by omega,(hk1.trans hk2.any).trans hk3,?_⟩ (by omega)
  rw[uN]
  exact hB3
 ·have g1:¬(i:Int)<((l.length/8:Nat):Int):=by omega
  have e8:i=l.length/8:=by omega
  subst e8
  repeat (first|apply aj|(apply ar;rfl;apply cG<;>first|rfl|(apply bN;first|assumption|omega)))
  refine bG rfl ?_
  repeat apply aj
  refine nF (Or.inr rfl) Tryz.results145 ?_
  exact⟨rfl,hk1,hB1⟩
def vY(r:List UInt8):List UInt8:=r++(1::List.replicate (7-r.length) 0)
theorem vX{r:List UInt8}(h:r.length<8):(vY r).length=8:=by simp[vY];omega
theorem qM:∀k,val (List.replicate k (0:UInt8))=0
 |0=>rfl
 |k+1=>by rw[List.replicate_succ];simp[val,qM k]
theorem Eh(r:List UInt8):val (vY r)=val (r++[1]):=by
 unfold vY
 rw[show(1:UInt8)::List.replicate (7-r.length) 0=[1]++List.replicate (7-r.length) 0 from rfl,←List.append_assoc,lG,qM]
 simp
theorem GU{r:List UInt8}(h:r.length<8):jd (dc zd) 0 (r.map bv)=r.map bv++(bv 0::List.replicate (7-r.length) (bv 0)):=by
 have e:dc zd=List.replicate 8 (bv 0):=rfl
 rw[e]
 simp only[jd,List.take_zero,List.nil_append,Nat.zero_add,List.length_map,List.drop_replicate]
 rw[show 8-r.length=(7-r.length)+1 from by omega,List.replicate_succ]
theorem Gp{r:List UInt8}:jd (r.map bv++(bv 0::List.replicate (7-r.length) (bv 0))) r.length [bv 1]=(vY r).map bv:=by
 have:=mu (pre:=r.map bv) (old:=[bv 0]) (post:=List.replicate (7-r.length) (bv 0)) (l:=[bv 1]) rfl
 simp only[List.length_map] at this
 rw[show bv 0::List.replicate (7-r.length) (bv 0)=[bv 0]++List.replicate (7-r.length) (bv 0) from rfl,this]
 simp[vY]
def GR(r:List UInt8)(h:r.length<8):Dg:=⟨vY r,vX h⟩
theorem Ad(r:List UInt8):bF (r.map bv)=true:=by simp[bF,jJ]
theorem Cu{w:World}{b:Nat}{s:Hs}{a:Option Addr}{c:Nat}{l:List UInt8}(hB:aF w b (.cells (jE s).toArray 202))(hS:Sl gw 1 w a l)(ha:l=[]∧a=none∨∃b2 off,a=some ⟨b2,off,none⟩)(hab:∀b2 off,a=some ⟨b2,off,none⟩→b2≠b)(hl:l.length≤1000000000)(hc:l.length≤c):
  Calls Tryz.prog 146 #[.pointer (some ⟨b,0,none⟩),.slice a l.length c] w (fun e w'=>e= .returned (.tuple #[])∧Kp [b] w w'∧aF w' b (.cells (jE (c9 (c9 s (val (l.drop (l.length/8*8)++[1]):Int)) (l.length:Int))).toArray 202)):=by
 refine bJ Tryz.func146 rfl Tryz.ntmps146 rfl ?_
 have ediv:(l.length:Int)/8*8=((l.length/8*8:Nat):Int):=by omega
 generalize hr0:l.drop (l.length/8*8)=r
 have hrl:r.length=l.length-l.length/8*8:=by rw[←hr0];simp
 have hr8:r.length<8:=by omega
 have hlb:=hB.lt
 repeat apply aj
 refine SG.alloc rfl rfl rfl (fun b4 w1 hk1 hb4 hB4=>?_)
 have hB4:aF w1 b4 (.cells (dc zd).toArray 47):=hB4
 repeat apply aj
 refine CG.tail mixed 7 [0,1,2,3,4,5,6] (by kernel_rfl) ?_
 repeat (apply bZ;rfl;rfl;(first|apply Fy|apply N9|apply SI|apply az|apply dy)<;>first|rfl|(apply Ar.mk;omega))
 rw[ediv]
 have hA:∃a2 c2,(∀w',Kp [] w w'→∀b2 off,a2=some ⟨b2,off,none⟩→r.map bv≠[]→Row w' b2 off (r.map bv))∧(r≠[]→∃b2 off,a2=some ⟨b2,off,none⟩)∧(a2=none∨∃b2 off,a2=some (⟨b2,off,none⟩:Addr))∧
   (∀(S:List Nat) (w0:World) (F:World→Prop) (L:Env) (pos:String) (af:Array Edge),ro L (.tmp 7)=some (.slice a l.length c)→ro L (.tmp 11)=some (.int .i64 ((l.length/8*8:Nat):Int))→aK Tryz.prog S w0 F L ⟨some 12,.slice 33 (.tmp 7) (some (.tmp 11)) none none,33,pos,af,none⟩ (.slice a2 r.length c2)):=by
  rcases ha with⟨rfl,rfl⟩|⟨b2,off,rfl⟩
  ·have hrn:r=[]:=by rw[←hr0];rfl
   subst hrn
   exact⟨none,c,fun _ _ _ _ e=>absurd e (by simp),fun h=>absurd rfl h,Or.inl rfl,fun S w0 F L pos af h1 h2=>pr (j:=0) h1 h2 (Nat.le_refl _)⟩
  ·refine⟨some ⟨b2,if c=l.length/8*8 then off else off+l.length/8*8*1,none⟩,c-l.length/8*8,fun w' hk b3 off3 e hne=>?_,fun _=>⟨_,_,rfl⟩,Or.inr ⟨_,_,rfl⟩,fun S w0 F L pos af h1 h2=>?_⟩
   ·simp only[Option.some.injEq,Addr.mk.injEq,and_true] at e
    obtain⟨rfl,rfl⟩:=e
    have hpos:0<r.length:=by
     cases r with
     |nil=>exact absurd rfl hne
     |cons x r=>simp
    rw[if_neg (by omega)]
    have:=A8 (hS.ay hk) (l.length/8*8) r.length (by omega) hpos
    rwa [hr0,List.take_of_length_le (Nat.le_refl _)] at this
   ·rw[hrl]
    exact ny (j:=l.length/8*8) (ag h1) (ag h2) (by omega)
 obtain⟨a2,c2,hA1,hA2,hA3,hA4⟩:=hA
 refine aI.val rfl rfl rfl (hA4 _ _ _ _ _ _ rfl rfl) ?_
 refine aI.tl (fun w2 hk2 _ _=>?_)
 refine SG.copy (m:=8) (news:=r.map bv) rfl rfl rfl (ag rfl) (by rw[List.length_map];exact ag rfl) (hB4.ay hk2) (by rw[List.length_map];omega) (by simp[ah]) (Ad r) (hA1 w2 (hk1.trans hk2)) (fun h=>hA2 (fun e=>h (by rw[e];rfl))) hA3 (fun w3 hk3 hB3=>?_)
 have hB3:aF w3 b4 (.cells (jd (dc zd) 0 (r.map bv)).toArray 47):=hB3
 rw[GU hr8] at hB3
 rw[List.length_map]
 repeat (first|apply aj|(apply ar;rfl;(first|apply Ea|apply az|apply aD)<;>first|rfl|(apply Ar.mk;omega)))
 refine SG.store rfl rfl (ag rfl) (ag rfl) hB3 rfl (by show 0+r.length*1+1≤_;simp) rfl (fun w4 hk4 hB5=>?_)
 have hB5:aF w4 b4 (.cells (jd (r.map bv++(bv 0::List.replicate (7-r.length) (bv 0))) (0+r.length*1) [bv 1]).toArray 47):=hB5
 rw[show 0+r.length*1=r.length from by omega,Gp] at hB5
 have hrow:Row w4 b4 0 (dc (GR r hr8)):=Row.all hB5 rfl
 repeat (first|apply aj|(apply ar;rfl;(first|apply az|apply bj)<;>first|rfl|assumption|exact List.not_mem_nil|apply ah))
 refine SG.ret rfl rfl rfl (by repeat' (first|exact True.intro|exact ag rfl|refine And.intro ?_ ?_)) (eG (GR r hr8) w4) (fun w5 hk5=>?_)
 have hBb:aF w5 b (.cells (jE s).toArray 202):=((((hB.ay hk1).ay hk2).kp hk3 (bP (by omega))).kp hk4 (bP (by omega))).ay hk5
 refine SG.call rfl rfl rfl (by repeat' (first|exact True.intro|exact ag rfl|refine And.intro ?_ ?_)) ((ff hBb _).mono (fun e w6 hh=>?_))
 obtain⟨he,hk6,hB6⟩:=hh
 refine⟨_,he,?_⟩
 repeat (first|apply aj|(apply ar;rfl;first|(apply Eb<;>(first|rfl|(apply Ar.mk;omega)))|((first|apply az|apply dy)<;>(first|rfl|(apply Ar.mk;omega)))))
 refine SG.call rfl rfl rfl (by repeat' (first|exact True.intro|exact ag rfl|refine And.intro ?_ ?_)) ((ff hB6 _).mono (fun e w7 hh=>?_))
 obtain⟨he,hk7,hB7⟩:=hh
 refine⟨_,he,?_⟩
 repeat apply aj
 refine nF (Or.inr rfl) Tryz.results146 ?_
 have hnum:num (GR r hr8)=val (r++[1]):=Eh r
 rw[hnum] at hB7
 have k4:Kp [] w w4:=((hk1.trans hk2).ai hk3 (aV hb4)).ai hk4 (aV hb4)
 exact⟨rfl,((k4.trans hk5).any.trans hk6).trans hk7,hB7⟩
theorem qa{w:World}{b:Nat}{s:Hs}{a:Option Addr}{c:Nat}{l:List UInt8}(hB:aF w b (.cells (jE s).toArray 202))(hS:Sl gw 1 w a l)(ha:l=[]∧a=none∨∃b2 off,a=some ⟨b2,off,none⟩)(hab:∀b2 off,a=some ⟨b2,off,none⟩→b2≠b)(hl:l.length≤1000000000)(hc:l.length≤c):
  Calls Tryz.prog 109 #[.pointer (some ⟨b,0,none⟩),.slice a l.length c] w (fun e w'=>e= .returned (.tuple #[])∧Kp [b] w w'∧aF w' b (.cells (jE (de s l)).toArray 202)):=by
 refine bJ Tryz.func109 rfl Tryz.ntmps109 rfl ?_
 repeat (first|apply aj|(apply ar;rfl;apply az<;>rfl))
 refine SG.call rfl rfl rfl (by repeat' (first|exact True.intro|exact ag rfl|refine And.intro ?_ ?_)) ((vq hB hS hab hl hc).mono (fun e w1 hh=>?_))
 obtain⟨he,hk1,hB1⟩:=hh
 refine⟨_,he,?_⟩
 repeat (first|apply aj|(apply ar;rfl;apply az<;>rfl))
 refine SG.call rfl rfl rfl (by repeat' (first|exact True.intro|exact ag rfl|refine And.intro ?_ ?_)) ((Cu hB1 (hS.kp hk1 (fun b2 off e=>bP (hab b2 off e))) ha hab hl hc).mono (fun e w2 hh=>?_))
 obtain⟨he,hk2,hB2⟩:=hh
 refine⟨_,he,?_⟩
 repeat apply aj
 refine nF (Or.inr rfl) Tryz.results109 ?_
 exact⟨rfl,hk1.trans hk2,hB2⟩
theorem mJ{w:World}{a:Option Addr}{c:Nat}{l:List UInt8}(hS:Sl gw 1 w a l)(ha:l=[]∧a=none∨∃b2 off,a=some ⟨b2,off,none⟩)(hab:∀b2 off,a=some ⟨b2,off,none⟩→b2<w.heap.size)(hl:l.length≤1000000000)(hc:l.length≤c):
  dz Tryz.prog 59 #[.slice a l.length c] w (dv (kV l)):=by
 refine bA Tryz.func59 rfl Tryz.ntmps59 rfl ?_
 repeat apply aj
 refine SG.alloc rfl rfl rfl (fun b2 w1 hk1 hb2 hB2=>?_)
 have hB2:aF w1 b2 (.cells (dc zd).toArray 47):=hB2
 have hl2:=hB2.lt
 repeat apply aj
 refine SG.ret rfl rfl rfl (by repeat' (first|exact True.intro|exact ag rfl|refine And.intro ?_ ?_)) (jv 1 w1) (fun w2 hk2=>?_)
 refine SG.alloc rfl rfl rfl (fun b3 w3 hk3 hb3 hB3=>?_)
 have hB3:aF w3 b3 (.cells (jE ⟨0,0,0,0⟩).toArray 202):=hB3
 refine SG.aN (old:=jE ⟨0,0,0,0⟩) (l:=jE (cJ 1)) rfl rfl (ag rfl) (ag rfl) hB3 rfl rfl rfl (fun w4 hk4 hB4=>?_)
 have s1:=hk1.size
 have s2:=hk2.size
 have s3:=hk3.size
 have k3:Kp [] w w3:=(hk1.trans hk2).trans hk3
 have k4:Kp [] w w4:=k3.ai hk4 (aV (by omega))
 repeat (first|apply aj|(apply ar;rfl;apply az<;>rfl))
 refine SG.call rfl rfl rfl (by repeat' (first|exact True.intro|exact ag rfl|refine And.intro ?_ ?_)) ((qa hB4 (hS.ay k4) ha (fun b5 off e=>by have:=hab b5 off e;omega) hl hc).mono (fun e w5 hh=>?_))
 obtain⟨he,hk5,hB5⟩:=hh
 refine⟨_,he,?_⟩
 repeat apply aj
 refine SG.ret rfl rfl rfl (by repeat' (first|exact True.intro|exact ag rfl|refine And.intro ?_ ?_)) (jm hB5) (fun w6 hk6=>?_)
 refine SG.aN (old:=dc zd) (l:=dc (kV l)) rfl rfl (ag rfl) (ag rfl) (((((hB2.ay hk2).ay hk3).kp hk4 (bP (by omega))).kp hk5 (bP (by omega))).ay hk6) (ah _) (ah _) (bu _) (fun w7 hk7 hB7=>?_)
 have hr4:Row w7 b2 0 (dc (kV l)):=Row.all hB7 rfl
 repeat apply aj
 refine aO (Or.inl rfl) Tryz.results59 (by exact aC.agg rfl rfl (by assumption) (by first|exact ah _|exact nc_length _|exact rc_length _ _ _|exact aL _|exact dl_length _ _ _ _|exact aX _|exact aU _|exact bC _|exact au _|rfl)) ?_
 exact⟨rfl,((k4.ai hk5 (aV (by omega))).trans hk6).ai hk7 (aV hb2)⟩
theorem AQ(x y:Dg)(w:World):dz Tryz.prog 197 #[dv x,dv y] w (dv (iZ x y)):=by
 refine bJ Tryz.func197 rfl Tryz.ntmps197 rfl ?_
 repeat apply aj
 refine SG.box rfl rfl rfl (ag rfl) (fun bx wa hka hbx hBx=>?_)
 have hBx:aF wa bx (.cells (dc x).toArray 47):=hBx
 refine SG.box rfl rfl rfl (ag rfl) (fun by' wb hkb hby hBy=>?_)
 have hBy:aF wb by' (.cells (dc y).toArray 47):=hBy
 refine SG.alloc rfl rfl rfl (fun b2 w1 hk1 hb2 hB2=>?_)
 have hB2:aF w1 b2 (.cells (dc zd).toArray 47):=hB2
 have hl2:=hB2.lt
 have hlx:=hBx.lt
 have hly:=hBy.lt
 repeat apply aj
 refine SG.ret rfl rfl rfl (by repeat' (first|exact True.intro|exact ag rfl|refine And.intro ?_ ?_)) (jv 3 w1) (fun w2 hk2=>?_)
 refine SG.alloc rfl rfl rfl (fun b3 w3 hk3 hb3 hB3=>?_)
 have hB3:aF w3 b3 (.cells (jE ⟨0,0,0,0⟩).toArray 202):=hB3
 refine SG.aN (old:=jE ⟨0,0,0,0⟩) (l:=jE (cJ 3)) rfl rfl (ag rfl) (ag rfl) hB3 rfl rfl rfl (fun w4 hk4 hB4=>?_)
 have sa:=hka.size
 have sb:=hkb.size
 have s1:=hk1.size
 have s2:=hk2.size
 have s3:=hk3.size
 have k3:Kp [] w w3:=(((hka.trans hkb).trans hk1).trans hk2).trans hk3
 have k4:Kp [] w w4:=k3.ai hk4 (aV (by omega))
 have rx:Row w4 bx 0 (dc x):=((Row.all hBx rfl).ay (((hkb.trans hk1).trans hk2).trans hk3)).kp hk4 (bP (by omega))
 have ry:Row w4 by' 0 (dc y):=((Row.all hBy rfl).ay ((hk1.trans hk2).trans hk3)).kp hk4 (bP (by omega))
 repeat (first|apply aj|(apply ar;rfl;apply bj<;>first|rfl|assumption|exact List.not_mem_nil|apply ah))
 refine SG.ret rfl rfl rfl (by repeat' (first|exact True.intro|exact ag rfl|refine And.intro ?_ ?_)) (eG x w4) (fun w5 hk5=>?_)
 refine SG.call rfl rfl rfl (by repeat' (first|exact True.intro|exact ag rfl|refine And.intro ?_ ?_)) ((ff (hB4.ay hk5) _).mono (fun e w6 hh=>?_))
 obtain⟨he,hk6,hB6⟩:=hh
 refine⟨_,he,?_⟩
 have ry:Row w6 by' 0 (dc y):=(ry.ay hk5).kp hk6 (bP (by omega))
 repeat (first|apply aj|(apply ar;rfl;apply bj<;>first|rfl|assumption|exact List.not_mem_nil|apply ah))
 refine SG.ret rfl rfl rfl (by repeat' (first|exact True.intro|exact ag rfl|refine And.intro ?_ ?_)) (eG y w6) (fun w7 hk7=>?_)
 refine SG.call rfl rfl rfl (by repeat' (first|exact True.intro|exact ag rfl|refine And.intro ?_ ?_)) ((ff (hB6.ay hk7) _).mono (fun e w8 hh=>?_))
 obtain⟨he,hk8,hB8⟩:=hh
 refine⟨_,he,?_⟩
 repeat apply aj
 refine SG.ret rfl rfl rfl (by repeat' (first|exact True.intro|exact ag rfl|refine And.intro ?_ ?_)) (jm hB8) (fun w9 hk9=>?_)
 refine SG.aN (old:=dc zd) (l:=dc (iZ x y)) rfl rfl (ag rfl) (ag rfl) ((((((((hB2.ay hk2).ay hk3).kp hk4 (bP (by omega))).ay hk5).kp hk6 (bP (by omega))).ay hk7).kp hk8 (bP (by omega))).ay hk9) (ah _) (ah _) (bu _) (fun wz hkz hBz=>?_)
 have hr4:Row wz b2 0 (dc (iZ x y)):=Row.all hBz rfl
 repeat apply aj
 refine aO (Or.inl rfl) Tryz.results197 (by exact aC.agg rfl rfl (by assumption) (by first|exact ah _|exact nc_length _|exact rc_length _ _ _|exact aL _|exact dl_length _ _ _ _|exact aX _|exact aU _|exact bC _|exact au _|rfl)) ?_
 exact⟨rfl,(((((k4.trans hk5).ai hk6 (aV (by omega))).trans hk7).ai hk8 (aV (by omega))).trans hk9).ai hkz (aV (by omega))⟩
theorem zq{w:World}{a:Option Addr}{l:List Dg}(c:Nat)(hS:Sl dc 8 w a l)(hab:∀b2 off,a=some ⟨b2,off,none⟩→b2<w.heap.size)(hl:l.length≤1000000000):
  dz Tryz.prog 170 #[.slice a l.length c] w (dv (rk l)):=by
 refine bA Tryz.func170 rfl Tryz.ntmps170 rfl ?_
 repeat apply aj
 refine SG.alloc rfl rfl rfl (fun b2 w1 hk1 hb2 hB2=>?_)
 have hB2:aF w1 b2 (.cells (dc zd).toArray 47):=hB2
 have hl2:=hB2.lt
 repeat apply aj
 refine SG.ret rfl rfl rfl (by repeat' (first|exact True.intro|exact ag rfl|refine And.intro ?_ ?_)) (jv 5 w1) (fun w2 hk2=>?_)
 refine SG.alloc rfl rfl rfl (fun b3 w3 hk3 hb3 hB3=>?_)
 have hB3:aF w3 b3 (.cells (jE ⟨0,0,0,0⟩).toArray 202):=hB3
 refine SG.aN (old:=jE ⟨0,0,0,0⟩) (l:=jE (cJ 5)) rfl rfl (ag rfl) (ag rfl) hB3 rfl rfl rfl (fun w4 hk4 hB4=>?_)
 have s1:=hk1.size
 have s2:=hk2.size
 have s3:=hk3.size
 have k3:Kp [] w w3:=(hk1.trans hk2).trans hk3
 have k4:Kp [] w w4:=k3.ai hk4 (aV (by omega))
 have hlb3:=hB3.lt
 have s4:=hk4.size
 have hB24:aF w4 b2 (.cells (dc zd).toArray 47):=((hB2.ay hk2).ay hk3).kp hk4 (bP (by omega))
 repeat (first|apply aj|(apply ar;rfl;(first|apply az|apply dy)<;>rfl))
 refine CG.loop (X:=Nat) (fun i=>[(0,.slice a l.length c),(2,.pointer (some ⟨b2,0,none⟩)),(3,.pointer (some ⟨b3,0,none⟩)),(7,.slice a l.length c),(8,.int .i64 (l.length:Int)),(9,.int .i64 (i:Int))])
  (fun i w'=>i≤l.length∧Kp [] w w'∧w4.heap.size≤w'.heap.size∧aF w' b3 (.cells (jE (oG (cJ 5) (l.take i))).toArray 202)∧aF w' b2 (.cells (dc zd).toArray 47)) (fun i=>l.length-i) 0 ⟨by omega,k4,Nat.le_refl _,by simpa[oG] using hB4,hB24⟩ (aS.of rfl) ?_
 rintro i w5 ⟨hi,k5,s5,hB5,hB25⟩
 by_cases hlt:i<l.length
 ·have g1:(i:Int)<(l.length:Int):=by omega
  obtain⟨ba,off,rfl,hrow⟩:=(hS.ay k5).at hlt
  repeat (first|apply aj|(apply ar;rfl;apply cG<;>first|rfl|(apply bK;first|assumption|omega)))
  refine bL rfl ?_
  repeat (first|apply aj|(apply ar;rfl;(first|apply bj|apply fv)<;>first|rfl|assumption|(apply Ar.mk;omega)|exact List.not_mem_nil|apply ah))
  refine SG.alloc rfl rfl rfl (fun b6 w6 hk6 hb6 hB6=>?_)
  have hB6:aF w6 b6 (.cells (dc zd).toArray 47):=hB6
  refine SG.aN (old:=dc zd) (l:=dc l[i]) rfl rfl (ag rfl) (ag rfl) hB6 (ah _) (ah _) (bu _) (fun w7 hk7 hB7=>?_)
  have hr7:Row w7 b6 0 (dc l[i]):=Row.all hB7 rfl
  have l5:=hB5.lt
  have l25:=hB25.lt
  repeat (first|apply aj|(apply ar;rfl;apply bj<;>first|rfl|assumption|exact List.not_mem_nil|apply ah))
  refine SG.ret rfl rfl rfl (by repeat' (first|exact True.intro|exact ag rfl|refine And.intro ?_ ?_)) (eG l[i] w7) (fun w8 hk8=>?_)
  refine SG.call rfl rfl rfl (by repeat' (first|exact True.intro|exact ag rfl|refine And.intro ?_ ?_)) ((ff (((hB5.ay hk6).kp hk7 (bP (by omega))).ay hk8) _).mono (fun e w9 hh=>?_))
  obtain⟨he,hk9,hB9⟩:=hh
  refine⟨_,he,?_⟩
  repeat (first|apply aj|(apply ar;rfl;(first|apply az|apply dG)<;>first|rfl|(apply Ar.mk;omega)))
  have s6:=hk6.size
  have s7:=hk7.size
  have s8:=hk8.size
  have s9:=hk9.size
  refine NG.round (i+1) (aS.of rfl) ⟨by omega,(((k5.trans hk6).ai hk7 (aV (by omega))).trans hk8).ai hk9 (aV (by omega)),by omega,?_,(((hB25.ay hk6).kp hk7 (bP (by omega))).ay hk8).kp hk9 (bP (by omega))⟩ (by omega)
  rw[List.take_succ_eq_append_getElem hlt,sE]
  exact hB9
 ·have g1:¬(i:Int)<(l.length:Int):=by omega
  have e8:i=l.length:=by omega
  subst e8
  rw[List.take_of_length_le (Nat.le_refl _)] at hB5
  repeat (first|apply aj|(apply ar;rfl;apply cG<;>first|rfl|(apply bN;first|assumption|omega)))
  refine bG rfl ?_
  repeat (first|apply aj|(apply ar;rfl;first|(apply Eb<;>(first|rfl|(apply Ar.mk;omega)))|((first|apply az|apply dy)<;>(first|rfl|(apply Ar.mk;omega)))))
  refine SG.call rfl rfl rfl (by repeat' (first|exact True.intro|exact ag rfl|refine And.intro ?_ ?_)) ((ff hB5 _).mono (fun e w6 hh=>?_))
  obtain⟨he,hk6,hB6⟩:=hh
  refine⟨_,he,?_⟩
  repeat apply aj
  refine SG.ret rfl rfl rfl (by repeat' (first|exact True.intro|exact ag rfl|refine And.intro ?_ ?_)) (jm hB6) (fun w7 hk7=>?_)
  refine SG.aN (old:=dc zd) (l:=dc (rk l)) rfl rfl (ag rfl) (ag rfl) ((hB25.kp hk6 (bP (by omega))).ay hk7) (ah _) (ah _) (bu _) (fun w8 hk8 hB8=>?_)
  have hr4:Row w8 b2 0 (dc (rk l)):=Row.all hB8 rfl
  repeat apply aj
  refine aO (Or.inl rfl) Tryz.results170 (by exact aC.agg rfl rfl (by assumption) (by first|exact ah _|exact nc_length _|exact rc_length _ _ _|exact aL _|exact dl_length _ _ _ _|exact aX _|exact aU _|exact bC _|exact au _|rfl)) ?_
  exact⟨rfl,((k5.ai hk6 (aV (by omega))).trans hk7).ai hk8 (aV (by omega))⟩
end
section
def sv(l:List UInt8):Value:= .string ⟨l.toArray⟩
section
variable {P:Program} {S:List Nat} {w0:World} {F:World→Prop} {L:Env} {d:Option Nat} {ty:TypeId} {pos:String} {af:Array Edge} {g:Option (Nat×Bool)}
theorem DJ{T T' E:TypeId}[u:Ut P T (.slice E)][e:Ut P E (.int .u8)][t:Ut P T' .string]{x:Operand}{a:Option Addr}{c:Nat}{l:List UInt8}(hx:bB L x= .slice a l.length c)(hS:Sl (fun u:UInt8=>[bv u]) 1 w0 a l)(hb:∀b off,a=some ⟨b,off,none⟩→b∉S):
  aK P S w0 F L ⟨d,.convert T T' x,ty,pos,af,g⟩ (sv l):=fun w hk _=>by
 have hS':=hS.kp hk (fun b off e hm=>hb b off e hm)
 have hrun:(convert T T' (.slice a l.length c)).run P w= .ok (sv l) w:=by
  cases a with
  |none=>
   have hl:l=[]:=by
    cases l with
    |nil=>rfl
    |cons y l=>
     obtain⟨b,off,e,_⟩:=hS 0 y rfl
     cases e
   subst hl
   rw[run_convert_bytes_string w T T' E none _ c u.eq e.eq t.eq]
   rfl
  |some ad=>
   refine run_convert_bytes_back w T T' E ad c l u.eq e.eq t.eq (fun j hj=>?_)
   obtain⟨b,off,e1,hr⟩:=hS' j l[j] (List.getElem?_eq_getElem hj)
   cases e1
   have:=hr.cell (i:=0) (v:=bv l[j]) rfl
   rw[dd]
   simpa[Nat.mul_one] using this
 simp only[execOp,hx,Sem.run_bind,hrun,Result.andThen,Sem.run_pure]
theorem AG{T T':TypeId}{x y:Operand}{a b:List UInt8}(hx:bB L x=sv a)(hy:bB L y=sv b):aK P S w0 F L ⟨d,.binOp .eql T x y T',ty,pos,af,g⟩ (.bool (decide (a=b))):=fun w _ _=>by
 simp only[sv] at hx hy
 simp[execOp,hx,hy,eqGuard,binOp_string_eql]
 by_cases h:a=b<;>simp[h]
theorem P4{T T' E:TypeId}[u:Ut P T (.slice E)][e:Ut P E (.int .u8)][t:Ut P T' .string]{x:Operand}{a:Option Addr}{c n:Nat}{l:List UInt8}(hx:ro L x=some (.slice a n c))(hS:Sl (fun u:UInt8=>[bv u]) 1 w0 a l)(hn:n=l.length)(hb:∀b off,a=some ⟨b,off,none⟩→b∉S):
  aK P S w0 F L ⟨d,.convert T T' x,ty,pos,af,g⟩ (sv l):=by
 subst hn
 exact DJ (u:=u) (e:=e) (t:=t) (ag hx) hS hb
theorem SH{T T':TypeId}{x y:Operand}{a b:List UInt8}{c:Bool}(hx:ro L x=some (sv a))(hy:ro L y=some (sv b))(h:Dc (a=b) c):aK P S w0 F L ⟨d,.binOp .eql T x y T',ty,pos,af,g⟩ (.bool c):=h.eq▸AG (ag hx) (ag hy)
end
end
section
theorem Kp.Aa(w:World)(o:Obj):Kp [] w (w.drew.alloc o):=by
 refine⟨by show w.heap.size≤(w.heap.push o).size;simp,fun b hb _=>?_,rfl,rfl,rfl,fun a ha=>?_,Nat.le_succ _⟩
 ·show(w.heap.push o)[b]?=_
  rw[Array.getElem?_push,if_neg (by omega)]
 ·refine ix ?_
  show(w.heap.push o)[a.block]?=_
  rw[Array.getElem?_push,if_neg (by omega)]
section
variable {P:Program} {n:Nat} {ops:List Oper} {Q:Exit→Act→World→Prop} {w:World} {L:Env} {ty:TypeId} {pos:String} {af:Array Edge} {g:Option (Nat×Bool)} {rest:List Oper}
end
section
variable {P:Program} {S:List Nat} {w0:World} {F:World→Prop} {L:Env} {d:Option Nat} {ty:TypeId} {pos:String} {af:Array Edge} {g:Option (Nat×Bool)}
end
end
section
section
variable {P:Program} {n:Nat} {ops:List Oper} {Q:Exit→Act→World→Prop} {w:World} {L:Env} {ty:TypeId} {pos:String} {af:Array Edge} {g:Option (Nat×Bool)} {rest:List Oper}
theorem Bb{T T' E:TypeId}[u:Ut P T .string][u':Ut P T' (.slice E)][e:Ut P E (.int .u8)](w:World)(l:List UInt8):
  ∃c cs fz,l.length≤c∧(convert T T' (sv l)).run P w= .ok (.slice (some ⟨w.heap.size,0,none⟩) l.length c) (w.drew.alloc (.cells cs E fz))∧Sl (fun u:UInt8=>[bv u]) 1 (w.drew.alloc (.cells cs E fz)) (some ⟨w.heap.size,0,none⟩) l:=by
 have h:=run_bytes_of_string (P:=P) w T T' E ⟨l.toArray⟩ u.eq u'.eq e.eq
 have hg:=grownCap_ge w (ByteArray.mk l.toArray).size 0 E
 generalize hc:grownCap w (ByteArray.mk l.toArray).size 0 E=c at h hg
 refine⟨c,bytesRow ⟨l.toArray⟩ c,((bytesRow ⟨l.toArray⟩ c).size,(bytesRow ⟨l.toArray⟩ c).size+1),hg,h,fun i x hx=>⟨w.heap.size,0,rfl,bytesRow ⟨l.toArray⟩ c,E,((bytesRow ⟨l.toArray⟩ c).size,(bytesRow ⟨l.toArray⟩ c).size+1),?_,?_⟩⟩
 ·show(w.heap.push _)[w.heap.size]?=_
  rw[Array.getElem?_push,if_pos rfl]
 ·intro j v hv
  have hj:j=0:=by have:=(List.getElem?_eq_some_iff.1 hv).1;simp at this;omega
  subst hj
  simp only[List.getElem?_cons_zero,Option.some.injEq] at hv
  subst hv
  have hi:i<l.length:=(List.getElem?_eq_some_iff.1 hx).1
  rw[List.getElem?_eq_getElem hi,Option.some.injEq] at hx
  subst hx
  simp only[bytesRow,Nat.mul_one,Nat.zero_add,Nat.add_zero]
  rw[Array.getElem?_append_left (by simpa using hi)]
  simp[hi]
theorem SG.HL{T T' E:TypeId}[u:Ut P T .string][u':Ut P T' (.slice E)][e:Ut P E (.int .u8)]{d:Nat}{x:Operand}{l:List UInt8}(hd:Nat.blt d n=true)(hw:want ops L ⟨some d,.convert T T' x,ty,pos,af,g⟩=some true)(hk:known L x=true)(hx:ro L x=some (sv l))
  (h:∀b c w',Kp [] w w'→w.heap.size≤b→l.length≤c→b<w'.heap.size→Sl (fun u:UInt8=>[bv u]) 1 w' (some ⟨b,0,none⟩) l→SG P n ops Q rest ((d,.slice (some ⟨b,0,none⟩) l.length c)::L) w'):SG P n ops Q (⟨some d,.convert T T' x,ty,pos,af,g⟩::rest) L w:=by
 refine SG.op (by simpa using hd) rfl hw (by simpa[Op.operands] using hk) ?_
 unfold bh
 obtain⟨c,cs,fz,h0,h1,h2⟩:=Bb (P:=P) (T:=T) (T':=T') (u:=u) (u':=u') (e:=e) w l
 have:(execOp (bB L) ⟨some d,.convert T T' x,ty,pos,af,g⟩).run P w= .ok (.value (.slice (some ⟨w.heap.size,0,none⟩) l.length c)) (w.drew.alloc (.cells cs E fz)):=by
  simp only[execOp,ag hx,Sem.run_bind,h1,Result.andThen,Sem.run_pure]
 rw[this]
 exact h _ _ _ (Kp.Aa w _) (Nat.le_refl _) h0 (by show w.heap.size<(w.heap.push _).size;simp) h2
end
end
section
def jV(n:Int):Prop:=0≤n∧n≤1125899906842624
instance(n:Int):Decidable (jV n):=by unfold jV;infer_instance
def nC:List Int→Int→Option Int
 |[],s=>some s
 |n::l,s=>if jV s∧jV n∧jV (s+n) then nC l (s+n) else none
def dB(d:Dg)(l:List UInt8):Dg:=cQ (de (c9 (cJ 4) (num d:Int)) l)
attribute [local irreducible] CG NG SG aK aI Row aF aE aM num c9 de cQ cJ
theorem lK(n:Int)(w:World):dz Tryz.prog 193 #[.int .i64 n] w (.bool (decide (jV n))):=by
 refine bA Tryz.func193 rfl Tryz.ntmps193 rfl ?_
 by_cases h1:0≤n
 ·by_cases h2:n≤1125899906842624
  ·rw[decide_eq_true ⟨h1,h2⟩]
   repeat (first|apply aj|(apply ar;rfl;(first|apply az|apply aD|apply cu|apply Dt|apply jN)<;>first|rfl|(apply bK;first|assumption|omega)))
   refine aO (Or.inl rfl) Tryz.results193 (aC.tmp rfl) ?_
   exact⟨rfl,Kp.refl _ _⟩
  ·rw[decide_eq_false (fun h=>h2 h.2)]
   repeat (first|apply aj|(apply ar;rfl;(first|apply az|apply aD|apply cu|apply Dt|apply jN)<;>first|rfl|(apply bK;first|assumption|omega)|(apply bN;first|assumption|omega)))
   refine aO (Or.inl rfl) Tryz.results193 (aC.tmp rfl) ?_
   exact⟨rfl,Kp.refl _ _⟩
 ·rw[decide_eq_false (fun h=>h1 h.1)]
  repeat (first|apply aj|(apply ar;rfl;(first|apply az|apply aD|apply cu|apply jN)<;>first|rfl|(apply bN;first|assumption|omega))|refine SG.skip rfl rfl ?_)
  refine aO (Or.inl rfl) Tryz.results193 (aC.tmp rfl) ?_
  exact⟨rfl,Kp.refl _ _⟩
theorem xd(a b:Int)(w:World):dz Tryz.prog 172 #[.int .i64 a,.int .i64 b] w (if jV a∧jV b∧jV (a+b) then .tuple #[.int .i64 (a+b),.int .i64 0] else .tuple #[.int .i64 0,.int .i64 2]):=by
 refine bJ Tryz.func172 rfl Tryz.ntmps172 rfl ?_
 have no:∀{L:Env} {w':World},¬(jV a∧jV b∧jV (a+b))→Kp [] w w'→look L 4=some (.int .i64 0)→look L 5=some (.int .i64 2)→NG 24 .ret (bodyPost Tryz.prog Tryz.f172 (fun e w'=>e= .returned (if jV a∧jV b∧jV (a+b) then .tuple #[.int .i64 (a+b),.int .i64 0] else .tuple #[.int .i64 0,.int .i64 2])∧Kp [] w w')) L w':=
  fun hb hk' h4 h5=>dJ (Or.inl rfl) Tryz.results172 (aC.tmp h4) (aC.tmp h5) ⟨by rw[if_neg hb],hk'⟩
 repeat (first|apply aj|(apply ar;rfl;(first|apply az|apply aD)<;>rfl))
 refine SG.ret rfl rfl rfl (by repeat' (first|exact True.intro|exact ag rfl|refine And.intro ?_ ?_)) (lK a _) (fun w1 hk1=>?_)
 by_cases ha:jV a
 rotate_left
 ·rw[decide_eq_false ha]
  repeat (first|apply aj|(apply ar;rfl;(first|apply az|apply cu|apply fZ)<;>rfl)|refine SG.skip rfl rfl ?_)
  refine bL rfl ?_
  repeat (first|apply aj|(apply ar;rfl;apply aD<;>rfl))
  exact no (fun h=>ha h.1) hk1 rfl rfl
 rw[decide_eq_true ha]
 repeat (apply ar;rfl;(first|apply az|apply fZ)<;>rfl)
 refine SG.ret rfl rfl rfl (by repeat' (first|exact True.intro|exact ag rfl|refine And.intro ?_ ?_)) (lK b _) (fun w2 hk2=>?_)
 have hk2:=hk1.trans hk2
 by_cases hb:jV b
 rotate_left
 ·rw[decide_eq_false hb]
  repeat (first|apply aj|(apply ar;rfl;(first|apply az|apply cu|apply fZ)<;>rfl)|refine SG.skip rfl rfl ?_)
  refine bL rfl ?_
  repeat (first|apply aj|(apply ar;rfl;apply aD<;>rfl))
  exact no (fun h=>hb h.2.1) hk2 rfl rfl
 rw[decide_eq_true hb]
 have hab:Ar (-9223372036854775808≤a+b∧a+b≤9223372036854775807):=Ar.mk (by unfold jV at ha hb;omega)
 repeat (apply ar;rfl;(first|apply az|apply cu|apply dG|apply fZ)<;>first|rfl|assumption)
 refine SG.ret rfl rfl rfl (by repeat' (first|exact True.intro|exact ag rfl|refine And.intro ?_ ?_)) (lK (a+b) _) (fun w3 hk3=>?_)
 have hk3:=hk2.trans hk3
 by_cases hc:jV (a+b)
 rotate_left
 ·rw[decide_eq_false hc]
  repeat (first|apply aj|(apply ar;rfl;(first|apply cu|apply fZ)<;>rfl))
  refine bL rfl ?_
  repeat (first|apply aj|(apply ar;rfl;apply aD<;>rfl))
  exact no (fun h=>hc h.2.2) hk3 rfl rfl
 rw[decide_eq_true hc]
 repeat (first|apply aj|(apply ar;rfl;(first|apply cu|apply fZ)<;>rfl))
 refine bG rfl ?_
 repeat (first|apply aj|(apply ar;rfl;(first|apply az|apply aD|apply dG)<;>first|rfl|assumption))
 refine dJ (Or.inl rfl) Tryz.results172 (aC.tmp rfl) (aC.tmp rfl) ?_
 exact⟨by rw[if_pos ⟨ha,hb,hc⟩],hk3⟩
theorem gu(d:Dg)(l:List UInt8)(hl:l.length≤1000)(w:World):dz Tryz.prog 92 #[dv d,sv l] w (dv (dB d l)):=by
 refine bJ Tryz.func92 rfl Tryz.ntmps92 rfl ?_
 repeat apply aj
 refine SG.box rfl rfl rfl (ag rfl) (fun bx wa hka hbx hBx=>?_)
 refine SG.alloc rfl rfl rfl (fun b2 w1 hk1 hb2 hB2=>?_)
 have hB2:aF w1 b2 (.cells (dc zd).toArray 47):=hB2
 have e2:=hB2.lt
 have ex:=hBx.lt
 repeat apply aj
 refine SG.ret rfl rfl rfl (by repeat' (first|exact True.intro|exact ag rfl|refine And.intro ?_ ?_)) (jv 4 w1) (fun w2 hk2=>?_)
 refine SG.alloc rfl rfl rfl (fun b3 w3 hk3 hb3 hB3=>?_)
 refine SG.aN (old:=jE ⟨0,0,0,0⟩) (l:=jE (cJ 4)) rfl rfl (ag rfl) (ag rfl) hB3 rfl rfl rfl (fun w4 hk4 hB4=>?_)
 have sa:=hka.size
 have s1:=hk1.size
 have s2:=hk2.size
 have s3:=hk3.size
 have k4:Kp [] w w4:=(((hka.trans hk1).trans hk2).trans hk3).ai hk4 (aV (by omega))
 have rx:Row w4 bx 0 (dc d):=((Row.all hBx rfl).ay ((hk1.trans hk2).trans hk3)).kp hk4 (bP (by omega))
 have hB2:=(hB2.ay (hk2.trans hk3)).kp hk4 (bP (by omega))
 clear hBx hB3
 repeat (first|apply aj|(apply ar;rfl;apply bj<;>first|rfl|assumption|exact List.not_mem_nil|apply ah))
 refine SG.ret rfl rfl rfl (by repeat' (first|exact True.intro|exact ag rfl|refine And.intro ?_ ?_)) (eG d w4) (fun w5 hk5=>?_)
 refine SG.call rfl rfl rfl (by repeat' (first|exact True.intro|exact ag rfl|refine And.intro ?_ ?_)) ((ff (hB4.ay hk5) _).mono (fun e w6 hh=>?_))
 obtain⟨he,hk6,hB6⟩:=hh
 refine⟨_,he,?_⟩
 clear he
 have e3:=hB6.lt
 repeat (first|apply aj|(apply ar;rfl;apply az<;>rfl))
 refine SG.HL rfl rfl rfl rfl (fun b c w7 hk7 hb hc hlt hS=>?_)
 refine SG.call rfl rfl rfl (by repeat' (first|exact True.intro|exact ag rfl|refine And.intro ?_ ?_)) ((qa (hB6.ay hk7) hS (Or.inr ⟨_,_,rfl⟩) (fun b2 off e=>by cases e;omega) (by omega) hc).mono (fun e w8 hh=>?_))
 obtain⟨he,hk8,hB8⟩:=hh
 refine⟨_,he,?_⟩
 clear he
 repeat apply aj
 refine SG.ret rfl rfl rfl (by repeat' (first|exact True.intro|exact ag rfl|refine And.intro ?_ ?_)) (jm hB8) (fun w9 hk9=>?_)
 refine SG.aN (old:=dc zd) (l:=dc (dB d l)) rfl rfl (ag rfl) (ag rfl) (((((hB2.ay hk5).kp hk6 (bP (by omega))).ay hk7).kp hk8 (bP (by omega))).ay hk9) (ah _) (ah _) (bu _) (fun wz hkz hBz=>?_)
 have hr4:Row wz b2 0 (dc (dB d l)):=Row.all hBz rfl
 repeat apply aj
 refine aO (Or.inl rfl) Tryz.results92 (by exact aC.agg rfl rfl (by assumption) (by first|exact ah _|exact nc_length _|exact rc_length _ _ _|exact aL _|exact dl_length _ _ _ _|exact aX _|exact aU _|exact bC _|exact au _|rfl)) ?_
 exact⟨rfl,(((((k4.trans hk5).ai hk6 (aV (by omega))).trans hk7).ai hk8 (aV (by omega))).trans hk9).ai hkz (aV (by omega))⟩
end
section
section
variable {α κ:Type} (key:α→κ) (non fee:α→Int)
def xx(l:List α)(e:α):Prop:=∀o∈l,key o=key e→non e≤non o
structure qp(X:List α)(a:α)(Y:List α):Prop where
 f:xx key non (X++a::Y) a
 max:∀e∈X++a::Y,xx key non (X++a::Y) e→fee e≤fee a
 ear:∀e∈X,xx key non (X++a::Y) e→fee e<fee a
inductive Ord:List α→List α→Prop
 |nil:Ord [] []
 |step (X:List α) (a:α) (Y r:List α):qp key non fee X a Y→Ord (X++Y) r→Ord (X++a::Y) (a::r)
variable {key non fee}
theorem vH{X X' Y Y':List α}{a a':α}(h:X++a::Y=X'++a'::Y')(hl:X.length=X'.length):X=X'∧a=a'∧Y=Y':=by
 obtain⟨h1,h2⟩:=List.append_inj h hl
 simp only[List.cons.injEq] at h2
 exact⟨h1,h2.1,h2.2⟩
theorem A6{X X' Y Y':List α}{a a':α}(h:X++a::Y=X'++a'::Y')(hl:X.length<X'.length):a∈X':=by
 have h1:(X++a::Y)[X.length]?=some a:=by simp
 rw[h,List.getElem?_append_left hl] at h1
 exact List.mem_of_getElem? h1
theorem qp.uniq{X X' Y Y':List α}{a a':α}(h:qp key non fee X a Y)(k:qp key non fee X' a' Y')(e:X++a::Y=X'++a'::Y'):X=X'∧a=a'∧Y=Y':=by
 have key1:∀{X X' Y Y':List α} {a a':α},qp key non fee X a Y→qp key non fee X' a' Y'→X++a::Y=X'++a'::Y'→¬X.length<X'.length:=fun{X X' Y Y' a a'} h k e hl=>by
  have h1:=A6 e hl
  have h2:=k.ear a h1 (by rw[←e];exact h.f)
  have h3:=h.max a' (by rw[e];simp) (by rw[e];exact k.f)
  omega
 have h1:=key1 h k e
 have h2:=key1 k h e.symm
 exact vH e (by omega)
theorem Ord.uniq{l r r':List α}(h:Ord key non fee l r)(k:Ord key non fee l r'):r=r':=by
 induction h generalizing r' with
 |nil=>
  generalize hl:([]:List α)=l at k
  cases k with
  |nil=>rfl
  |step X a Y r _ _=>simp at hl
 |step X a Y r hb ho ih=>
  generalize hl:X++a::Y=l at k
  cases k with
  |nil=>simp at hl
  |step X' a' Y' r' hb' ho'=>
   obtain⟨rfl,rfl,rfl⟩:=hb.uniq hb' hl
   rw[ih ho']
theorem yt(F:α→Prop):∀{l:List α},(∃e∈l,F e)→∃X a Y,l=X++a::Y∧F a∧(∀e∈l,F e→fee e≤fee a)∧(∀e∈X,F e→fee e<fee a)
 |[],⟨e,h,_⟩=>by cases h
 |x::t,he=>by
  by_cases ht:∃e∈t,F e
  ·obtain⟨X,a,Y,rfl,h1,h2,h3⟩:=yt F ht
   by_cases hx:F x∧fee a≤fee x
   ·refine⟨[],x,X++a::Y,rfl,hx.1,fun e hm hf=>?_,fun e hm=>(by cases hm)⟩
    rcases List.mem_cons.1 hm with rfl|hm
    ·exact Int.le_refl _
    ·exact Int.le_trans (h2 e hm hf) hx.2
   ·refine⟨x::X,a,Y,rfl,h1,fun e hm hf=>?_,fun e hm hf=>?_⟩
    ·rcases List.mem_cons.1 hm with rfl|hm
     ·exact Int.le_of_lt (Int.lt_of_not_ge (fun h=>hx ⟨hf,h⟩))
     ·exact h2 e hm hf
    ·rcases List.mem_cons.1 hm with rfl|hm
     ·exact Int.lt_of_not_ge (fun h=>hx ⟨hf,h⟩)
     ·exact h3 e hm hf
  ·obtain⟨e,hm,hf⟩:=he
   rcases List.mem_cons.1 hm with rfl|hm
   ·refine⟨[],e,t,rfl,hf,fun o ho hfo=>?_,fun e hm=>(by cases hm)⟩
    rcases List.mem_cons.1 ho with rfl|ho
    ·exact Int.le_refl _
    ·exact absurd ⟨o,ho,hfo⟩ ht
   ·exact absurd ⟨e,hm,hf⟩ ht
theorem BV(non:α→Int):∀{l:List α},l≠[]→∃e∈l,∀o∈l,non e≤non o
 |[],h=>absurd rfl h
 |[x],_=>⟨x,by simp,fun o ho=>by simp at ho;rw[ho];exact Int.le_refl _⟩
 |x::y::t,_=>by
  obtain⟨e,h1,h2⟩:=BV non (l:=y::t) (by simp)
  by_cases h:non x≤non e
  ·refine⟨x,List.mem_cons_self,fun o ho=>?_⟩
   rcases List.mem_cons.1 ho with rfl|ho
   ·exact Int.le_refl _
   ·exact Int.le_trans h (h2 o ho)
  ·refine⟨e,List.mem_cons_of_mem _ h1,fun o ho=>?_⟩
   rcases List.mem_cons.1 ho with rfl|ho
   ·omega
   ·exact h2 o ho
theorem Ord.ex(n:Nat):∀{l:List α},l.length=n→∃r,Ord key non fee l r:=by
 induction n with
 |zero=>intro l hl;exact⟨[],by rw[List.length_eq_zero_iff.1 hl];exact .nil⟩
 |succ n ih=>
  intro l hl
  obtain⟨e,h1,h2⟩:=BV non (l:=l) (by intro h;rw[h] at hl;cases hl)
  obtain⟨X,a,Y,rfl,h3,h4,h5⟩:=yt (fee:=fee) (xx key non l) ⟨e,h1,fun o ho _=>h2 o ho⟩
  obtain⟨r,hr⟩:=ih (l:=X++Y) (by simp at hl⊢;omega)
  exact⟨a::r,.step X a Y r ⟨h3,h4,h5⟩ hr⟩
variable (key non fee)
noncomputable def zl(l:List α):List α:=Classical.choose (Ord.ex (key:=key) (non:=non) (fee:=fee) l.length (l:=l) rfl)
variable {key non fee}
theorem nH(l:List α):Ord key non fee l (zl key non fee l):=Classical.choose_spec (Ord.ex (key:=key) (non:=non) (fee:=fee) l.length (l:=l) rfl)
theorem Ord.eq{l r:List α}(h:Ord key non fee l r):zl key non fee l=r:=(nH l).uniq h
theorem Ord.perm{l r:List α}(h:Ord key non fee l r):r.Perm l:=by
 induction h with
 |nil=>exact List.Perm.refl _
 |step X a Y r _ _ ih=>exact(ih.cons a).trans List.perm_middle.symm
theorem rf(l:List α):(zl key non fee l).Perm l:=(nH l).perm
theorem uj(l:List α):(zl key non fee l).length=l.length:=(rf l).length_eq
def PU(key:α→κ)(non:α→Int)(l:List α):Prop:=l.Pairwise (fun a b=>¬(key a=key b∧non a=non b))
def stays[DecidableEq κ](key:α→κ)(non:α→Int)(x:List α)(e:α):Bool:= !(x.any (fun t=>decide (key t=key e∧non e≤non t)))
end
theorem Ord.map{α β κ:Type}{key:α→κ}{non fee:α→Int}(f:β→α){l r:List β}(h:Ord (fun b=>key (f b)) (fun b=>non (f b)) (fun b=>fee (f b)) l r):Ord key non fee (l.map f) (r.map f):=by
 induction h with
 |nil=>exact .nil
 |step X a Y r hb ho ih=>
  rw[List.map_append,List.map_cons,List.map_cons]
  rw[List.map_append] at ih
  refine .step _ _ _ _ ?_ ih
  have hf:∀b,xx key non (X.map f++f a::Y.map f) (f b)→xx (fun b=>key (f b)) (fun b=>non (f b)) (X++a::Y) b:=fun b hh o ho hk=>by
   refine hh (f o) ?_ hk
   have:=List.mem_map_of_mem (f:=f) ho
   rwa [List.map_append,List.map_cons] at this
  refine⟨fun o ho hk=>?_,fun o ho hfo=>?_,fun o ho hfo=>?_⟩
  ·rw[←List.map_cons,←List.map_append] at ho
   obtain⟨b,hb1,rfl⟩:=List.mem_map.1 ho
   exact hb.f b hb1 hk
  ·have ho':=ho
   rw[←List.map_cons,←List.map_append] at ho'
   obtain⟨b,hb1,rfl⟩:=List.mem_map.1 ho'
   exact hb.max b hb1 (hf b hfo)
  ·obtain⟨b,hb1,rfl⟩:=List.mem_map.1 ho
   exact hb.ear b hb1 (hf b hfo)
end
section
def kd:List UInt8→Nat
 |[]=>0
 |b::r=>b.toNat%128+128*kd r
def fp:Nat→List UInt8→Nat
 |0,_=>0
 |_+1,[]=>0
 |f+1,b::r=>if b.toNat<128 then 0 else fp f r+1
theorem xI:∀(f:Nat) (l:List UInt8),fp f l≤f∧fp f l≤l.length
 |0,l=>by simp[fp]
 |f+1,[]=>by simp[fp]
 |f+1,b::r=>by
  have:=xI f r
  simp only[fp,List.length_cons]
  split<;>omega
theorem rY:∀{f:Nat} {l:List UInt8} {k:Nat},k≤f→(h:k≤l.length)→(∀j (hj:j<k),128≤(l[j]'(by omega)).toNat)→(k=f∨k=l.length∨∃h:k<l.length,l[k].toNat<128)→fp f l=k
 |0,l,k,h1,_,_,_=>by simp[fp];omega
 |f+1,[],k,_,h2,_,_=>by simp[fp] at h2⊢;omega
 |f+1,b::r,k,h1,h2,h3,h4=>by
  simp only[fp]
  cases k with
  |zero=>
   rcases h4 with h|h|⟨_,h⟩
   ·cases h
   ·simp at h
   ·rw[if_pos (by simpa using h)]
  |succ k=>
   have hb:=h3 0 (by omega)
   simp only[List.getElem_cons_zero] at hb
   rw[if_neg (by omega)]
   have:=rY (f:=f) (l:=r) (k:=k) (by omega) (by simpa using h2) (fun j hj=>by have:=h3 (j+1) (by omega);simpa using this) (by
    rcases h4 with h|h|⟨h,h'⟩
    ·left;omega
    ·right;left;simpa using h
    ·right;right;exact⟨by simpa using h,by simpa using h'⟩)
   omega
theorem nW:∀{l:List UInt8} {i:Nat} (h:i<l.length),kd (l.take (i+1))=kd (l.take i)+(l[i].toNat%128)*2^(7*i)
 |[],i,h=>by simp at h
 |b::r,0,h=>by simp[kd]
 |b::r,i+1,h=>by
  have hi:i<r.length:=by simpa using h
  have ih:=nW (l:=r) (i:=i) hi
  simp only[List.take_succ_cons,kd,List.getElem_cons_succ,ih]
  rw[Nat.mul_add,show 7*(i+1)=7*i+7 from by omega,Nat.pow_add]
  have:128*(r[i].toNat%128*2^(7*i))=r[i].toNat%128*(2^(7*i)*2^7):=by
   rw[Nat.mul_comm 128,Nat.mul_assoc]
  omega
theorem pd:∀l:List UInt8,kd l<2^(7*l.length)
 |[]=>by simp[kd]
 |b::r=>by
  have h1:=pd r
  have h2:b.toNat%128<128:=Nat.mod_lt _ (by omega)
  simp only[kd,List.length_cons]
  rw[show 7*(r.length+1)=7*r.length+7 from by omega,Nat.pow_add]
  have:(kd r+1)*128≤2^(7*r.length)*2^7:=Nat.mul_le_mul_right _ h1
  omega
def ca(l:List UInt8):Int:=if fp 10 l=l.length∧fp 10 l<10 then 4 else if fp 10 l=10∨(0<fp 10 l∧l.getD (fp 10 l) 0=0)∨(fp 10 l=9∧1<(l.getD 9 0).toNat) then 3 else 0
def dH(l:List UInt8):Nat:=kd (l.take (fp 10 l+1))
def cU(l:List UInt8):Nat:=fp 10 l+1
theorem look_ok{l:List UInt8}(h:ca l=0):fp 10 l<10∧fp 10 l<l.length∧(fp 10 l=9→(l.getD 9 0).toNat≤1):=by
 have h1:=xI 10 l
 unfold ca at h
 split at h
 ·cases h
 ·split at h
  ·cases h
  ·rename_i h2 h3
   refine⟨?_,?_,?_⟩
   ·have:fp 10 l≠10:=fun e=>h3 (Or.inl e)
    omega
   ·have:fp 10 l≠10:=fun e=>h3 (Or.inl e)
    have:fp 10 l≠l.length:=fun e=>h2 ⟨e,by omega⟩
    omega
   ·intro e
    have:=fun h=>h3 (Or.inr (Or.inr ⟨e,h⟩))
    omega
theorem uo{l:List UInt8}(h:ca l=0):dH l<18446744073709551616:=by
 obtain⟨h1,h2,h3⟩:=look_ok h
 unfold dH
 generalize fp 10 l=k at h1 h2 h3⊢
 by_cases h9:k=9
 ·subst h9
  rw[nW h2]
  have h4:=pd (l.take 9)
  rw[List.length_take,Nat.min_eq_left (by omega)] at h4
  have h5:=h3 rfl
  have e:l.getD 9 0=l[9]:=by
   rw[List.getD_eq_getElem?_getD,List.getElem?_eq_getElem h2]
   rfl
  rw[e] at h5
  have h7:l[9].toNat%128≤1:=Nat.le_trans (Nat.mod_le _ _) h5
  simp only[Nat.reduceMul,Nat.reducePow] at h4⊢
  omega
 ·have h4:=pd (l.take (k+1))
  rw[List.length_take,Nat.min_eq_left (by omega)] at h4
  have:(2:Nat)^(7*(k+1))≤2^63:=Nat.pow_le_pow_right (by omega) (by omega)
  have e:(2:Nat)^63=9223372036854775808:=by decide
  omega
structure Tx where
 frm:Dg
 non:Int
 fee:Int
 kind:Int
 body:List UInt8
 sig:List UInt8
def db(z:Int):Nat:=(IntKind.wrap .u64 z).toNat
theorem mh(z:Int):db z<18446744073709551616:=by
 have:=nv z
 unfold db
 omega
theorem iX(z:Int):IntKind.wrap .u64 z=(db z:Int):=by
 have:=nv z
 unfold db
 omega
def Bu(l:List UInt8):List UInt8:=cP l.length++l
def dP(t:Tx):List UInt8:=cP (db t.kind)++cP (num t.frm)++cP (db t.non)++cP (db t.fee)++Bu t.body
def lV(t:Tx):List UInt8:=dP t++Bu t.sig
def aR(t:Tx):Dg:=kV (lV t)
def dQ(l:List UInt8):Int:=if ca l≠0 then ca l else
 if ca (l.drop (cU l))≠0 then ca (l.drop (cU l)) else
 if 1125899906842624<dH (l.drop (cU l)) then 2 else
 if cU l+cU (l.drop (cU l))<l.length then 5 else 0
structure Fm(t:Tx):Prop where
 n0:0≤t.non
 n1:t.non≤1099511627776
 f0:0≤t.fee
 f1:t.fee≤1125899906842624
 k0:0≤t.kind
 k1:t.kind≤2
 b:t.body.length≤32768
 s:t.sig.length≤1024
open Classical in
noncomputable def bg(t:Tx):Int:=if Fm t then(if t.kind=0 then dQ t.body else 0) else 2
structure En where
 t:Tx
 since:Int
def En.key(e:En):Dg:=e.t.frm
def En.non(e:En):Int:=e.t.non
def En.fee(e:En):Int:=e.t.fee
def jD(k:Dg)(n:Int)(e:En):Bool:=decide (e.t.frm=k∧e.t.non=n)
def gL(l:List En)(k:Dg)(n:Int):Nat:=l.findIdx (jD k n)
open Classical in
noncomputable def eW(room:Int)(l:List En)(h:Int)(t:Tx):Int:=
 if h<0∨1099511627776<h then 2 else if bg t≠0 then bg t else
 match l.find? (jD t.frm t.non) with
 |some o=>if o.t=t then 7 else if t.fee≤o.t.fee then 18 else 0
 |none=>if room≤l.length then 8 else 0
def Di(l:List En)(h:Int)(t:Tx):List En:=l.eraseIdx (gL l t.frm t.non)++[⟨t,h⟩]
open Classical in
noncomputable def oX(room:Int)(l:List En)(h:Int)(t:Tx):List En:=if eW room l h t=0 then Di l h t else l
theorem pU{l:List En}{k:Dg}{n:Int}:l.find? (jD k n)=l[gL l k n]?:=by
 unfold gL
 induction l with
 |nil=>rfl
 |cons x l ih=>
  by_cases h:jD k n x=true
  ·simp[List.findIdx_cons,h]
  ·simp[List.findIdx_cons,h,ih]
structure dF(room:Int)(l:List En):Prop where
 dst:PU En.key En.non l
 len:(l.length:Int)≤room
 ok:∀e∈l,bg e.t=0
 sc:∀e∈l,0≤e.since∧e.since≤1099511627776
theorem ED{room:Int}(h:0≤room):dF room []:=⟨List.Pairwise.nil,by simpa using h,fun e h=>(by cases h),fun e h=>(by cases h)⟩
theorem kI{k:Dg}{n:Int}{e:En}:jD k n e=true↔(e.t.frm=k∧e.t.non=n):=by
 unfold jD
 rw[decide_eq_true_iff]
theorem wW{l:List En}{k:Dg}{n:Int}(h:l.find? (jD k n)=none):l.eraseIdx (gL l k n)=l:=by
 refine List.eraseIdx_of_length_le ?_
 rw[pU] at h
 exact List.getElem?_eq_none_iff.1 h
theorem wV{l:List En}{k:Dg}{n:Int}(hd:PU En.key En.non l):l.eraseIdx (gL l k n)=l.filter (fun e=> !jD k n e):=by
 unfold gL
 induction l with
 |nil=>rfl
 |cons x l ih=>
  have hd':=List.pairwise_cons.1 hd
  by_cases h:jD k n x=true
  ·have e1:List.findIdx (jD k n) (x::l)=0:=by simp[List.findIdx_cons,h]
   have e2:l.filter (fun e=> !jD k n e)=l:=List.filter_eq_self.2 (fun e he=>by
    cases hh:jD k n e with
    |false=>rfl
    |true=>
     have h1:=kI.1 h
     have h2:=kI.1 hh
     exact absurd ⟨h1.1.trans h2.1.symm,h1.2.trans h2.2.symm⟩ (hd'.1 e he))
   rw[e1,List.filter_cons_of_neg (by simp[h]),e2]
   rfl
  ·have e1:List.findIdx (jD k n) (x::l)=List.findIdx (jD k n) l+1:=by simp[List.findIdx_cons,h]
   rw[e1,List.filter_cons_of_pos (by simp[h]),List.eraseIdx_cons_succ,ih hd'.2]
theorem Dh{room:Int}{l:List En}{h:Int}{t:Tx}(hi:dF room l)(hz:eW room l h t=0):dF room (Di l h t):=by
 have hz':=hz
 unfold eW at hz
 by_cases h1:h<0∨1099511627776<h
 ·rw[if_pos h1] at hz;cases hz
 rw[if_neg h1] at hz
 by_cases h2:bg t=0
 rotate_left
 ·rw[if_pos h2] at hz;exact absurd hz h2
 rw[if_neg (fun h=>h h2)] at hz
 unfold Di
 have hmem:∀e∈l.eraseIdx (gL l t.frm t.non),e∈l:=fun e he=>List.mem_of_mem_eraseIdx he
 have hok:∀e∈l.eraseIdx (gL l t.frm t.non)++[⟨t,h⟩],bg e.t=0:=fun e he=>by
  rcases List.mem_append.1 he with he|he
  ·exact hi.ok e (hmem e he)
  ·rw[List.mem_singleton] at he;rw[he];exact h2
 have hsc:∀e∈l.eraseIdx (gL l t.frm t.non)++[⟨t,h⟩],0≤e.since∧e.since≤1099511627776:=fun e he=>by
  rcases List.mem_append.1 he with he|he
  ·exact hi.sc e (hmem e he)
  ·rw[List.mem_singleton] at he;rw[he];show 0≤h∧h≤_;omega
 have hds:PU En.key En.non (l.eraseIdx (gL l t.frm t.non)++[⟨t,h⟩]):=by
  rw[wV hi.dst]
  refine List.pairwise_append.2 ⟨List.Pairwise.sublist List.filter_sublist hi.dst,List.pairwise_singleton _ _,fun a ha b hb hh=>?_⟩
  rw[List.mem_singleton] at hb
  subst hb
  have h3:=(List.mem_filter.1 ha).2
  have h4:jD t.frm t.non a=true:=kI.2 hh
  rw[h4] at h3
  cases h3
 refine⟨hds,?_,hok,hsc⟩
 cases hf:l.find? (jD t.frm t.non) with
 |none=>
  rw[hf] at hz
  simp only at hz
  rw[wW hf,List.length_append]
  by_cases h5:room≤l.length
  ·rw[if_pos h5] at hz;cases hz
  ·simp only[List.length_cons,List.length_nil];omega
 |some o=>
  have h5:gL l t.frm t.non<l.length:=by
   rw[pU] at hf
   exact(List.getElem?_eq_some_iff.1 hf).1
  have:=hi.len
  rw[List.length_append,List.length_eraseIdx,if_pos h5]
  simp only[List.length_cons,List.length_nil]
  omega
theorem vi{room:Int}{l:List En}{h:Int}{t:Tx}(hi:dF room l):dF room (oX room l h t):=by
 unfold oX
 split
 ·rename_i hz;exact Dh hi hz
 ·exact hi
end
section
section
variable {P:Program} {n:Nat} {ops:List Oper} {Q:Exit→Act→World→Prop} {w:World} {L:Env} {ty:TypeId} {pos:String} {af:Array Edge} {g:Option (Nat×Bool)} {rest:List Oper}
theorem SG.Ff{base:Nat}{t e:TypeId}{i:TypeInfo}[u:Ut P t (.slice e)][f:dp P e i]{z:Value}{d:Nat}{s x:Operand}{v:Value}{nn:Nat}{xs:List Value}{b off m c:Nat}{news:List Value}
  (hd:Nat.blt d n=true) (hw:want ops L ⟨some d,.call {callee:= .builtin .append,args:= #[s,x],argTypes:= #[t,t]},ty,pos,af,g⟩=some true) (hk:(known L s&&known L x)=true)
  (hs:bB L s=v) (hx:bB L x= .slice (some ⟨b,off,none⟩) m c) (hz:i.zero=some z) (hzs:Nat.beq z.cells.size i.size=true) (hsz:Nat.blt 0 i.size=true) (hown:w.ownsRow base e i.size v nn xs) (hr:Row w b off news) (hl:news.length=m*i.size) (h1:bF news=true)
  (h63:nn+m≤maxLen) (hbytes:(nn+m)*i.bytes≤140737488355328) (hbase:base≤w.heap.size)
  (h:∀v' w',Kp (aP v) w w'→w'.ownsRow base e i.size v' (nn+m) (xs++news)→(∀g,v'.ownBlock=some g→v.ownBlock=some g∨g=w.heap.size)→SG P n ops Q rest ((d,v')::L) w'):SG P n ops Q (⟨some d,.call {callee:= .builtin .append,args:= #[s,x],argTypes:= #[t,t]},ty,pos,af,g⟩::rest) L w:=by
 refine SG.op (by simpa using hd) rfl hw (by simpa[Op.operands,Call.operands] using hk) ?_
 unfold bh
 obtain⟨v',w',h2,h3,h4⟩:=fb (P:=P) (ty:=ty) (d:= .bool) (c:=c) (u:=u) (f:=f) hz (Nat.eq_of_beq_eq_true hzs) (by simpa[Nat.blt_eq] using hsz) hown hl hr h1 h63 hbytes hbase
 have:(execOp (bB L) ⟨some d,.call {callee:= .builtin .append,args:= #[s,x],argTypes:= #[t,t]},ty,pos,af,g⟩).run P w= .ok (.value v') w':=by
  simp only[execOp,resolve,invoke,builtin,Sem.run_bind,Sem.run_pure,Result.andThen_ok,List.map_toArray,List.map_cons,List.map_nil,hs,hx,h2]
 rw[this]
 exact h v' w' h4 h3 (jx (u:=u) (f:=f) hz hown hl hr h1 h63 hbytes h2)
end
def QU(v o:Value):Prop:=∀b,v.ownBlock=some b→o.ownBlock≠some b
end
section
section
variable {P:Program} {n:Nat} {Q:Exit→Act→World→Prop} {L:Env} {w:World} {ops:List Oper} {rest:List Oper} {ty:TypeId} {pos:String} {af:Array Edge} {g:Option (Nat×Bool)}
theorem tV{base sz:Nat}{t ty e:TypeId}{i:TypeInfo}[u:Ut P t (.slice e)][f:dp P e i]{v:Value}{nn:Nat}{xs:List Value}(hown:w.ownsRow base e sz v nn xs)(a2:Option Addr)(c2:Nat):(Builtin.append_ #[t,t] ty #[v,.slice a2 0 c2]).run P w= .ok v w:=by
 rcases hown.2 with⟨rfl,rfl⟩|⟨g,cap,cur,rfl,hbg,hg,hnc,hcm,hcs,htake⟩
 ·cases a2<;>simp[Builtin.append_,run_underlying u.eq,sizeOf,typeInfo,f.eq,Builtin.lenOf,Builtin.firstCells,loadCells,loadCellsFrom]
 ·cases a2<;>simp[Builtin.append_,run_underlying u.eq,sizeOf,typeInfo,f.eq,Builtin.lenOf,Builtin.firstCells,loadCells,loadCellsFrom,hnc,storeCells]
theorem SG.kr{α:Type}{enc:α→List Value}{base:Nat}{t e:TypeId}{i:TypeInfo}[u:Ut P t (.slice e)][f:dp P e i]{z:Value}{d:Nat}{s x:Operand}{v:Value}{xs ys:List α}{a2:Option Addr}{m c2:Nat}
  (hd:Nat.blt d n=true) (hw:want ops L ⟨some d,.call {callee:= .builtin .append,args:= #[s,x],argTypes:= #[t,t]},ty,pos,af,g⟩=some true) (hk:(known L s&&known L x)=true)
  (hs:bB L s=v) (hx:bB L x= .slice a2 m c2) (hm:m=ys.length) (hz:i.zero=some z) (hzs:Nat.beq z.cells.size i.size=true) (hsz:Nat.blt 0 i.size=true) (hel:∀x,(enc x).length=i.size) (hone:∀x,bF (enc x)=true) (hown:w.ownsRow base e i.size v xs.length (bO enc xs)) (hS:Sl enc i.size w a2 ys)
  (h63:xs.length+ys.length≤maxLen) (hbytes:(xs.length+ys.length)*i.bytes≤140737488355328) (hbase:base≤w.heap.size)
  (h:∀v' w',Kp (aP v) w w'→w'.ownsRow base e i.size v' (xs++ys).length (bO enc (xs++ys))→(∀g,v'.ownBlock=some g→v.ownBlock=some g∨g=w.heap.size)→SG P n ops Q rest ((d,v')::L) w'):SG P n ops Q (⟨some d,.call {callee:= .builtin .append,args:= #[s,x],argTypes:= #[t,t]},ty,pos,af,g⟩::rest) L w:=by
 subst hm
 cases ys with
 |nil=>
  refine SG.op (by simpa using hd) rfl hw (by simpa[Op.operands,Call.operands] using hk) ?_
  unfold bh
  have:(execOp (bB L) ⟨some d,.call {callee:= .builtin .append,args:= #[s,x],argTypes:= #[t,t]},ty,pos,af,g⟩).run P w= .ok (.value v) w:=by
   simp only[execOp,resolve,invoke,builtin,Sem.run_bind,Sem.run_pure,Result.andThen_ok,List.map_toArray,List.map_cons,List.map_nil,hs,hx]
   have:=tV (P:=P) (ty:=ty) (u:=u) (f:=f) hown a2 c2
   simp only[List.length_nil]
   rw[this]
   rfl
  rw[this]
  exact h v w (Kp.refl _ _) (by rw[List.append_nil];exact hown) (fun g hg=>Or.inl hg)
 |cons y ys=>
  obtain⟨b,off,rfl,_⟩:=hS.at (i:=0) (by simp)
  have hr:=Sl.flat hel (by simp) hS
  refine SG.Ff hd hw hk hs hx hz hzs hsz hown hr (by rw[bY hel]) (mS hone _) h63 hbytes hbase (fun v' w' h1 h2 h3=>h v' w' h1 ?_ h3)
  rw[dx,List.length_append]
  exact h2
theorem SG.o8{d c:Nat}{t e:TypeId}{i:TypeInfo}[u:Ut P t (.slice e)][f:dp P e i]{z:Value}{x y:Operand}{zc:Int}(hd:Nat.blt d n=true)
  (hw:want ops L ⟨some d,.makeSlice t x y,ty,pos,af,g⟩=some true) (hk:(known L x&&known L y)=true) (hx:bB L x= .int .i64 0) (hy:bB L y= .int .i64 zc) (hc:zc=(c:Int)) (hz:i.zero=some z) (hbytes:i.bytes*c≤281474976710656) (h63:c≤maxLen)
  (h:∀b w',Kp [] w w'→w.heap.size≤b→w'.ownsRow w.heap.size e i.size (.slice (some ⟨b,0,none⟩) 0 c) 0 []→SG P n ops Q rest ((d,.slice (some ⟨b,0,none⟩) 0 c)::L) w'):SG P n ops Q (⟨some d,.makeSlice t x y,ty,pos,af,g⟩::rest) L w:=by
 subst hc
 refine SG.op (by simpa using hd) rfl hw (by simpa[Op.operands] using hk) ?_
 unfold bh
 have h63':(c:Int)≤9223372036854775807:=by have h:=h63;simp[maxLen] at h;omega
 have hb':(i.bytes:Int)*(c:Int)≤281474976710656:=by
  have h:((i.bytes*c:Nat):Int)≤281474976710656:=by omega
  rwa [Int.natCast_mul] at h
 have hr:=run_make (P:=P) w t e i z u.eq f.eq hz .i64 .i64 0 c (Int.le_refl _) (by omega) hb' h63'
 simp only[Int.toNat_zero,Int.toNat_natCast] at hr
 have:(execOp (bB L) ⟨some d,.makeSlice t x y,ty,pos,af,g⟩).run P w= .ok (.value (.slice (some ⟨w.heap.size,0,none⟩) 0 c)) (w.alloc (.cells (madeCells z.cells (c*i.size)) e)):=by
  simp only[execOp,hx,hy,Sem.run_bind,hr,Result.andThen,Sem.run_pure]
 rw[this]
 exact h _ _ (Kp.push w _ rfl) (Nat.le_refl _) (World.ownsRow_made w _ c (Nat.le_refl _) h63 (size_madeCells _ _))
end
end
section
open Go.Proofs
theorem fA(x:UInt8):(gw x).length=1:=rfl
theorem kL(x:UInt8):bF (gw x)=true:=rfl
theorem QL(x:UInt8)(w:World):(Instr.buildSlice 33 1 #[(0,bv x)]).run Tryz.prog w= .ok (.slice (some ⟨w.heap.size,0,none⟩) 1 1) {w with heap:=w.heap.push (.cells (gw x).toArray 5)}:=by kernel_rfl
theorem N0(n:Nat):lJ (n:Int) 7=((n/128:Nat):Int):=tS (i:=7) (by omega)
structure Bs(w:World)(a:Option Addr)(c:Nat)(l:List UInt8):Prop where
 sl:Sl gw 1 w a l
 len:l.length≤c
 some:l=[]∧a=none∨(∃b2 off,a=Option.some ⟨b2,off,none⟩)∨(l=[]∧c=0)
 lt:l≠[]→∀b2 off,a=Option.some ⟨b2,off,none⟩→b2<w.heap.size
theorem Bs.own{w:World}{base:Nat}{v:Value}{l:List UInt8}(h:w.ownsRow base 5 1 v l.length (bO gw l)):∃a c,v= .slice a l.length c∧Bs w a c l:=by
 obtain⟨a,c,rfl,hc,hS⟩:=Sl.own fA h rfl
 refine⟨a,c,rfl,hS,hc,?_,?_⟩
 ·rcases h.2 with⟨hv,h0⟩|⟨g,cap,cur,hv,_⟩
  ·simp only[Value.slice.injEq] at hv
   exact Or.inl ⟨List.eq_nil_of_length_eq_zero h0,hv.1⟩
  ·cases hv
   exact Or.inr (Or.inl ⟨_,_,rfl⟩)
 ·rcases h.2 with⟨hv,h0⟩|⟨g,cap,cur,hv,_,hg,_⟩
  ·simp only[Value.slice.injEq] at hv
   intro _ b2 off e
   rw[hv.1] at e
   cases e
  ·cases hv
   intro _ b2 off e
   cases e
   exact(Array.getElem?_eq_some_iff.1 hg).1
theorem Bs.kp{S:List Nat}{w w':World}{a:Option Addr}{c:Nat}{l:List UInt8}(h:Bs w a c l)(hk:Kp S w w')(hb:∀b off,a=Option.some ⟨b,off,none⟩→b∉S):Bs w' a c l:=
 ⟨h.sl.kp hk hb,h.len,h.some,fun hn b2 off e=>Nat.lt_of_lt_of_le (h.lt hn b2 off e) hk.size⟩
theorem Bs.SX{S:List Nat}{w w':World}{a:Option Addr}{c:Nat}{l:List UInt8}(h:Bs w a c l)(hk:Kp S w w')(hb:l≠[]→∀b off,a=Option.some ⟨b,off,none⟩→b∉S):Bs w' a c l:=by
 refine⟨?_,h.len,h.some,fun hn b2 off e=>Nat.lt_of_lt_of_le (h.lt hn b2 off e) hk.size⟩
 by_cases hn:l=[]
 ·subst hn;exact Sl.nil
 ·exact h.sl.kp hk (hb hn)
theorem Bs.nil{w:World}:Bs w none 0 []:=⟨Sl.nil,Nat.le_refl _,Or.inl ⟨rfl,rfl⟩,fun _ _ _ e=>by cases e⟩
attribute [local irreducible] CG NG SG aK aI Row aF aE aM kZ ic vk qj kR lJ Ep
theorem lR{w:World}{a:Option Addr}{c:Nat}{l:List UInt8}(hS:Sl gw 1 w a l)(m:Nat)(hl:l.length+m≤1000000000):kt Tryz.prog 5 gw 1 136 #[.slice a l.length c,.int .i64 (m:Int)] w l:=by
 refine bJ Tryz.func136 rfl Tryz.ntmps136 rfl ?_
 have e1:(l.length:Int)+(m:Int)=((l.length+m:Nat):Int):=by omega
 repeat (first|apply aj|(apply ar;rfl;(first|apply az|apply aD|apply dG|apply dy)<;>first|rfl|(apply Ar.mk;omega)))
 rw[e1]
 refine SG.o8 (c:=l.length+m) rfl rfl rfl (ag rfl) (ag rfl) rfl rfl (by show 1*(l.length+m)≤_;omega) (by simp only[maxLen];omega) (fun b9 w1 hk1 hb9 ho1=>?_)
 repeat (apply ar;rfl;apply az<;>rfl)
 refine SG.kr (enc:=gw) (xs:=[]) (ys:=l) (base:=w.heap.size) rfl rfl rfl (ag rfl) (ag rfl) rfl rfl rfl rfl fA kL ho1 (hS.ay hk1) (by simp only[maxLen,List.length_nil];omega) (by show(0+l.length)*1≤_;omega) hk1.size (fun v w2 hk2 ho2 _=>?_)
 repeat (first|apply aj|(apply ar;rfl;apply aD<;>rfl))
 refine aO (Or.inl rfl) Tryz.results136 (aC.tmp rfl) ?_
 exact⟨_,rfl,ho2,hk1.ai hk2 (eO ho1 (Nat.le_refl _))⟩
theorem oF{w:World}{v:Value}{l:List UInt8}{base:Nat}(ho:w.ownsRow base 5 1 v l.length (bO gw l))(hbase:base≤w.heap.size)(n:Nat)(hn:n<18446744073709551616)(hl:l.length≤1000000000):Calls Tryz.prog 135 #[v,.int .u64 (n:Int)] w (fun e w'=>∃v',e= .returned v'∧w'.ownsRow base 5 1 v' (l++cP n).length (bO gw (l++cP n))∧Kp (aP v) w w'∧(∀g,v'.ownBlock=some g→v.ownBlock=some g∨w.heap.size≤g)):=by
 refine bJ Tryz.func135 rfl Tryz.ntmps135 rfl ?_
 repeat (first|apply aj|(apply ar;rfl;apply aD<;>rfl))
 refine CG.loop (X:=Value×Nat×List UInt8×Nat) (fun x=>[(0,x.1),(1,.int .u64 (x.2.2.2:Int))])
  (fun x w'=>w'.ownsRow base 5 1 x.1 (l++x.2.2.1).length (bO gw (l++x.2.2.1))∧x.2.1≤10∧x.2.2.1.length=10-x.2.1∧x.2.2.2<128^(x.2.1+1)∧x.2.2.1++pD x.2.1 x.2.2.2=cP n∧Kp (aP v) w w'∧(∀g,x.1.ownBlock=some g→v.ownBlock=some g∨w.heap.size≤g)) (fun x=>x.2.1) (v,10,[],n) ⟨by simpa using ho,Nat.le_refl _,rfl,Nat.lt_of_lt_of_le hn (show 18446744073709551616≤128^11 by decide),rfl,Kp.refl _ _,fun g hg=>Or.inl hg⟩ (aS.of rfl) ?_
 rintro⟨v1,f,done,m⟩ w1 ⟨ho1,hf,hd,hm,hp,hk1,hw1⟩
 simp only at ho1 hf hd hm hp hw1
 refine CG.to [(0,v1),(1,.int .u64 (m:Int))] (aS.of rfl) ?_
 have hbase1:base≤w1.heap.size:=Nat.le_trans hbase hk1.size
 have hs1:=hk1.size
 by_cases hlt:m<128
 ·have g1:¬(128:Int)≤(m:Int):=by omega
  have hput:pD f m=[UInt8.ofNat m]:=by
   cases f with
   |zero=>rfl
   |succ f=>simp[pD,hlt]
  rw[hput] at hp
  repeat (first|apply aj|(apply ar;rfl;(first|apply az|apply jN)<;>first|rfl|(apply bN;first|assumption|omega)))
  refine bG rfl ?_
  repeat (first|apply aj|(apply ar;rfl;first|apply Bo<;>rfl|apply az<;>rfl))
  rw[oZ]
  refine SG.buildSlice rfl rfl rfl rfl (QL (UInt8.ofNat m)) (fun b2 w2 hk2 hb2 hB2=>?_)
  have hS2:Sl gw 1 w2 (some ⟨b2,0,none⟩) [UInt8.ofNat m]:=Sl.gH (pre:=[]) (post:=[]) fA (l:=[UInt8.ofNat m]) (T:=5) hB2
  refine SG.kr (enc:=gw) (xs:=l++done) (ys:=[UInt8.ofNat m]) (base:=base) rfl rfl rfl (ag rfl) (ag rfl) rfl rfl rfl rfl fA kL (aT ho1 hk2) hS2 (by simp only[maxLen,List.length_append,List.length_cons,List.length_nil];omega) (by show((l++done).length+1)*1≤_;simp only[List.length_append];omega) (Nat.le_trans hbase1 hk2.size) (fun v3 w3 hk3 ho3 hw3=>?_)
  rw[List.append_assoc,hp] at ho3
  repeat (first|apply aj|(apply ar;rfl;apply aD<;>rfl))
  refine aO (Or.inl rfl) Tryz.results135 (aC.tmp rfl) ?_
  refine⟨_,rfl,ho3,(hk1.trans hk2.any).ai hk3 (fun z hz=>?_),fun g hg=>?_⟩
  ·have hz':v1.ownBlock=some z:=by
    unfold aP at hz
    split at hz
    ·rename_i b hb
     rw[List.mem_singleton] at hz
     rw[hb,hz]
    ·cases hz
   rcases hw1 z hz' with h|h
   ·left
    unfold aP
    rw[h]
    simp
   ·exact Or.inr h
  ·have s2:=hk2.size
   rcases hw3 g hg with h|h
   ·exact hw1 g h
   ·exact Or.inr (by omega)
 ·have g1:(128:Int)≤(m:Int):=by omega
  cases f with
  |zero=>simp at hm;omega
  |succ f=>
   have hput:pD (f+1) m=UInt8.ofNat (128+m%128)::pD f (m/128):=by simp[pD,hlt]
   rw[hput] at hp
   have e8:=Eo (n:=m)
   repeat (first|apply aj|(apply ar;rfl;(first|apply az|apply jN)<;>first|rfl|(apply bK;first|assumption|omega)))
   refine bL rfl ?_
   repeat (first|apply aj|(apply ar;rfl;first|apply Bo<;>rfl|((first|apply N2|apply az)<;>rfl)))
   rw[e8]
   refine SG.buildSlice rfl rfl rfl rfl (QL (UInt8.ofNat (128+m%128))) (fun b2 w2 hk2 hb2 hB2=>?_)
   have hS2:Sl gw 1 w2 (some ⟨b2,0,none⟩) [UInt8.ofNat (128+m%128)]:=Sl.gH (pre:=[]) (post:=[]) fA (l:=[UInt8.ofNat (128+m%128)]) (T:=5) hB2
   refine SG.kr (enc:=gw) (xs:=l++done) (ys:=[UInt8.ofNat (128+m%128)]) (base:=base) rfl rfl rfl (ag rfl) (ag rfl) rfl rfl rfl rfl fA kL (aT ho1 hk2) hS2 (by simp only[maxLen,List.length_append,List.length_cons,List.length_nil];omega) (by show((l++done).length+1)*1≤_;simp only[List.length_append];omega) (Nat.le_trans hbase1 hk2.size) (fun v3 w3 hk3 ho3 hw3=>?_)
   repeat (first|apply aj|(apply ar;rfl;(first|apply Gc|apply az|apply aD)<;>first|rfl|(apply Ar.mk;omega)))
   rw[N0]
   refine NG.round (v3,f,done++[UInt8.ofNat (128+m%128)],m/128) (aS.of rfl) ⟨by simp only;rw[←List.append_assoc];exact ho3,by simp only;omega,by simp;omega,?_,by simp only[List.append_assoc,List.singleton_append];exact hp,(hk1.trans hk2.any).ai hk3 (fun z hz=>?_),fun g hg=>?_⟩ (by simp only;omega)
   ·simp only
    rw[Nat.pow_succ] at hm
    exact Nat.div_lt_of_lt_mul (by rw[Nat.mul_comm];exact hm)
   ·have hz':v1.ownBlock=some z:=by
     unfold aP at hz
     split at hz
     ·rename_i b hb
      rw[List.mem_singleton] at hz
      rw[hb,hz]
     ·cases hz
    rcases hw1 z hz' with h|h
    ·left
     unfold aP
     rw[h]
     simp
    ·exact Or.inr h
   ·have s2:=hk2.size
    rcases hw3 g hg with h|h
    ·exact hw1 g h
    ·exact Or.inr (by omega)
theorem cW{w:World}{a:Option Addr}{c:Nat}{l:List UInt8}(hS:Bs w a c l)(n:Nat)(hn:n<18446744073709551616)(hl:l.length≤100000000):kt Tryz.prog 5 gw 1 93 #[.slice a l.length c,.int .u64 (n:Int)] w (l++cP n):=by
 refine bJ Tryz.func93 rfl Tryz.ntmps93 rfl ?_
 repeat (first|apply aj|(apply ar;rfl;(first|apply az|apply aD)<;>rfl))
 refine SG.call rfl rfl rfl (by repeat' (first|exact True.intro|exact ag rfl|refine And.intro ?_ ?_)) ((lR (c:=c) hS.sl 10 (by omega)).mono (fun e w1 hh=>?_))
 obtain⟨v1,he,ho1,hk1⟩:=hh
 refine⟨_,he,?_⟩
 repeat (apply ar;rfl;apply az<;>rfl)
 refine SG.call rfl rfl rfl (by repeat' (first|exact True.intro|exact ag rfl|refine And.intro ?_ ?_)) ((oF ho1 hk1.size n hn (by omega)).mono (fun e w2 hh=>?_))
 obtain⟨v2,he,ho2,hk2,_⟩:=hh
 refine⟨_,he,?_⟩
 repeat (first|apply aj|(apply ar;rfl;apply aD<;>rfl))
 refine aO (Or.inl rfl) Tryz.results93 (aC.tmp rfl) ?_
 exact⟨_,rfl,ho2,hk1.ai hk2 (eO ho1 (Nat.le_refl _))⟩
end
section
section
variable {P:Program} {S:List Nat} {w0:World} {F:World→Prop} {L:Env} {d:Option Nat} {ty:TypeId} {pos:String} {af:Array Edge} {g:Option (Nat×Bool)}
theorem Oc{T T2:TypeId}{x y:Operand}{a b:Int}(hx:ro L x=some (.int .i64 a))(hy:ro L y=some (.int .i64 b)):
  aK P S w0 F L ⟨d,.call {callee:= .builtin .min,args:= #[x,y],argTypes:= #[T,T2]},ty,pos,af,g⟩ (.int .i64 (if b<a then b else a)):=fun w _ _=>by
 simp[execOp,ag hx,ag hy,resolve,invoke,builtin,Builtin.min_,Builtin.min2]
end
section
variable {P:Program} {S:List Nat} {w0:World} {F:World→Prop} {L:Env} {d:Option Nat} {ty:TypeId} {pos:String} {af:Array Edge} {g:Option (Nat×Bool)}
theorem Fz{T T':TypeId}[u:Ut P T (.int .u8)][u':Ut P T' (.int .i64)]{x:Operand}{a:UInt8}(hx:ro L x=some (bv a)):aK P S w0 F L ⟨d,.convert T T' x,ty,pos,af,g⟩ (.int .i64 (a.toNat:Int)):=by
 have h:=vj (P:=P) (S:=S) (w0:=w0) (F:=F) (d:=d) (ty:=ty) (pos:=pos) (af:=af) (g:=g) (u:=u) (u':=u') hx
 have hlt:a.toNat<256:=a.toNat_lt
 have e:IntKind.wrap .i64 (a.toNat:Int)=(a.toNat:Int):=by
  simp[IntKind.wrap,IntKind.bits,IntKind.signed]
  omega
 rwa [e] at h
end
end
section
open Go.Proofs
def Dx(u:UInt8):UInt8:=UInt8.ofNat (u.toNat%128)
theorem xY(u:UInt8):(Dx u).toNat=u.toNat%128:=by
 unfold Dx
 rw[UInt8.toNat_ofNat']
 omega
def Fh(a b:Int):Int:=IntKind.wrap .u8 ((BitVec.ofInt 8 a&&&BitVec.ofInt 8 b).toNat:Int)
theorem N4{P:Program}{S:List Nat}{w0:World}{F:World→Prop}{L:Env}{d:Option Nat}{ty:TypeId}{pos:String}{af:Array Edge}{g:Option (Nat×Bool)}{T T':TypeId}[u:Ut P T (.int .u8)]{x y:Operand}{a b:Int}(hx:ro L x=some (.int .u8 a))(hy:ro L y=some (.int .u8 b)):aK P S w0 F L ⟨d,.binOp .and T x y T',ty,pos,af,g⟩ (.int .u8 (Fh a b)):=fun w _ _=>by
 simp only[execOp,ag hx,ag hy,eqGuard,binOp,Op.intBits,Sem.run_bind,Sem.run_pure,Result.andThen,Fh];rfl
theorem C8(b:UInt8):Fh (b.toNat:Int) 127=((Dx b).toNat:Int):=by
 rw[xY]
 have key:∀m:_root_.Fin 256,Fh (m.val:Int) 127=((m.val%128:Nat):Int):=by decide+kernel
 exact key ⟨b.toNat,b.toNat_lt⟩
theorem Fx{P:Program}{S:List Nat}{w0:World}{F:World→Prop}{L:Env}{d:Option Nat}{ty:TypeId}{pos:String}{af:Array Edge}{g:Option (Nat×Bool)}{T T':TypeId}[u:Ut P T (.int .u8)]{x y:Operand}{b:UInt8}(hx:ro L x=some (bv b))(hy:ro L y=some (.int .u8 127)):aK P S w0 F L ⟨d,.binOp .and T x y T',ty,pos,af,g⟩ (bv (Dx b)):=by
 have:=N4 (P:=P) (S:=S) (w0:=w0) (F:=F) (d:=d) (ty:=ty) (pos:=pos) (af:=af) (g:=g) (T':=T') (u:=u) hx hy
 rwa [C8] at this
theorem GS(l:List UInt8):(0:Int)=(kd (l.take 0):Int):=rfl
theorem IE{w:World}{a:Option Addr}{c:Nat}{l:List UInt8}(h:Bs w a c l){i:Nat}(hi:i<l.length):∃b off,a=some ⟨b,off,none⟩∧Row w b (off+i*1) [bv l[i]]:=h.sl.at hi
attribute [local irreducible] CG NG SG aK aI Row aF aE aM kZ ic vk qj kR lJ Ep Dx kd fp ca dH
theorem zt{w:World}{a:Option Addr}{c:Nat}{l:List UInt8}(hS:Bs w a c l)(hl:l.length≤1000000000):dz Tryz.prog 190 #[.slice a l.length c] w (.tuple #[.int .u64 (if ca l=0 then(dH l:Int) else 0),.int .i64 (if ca l=0 then(cU l:Int) else 0),.int .i64 (ca l)]):=by
 refine bA Tryz.func190 rfl Tryz.ntmps190 rfl ?_
 have bad:∀{z:Int} {w':World},Kp [] w w'→ca l=z→z≠0→(Ending.returned (.tuple #[.int .u64 0,.int .i64 0,.int .i64 z])= .returned (.tuple #[.int .u64 (if ca l=0 then(dH l:Int) else 0),.int .i64 (if ca l=0 then(cU l:Int) else 0),.int .i64 (ca l)])∧Kp [] w w'):=fun hk e hz=>⟨by rw[e,if_neg hz,if_neg hz],hk⟩
 obtain⟨m,hm,hm1,hm2⟩:∃m:Nat,(if(10:Int)<(l.length:Int) then(10:Int) else(l.length:Int))=(m:Int)∧m≤l.length∧(m=10∨(m=l.length∧m<10)):=by
  by_cases h:(10:Int)<(l.length:Int)
  ·exact⟨10,by rw[if_pos h];rfl,by omega,Or.inl rfl⟩
  ·exact⟨l.length,by rw[if_neg h],Nat.le_refl _,by omega⟩
 repeat (first|apply aj|(apply ar;rfl;apply aD<;>rfl))
 refine CG.label ?_
 repeat (first|apply aj|(apply ar;rfl;(first|apply Oc|apply az|apply dy)<;>rfl))
 rw[hm]
 refine CG.loop (X:=Nat×Int) (fun x=>[(0,.slice a l.length c),(5,.int .u64 x.2),(6,.int .i64 (-1)),(10,.int .i64 (m:Int)),(11,.int .i64 (x.1:Int))])
  (fun x w'=>w'=w∧x.1≤m∧(∀j (hj:j<x.1) (h:j<l.length),128≤l[j].toNat)∧(x.1≤9→x.2=(kd (l.take x.1):Int))) (fun x=>m-x.1) (0,0) ⟨rfl,Nat.zero_le _,fun j hj=>absurd hj (Nat.not_lt_zero _),fun _=>GS l⟩ (aS.of rfl) ?_
 rintro⟨i,n⟩ w1 ⟨rfl,him,hbig,hn⟩
 simp only at him hbig hn
 refine CG.to [(0,.slice a l.length c),(5,.int .u64 n),(6,.int .i64 (-1)),(10,.int .i64 (m:Int)),(11,.int .i64 (i:Int))] (aS.of rfl) ?_
 by_cases hlt:i<m
 rotate_left
 ·have g1:¬(i:Int)<(m:Int):=by omega
  have ei:i=m:=by omega
  subst ei
  have hr:fp 10 l=i:=rY (by omega) hm1 (fun j hj=>hbig j hj (by omega)) (by omega)
  have g2:(-1:Int)<0:=by decide
  repeat (first|apply aj|(apply ar;rfl;apply cG<;>first|rfl|(apply bN;first|assumption|omega)))
  refine bG rfl ?_
  by_cases h10:i<10
  ·have g3:(l.length:Int)<10:=by omega
   have e:ca l=4:=by
    unfold ca
    exact if_pos ⟨by omega,by omega⟩
   repeat (first|apply aj|(apply ar;rfl;(first|apply az|apply aD|apply cu|apply cG|apply dy)<;>first|rfl|(apply bK;first|assumption|omega)))
   refine bL rfl ?_
   repeat (first|apply aj|(apply ar;rfl;apply aD<;>rfl))
   refine sj (Or.inl rfl) Tryz.results190 (aC.tmp rfl) (aC.tmp rfl) (aC.tmp rfl) ?_
   exact bad (Kp.refl _ _) e (by decide)
  ·have g3:¬(l.length:Int)<10:=by omega
   have e:ca l=3:=by
    unfold ca
    rw[if_neg (by omega),if_pos (Or.inl (by omega))]
   repeat (first|apply aj|(apply ar;rfl;(first|apply az|apply aD|apply cu|apply cG|apply dy)<;>first|rfl|(apply bK;first|assumption|omega)|(apply bN;first|assumption|omega)))
   refine bG rfl ?_
   repeat (first|apply aj|(apply ar;rfl;(first|apply az|apply aD|apply cG)<;>first|rfl|(apply bK;first|assumption|omega)))
   refine bL rfl ?_
   repeat apply aj
   refine bL rfl ?_
   repeat (first|apply aj|(apply ar;rfl;apply aD<;>rfl))
   refine sj (Or.inl rfl) Tryz.results190 (aC.tmp rfl) (aC.tmp rfl) (aC.tmp rfl) ?_
   exact bad (Kp.refl _ _) e (by decide)
 have g1:(i:Int)<(m:Int):=by omega
 have hil:i<l.length:=by omega
 obtain⟨ba,oa,rfl,hri⟩:=IE hS hil
 have hgd:l.getD i 0=l[i]:=by
  rw[List.getD_eq_getElem?_getD,List.getElem?_eq_getElem hil]
  rfl
 have hsn:=nW hil
 have hb0:=l[i].toNat_lt
 generalize hu:l[i]=u at hri hgd hsn hb0
 have hnew:i≤8∨u.toNat≤1→vk n (kR ((Dx u).toNat:Int) (7*(i:Int)))=(kd (l.take (i+1)):Int):=fun h=>by
  rw[xY,hn (by omega),hsn]
  have h1:=pd (l.take i)
  rw[List.length_take,Nat.min_eq_left (by omega)] at h1
  have h2:u.toNat%128<128:=Nat.mod_lt _ (by omega)
  have h3:kd (l.take i)+u.toNat%128*2^(7*i)<18446744073709551616:=by
   by_cases h9:i=9
   ·subst h9
    have h4:u.toNat≤1:=by omega
    have h5:u.toNat%128≤1:=Nat.le_trans (Nat.mod_le _ _) h4
    simp only[Nat.reduceMul,Nat.reducePow] at h1⊢
    omega
   ·have h4:(2:Nat)^(7*i)≤2^56:=Nat.pow_le_pow_right (by omega) (by omega)
    have h5:u.toNat%128*2^(7*i)≤127*2^56:=Nat.mul_le_mul (by omega) h4
    simp only[Nat.reducePow] at h4 h5
    omega
  have e7:(7*(i:Int))=((7*i:Nat):Int):=by omega
  rw[e7,tT (by omega) (by omega),xS h1 h3]
 have hb7:0≤7*(i:Int)∧7*(i:Int)≤63:=by omega
 repeat (first|apply aj|(apply ar;rfl;apply cG<;>first|rfl|(apply bK;first|assumption|omega)))
 refine bL rfl ?_
 generalize hN:vk n (kR ((Dx u).toNat:Int) (7*(i:Int)))=n2 at hnew
 have hi9:i≤9:=by omega
 clear hb0 g1
 by_cases hs:u.toNat<128
 rotate_left
 ·have g2:¬(u.toNat:Int)<128:=by omega
  repeat (first|apply aj|(apply ar;rfl;first|(apply Gf<;>(first|rfl|(apply Ar.mk;omega)|assumption|(apply bN;first|assumption|omega)|exact List.not_mem_nil))|((first|apply Fx|apply D6|apply D5|apply Fy|apply az|apply aD|apply bf|apply fv|apply cG)<;>(first|rfl|(apply Ar.mk;omega)|assumption|(apply bN;first|assumption|omega)|exact List.not_mem_nil))))
  rw[hN]
  skip
  refine bG rfl ?_
  repeat (first|apply aj|(apply ar;rfl;(first|apply az|apply dG)<;>first|rfl|(apply Ar.mk;omega)))
  refine NG.round (i+1,n2) (aS.of rfl) ⟨rfl,hlt,fun j hj h=>?_,fun h=>?_⟩ (by show m-(i+1)<m-i;omega)
  ·by_cases e:j=i
   ·subst e;rw[hu];omega
   ·exact hbig j (by have:j<i+1:=hj;omega) h
  ·exact hnew (Or.inl (by have:i+1≤9:=h;omega))
 have g2:Dc ((u.toNat:Int)<128) true:=bK (by omega)
 have hr:fp 10 l=i:=rY (by omega) (by omega) (fun j hj=>hbig j hj (by omega)) (Or.inr (Or.inr ⟨hil,by rw[hu];exact hs⟩))
 repeat (first|apply aj|(apply ar;rfl;first|(apply Gf<;>(first|rfl|(apply Ar.mk;omega)|assumption|exact List.not_mem_nil))|((first|apply Fx|apply D6|apply D5|apply Fy|apply az|apply aD|apply bf|apply fv|apply cG)<;>(first|rfl|(apply Ar.mk;omega)|assumption|exact List.not_mem_nil))))
 rw[hN]
 skip
 refine bL rfl ?_
 clear g2
 have g3:¬(i:Int)<0:=by omega
 repeat (first|apply aj|refine NG.pW rfl ?_|(apply ar;rfl;(first|apply az|apply aD|apply cu|apply cG)<;>first|rfl|(apply bN;first|assumption|omega))|refine SG.skip rfl rfl ?_)
 refine bG rfl ?_
 by_cases hz:0<i∧u=0
 ·obtain⟨h0,h0'⟩:=hz
  subst h0'
  have g4:(0:Int)<(i:Int):=by omega
  have e:ca l=3:=by
   unfold ca
   rw[if_neg (by omega),if_pos (Or.inr (Or.inl ⟨by omega,by rw[hr];exact hgd⟩))]
  have g5:(((0:UInt8).toNat:Nat):Int)=0:=rfl
  repeat (first|apply aj|(apply ar;rfl;(first|apply az|apply aD|apply cG)<;>first|rfl|(apply bN;first|assumption|omega)))
  refine bG rfl ?_
  repeat (first|apply aj|(apply ar;rfl;(first|apply az|apply aD|apply bf|apply fv|apply cu|apply fF|apply fW)<;>first|rfl|(apply Ar.mk;omega)|assumption|(apply bK;first|assumption|omega)|exact List.not_mem_nil))
  refine bL rfl ?_
  repeat apply aj
  refine bL rfl ?_
  repeat (first|apply aj|(apply ar;rfl;apply aD<;>rfl))
  refine sj (Or.inl rfl) Tryz.results190 (aC.tmp rfl) (aC.tmp rfl) (aC.tmp rfl) ?_
  exact bad (Kp.refl _ _) e (by decide)
 have hzz:i=0∨(0<i∧u.toNat≠0):=by
  by_cases h0:0<i
  ·exact Or.inr ⟨h0,fun e=>hz ⟨h0,UInt8.toNat.inj e⟩⟩
  ·exact Or.inl (by omega)
 by_cases h9:i=9∧1<u.toNat
 ·obtain⟨rfl,h9'⟩:=h9
  have e:ca l=3:=by
   unfold ca
   rw[if_neg (by omega),if_pos (Or.inr (Or.inr ⟨hr,by rw[hgd];exact h9'⟩))]
  have g4:¬(u.toNat:Int)=0:=by omega
  have g5:(1:Int)<(u.toNat:Int):=by omega
  repeat (first|apply aj|(apply ar;rfl;(first|apply az|apply aD|apply cG)<;>first|rfl|(apply bN;first|assumption|omega)))
  refine bG rfl ?_
  repeat (first|apply aj|(apply ar;rfl;(first|apply az|apply aD|apply bf|apply fv|apply cu|apply fF|apply fW)<;>first|rfl|(apply Ar.mk;omega)|assumption|(apply bK;first|assumption|omega)|(apply bN;first|assumption|omega)|exact List.not_mem_nil))
  refine bG rfl ?_
  repeat (first|apply aj|(apply ar;rfl;(first|apply az|apply aD|apply bf|apply fv|apply cu|apply fF|apply fW)<;>first|rfl|(apply Ar.mk;omega)|assumption|(apply bK;first|assumption|omega)|exact List.not_mem_nil))
  refine bL rfl ?_
  repeat (first|apply aj|(apply ar;rfl;apply aD<;>rfl))
  refine sj (Or.inl rfl) Tryz.results190 (aC.tmp rfl) (aC.tmp rfl) (aC.tmp rfl) ?_
  exact bad (Kp.refl _ _) e (by decide)
 have e:ca l=0:=by
  unfold ca
  rw[if_neg (by omega),if_neg]
  rintro(h|⟨h1,h2⟩|⟨h1,h2⟩)
  ·omega
  ·rw[hr,hgd] at h2
   exact hz ⟨by omega,h2⟩
  ·rw[hr] at h1
   subst h1
   rw[hgd] at h2
   exact h9 ⟨rfl,h2⟩
 have ev:=hnew (by omega)
 have good:∀{w':World},Kp [] w1 w'→(Ending.returned (.tuple #[.int .u64 n2,.int .i64 ((i:Int)+1),.int .i64 0])= .returned (.tuple #[.int .u64 (if ca l=0 then(dH l:Int) else 0),.int .i64 (if ca l=0 then(cU l:Int) else 0),.int .i64 (ca l)])∧Kp [] w1 w'):=fun hk=>by
  refine⟨?_,hk⟩
  rw[e,if_pos rfl,if_pos rfl,ev]
  unfold dH cU
  rw[hr]
  rfl
 clear ev hnew hsn hN bad
 rcases hzz with h0|⟨h0,hu0⟩
 ·have g4:¬(0:Int)<(i:Int):=by omega
  have g5:¬(i:Int)=9:=by omega
  repeat (first|apply aj|(apply ar;rfl;(first|apply az|apply aD|apply cG)<;>first|rfl|(apply bN;first|assumption|omega)))
  refine bG rfl ?_
  repeat (first|apply aj|(apply ar;rfl;(first|apply az|apply aD|apply cu|apply fW)<;>first|rfl|(apply bN;first|assumption|omega))|refine SG.skip rfl rfl ?_)
  refine bG rfl ?_
  repeat (first|apply aj|(apply ar;rfl;(first|apply az|apply aD|apply cu|apply fF)<;>first|rfl|(apply bN;first|assumption|omega))|refine SG.skip rfl rfl ?_)
  refine bG rfl ?_
  repeat (first|apply aj|(apply ar;rfl;(first|apply az|apply aD|apply dG)<;>first|rfl|(apply Ar.mk;omega)))
  refine sj (Or.inl rfl) Tryz.results190 (aC.tmp rfl) (aC.tmp rfl) (aC.tmp rfl) ?_
  exact good (Kp.refl _ _)
 ·have g4:(0:Int)<(i:Int):=by omega
  have g6:¬(u.toNat:Int)=0:=by omega
  by_cases h9':i=9
  ·have g5:(i:Int)=9:=by omega
   have g7:¬(1:Int)<(u.toNat:Int):=by omega
   repeat (first|apply aj|(apply ar;rfl;(first|apply az|apply aD|apply cG)<;>first|rfl|(apply bN;first|assumption|omega)))
   refine bG rfl ?_
   repeat (first|apply aj|(apply ar;rfl;(first|apply az|apply aD|apply bf|apply fv|apply cu|apply fF|apply fW)<;>first|rfl|(apply Ar.mk;omega)|assumption|(apply bK;first|assumption|omega)|(apply bN;first|assumption|omega)|exact List.not_mem_nil))
   refine bG rfl ?_
   repeat (first|apply aj|(apply ar;rfl;(first|apply az|apply aD|apply bf|apply fv|apply cu|apply fF|apply fW)<;>first|rfl|(apply Ar.mk;omega)|assumption|(apply bK;first|assumption|omega)|(apply bN;first|assumption|omega)|exact List.not_mem_nil))
   refine bG rfl ?_
   repeat (first|apply aj|(apply ar;rfl;(first|apply az|apply aD|apply dG)<;>first|rfl|(apply Ar.mk;omega)))
   refine sj (Or.inl rfl) Tryz.results190 (aC.tmp rfl) (aC.tmp rfl) (aC.tmp rfl) ?_
   exact good (Kp.refl _ _)
  ·have g5:¬(i:Int)=9:=by omega
   repeat (first|apply aj|(apply ar;rfl;(first|apply az|apply aD|apply cG)<;>first|rfl|(apply bN;first|assumption|omega)))
   refine bG rfl ?_
   repeat (first|apply aj|(apply ar;rfl;(first|apply az|apply aD|apply bf|apply fv|apply cu|apply fF|apply fW)<;>first|rfl|(apply Ar.mk;omega)|assumption|(apply bK;first|assumption|omega)|(apply bN;first|assumption|omega)|exact List.not_mem_nil))
   refine bG rfl ?_
   repeat (first|apply aj|(apply ar;rfl;(first|apply az|apply aD|apply cu|apply fF)<;>first|rfl|(apply bN;first|assumption|omega))|refine SG.skip rfl rfl ?_)
   refine bG rfl ?_
   repeat (first|apply aj|(apply ar;rfl;(first|apply az|apply aD|apply dG)<;>first|rfl|(apply Ar.mk;omega)))
   refine sj (Or.inl rfl) Tryz.results190 (aC.tmp rfl) (aC.tmp rfl) (aC.tmp rfl) ?_
   exact good (Kp.refl _ _)
end
section
theorem yk{α:Type}{enc:α→List Value}{sz:Nat}{w:World}{b off c j:Nat}{l:List α}(hS:Sl enc sz w (some ⟨b,off,none⟩) l)(hc:l.length≤c):Sl enc sz w (some ⟨b,if c=j then off else off+j*sz,none⟩) (l.drop j):=fun i x hx=>by
 rw[List.getElem?_drop] at hx
 have hlt:=(List.getElem?_eq_some_iff.1 hx).1
 obtain⟨b',off',h,hr⟩:=hS _ x hx
 cases h
 rw[if_neg (by omega)]
 refine⟨_,_,rfl,?_⟩
 rw[Nat.add_mul,←Nat.add_assoc] at hr
 exact hr
end
section
open Go.Proofs
def ma(l:List UInt8)(most:Nat):Int:=if ca l≠0 then ca l else if most<dH l then 2 else 0
theorem tZ{l:List UInt8}{most:Nat}(h:ma l most=0):ca l=0∧dH l≤most:=by
 unfold ma at h
 by_cases h1:ca l=0
 ·rw[if_neg (fun h=>h h1)] at h
  by_cases h2:most<dH l
  ·rw[if_pos h2] at h;cases h
  ·exact⟨h1,by omega⟩
 ·rw[if_pos h1] at h
  exact absurd h h1
theorem uq{l:List UInt8}(h:ca l=0):cU l≤l.length∧1≤cU l:=by
 have:=(look_ok h).2.1
 unfold cU
 omega
def Hq(v:Value)(at':Nat)(e:Int):List Value:=[v,.int .i64 (at':Int),.int .i64 e]
theorem mB{w:World}{b:Nat}{T:TypeId}{v:Value}{p:Nat}{e:Int}(h:aF w b (.cells (Hq v p e).toArray T)):Row w b 0 [v]∧Row w b 1 [.int .i64 (p:Int)]∧Row w b 2 [.int .i64 e]:=
 ⟨Row.of h [] [.int .i64 (p:Int),.int .i64 e] rfl rfl,Row.of h [v] [.int .i64 e] rfl rfl,Row.of h [v,.int .i64 (p:Int)] [] rfl rfl⟩
theorem xR{w:World}{base n sz:Nat}{v:Value}{T:TypeId}{xs:List Value}(ho:w.ownsRow base T sz v n xs):∀b,v.ownBlock=some b→b<w.heap.size:=by
 intro b hb
 rcases ho.2 with⟨rfl,_⟩|⟨g,cap,cur,rfl,_,hg,_⟩
 ·cases hb
 ·cases hb
  exact(Array.getElem?_eq_some_iff.1 hg).1
theorem vC{P:Program}{S:List Nat}{w0:World}{F:World→Prop}{L:Env}{d:Option Nat}{ty:TypeId}{pos:String}{af:Array Edge}{g:Option (Nat×Bool)}{T E:TypeId}[u:Ut P T (.slice E)]{sz:Nat}[f:Sz P E sz]{x lo:Operand}{a:Option Addr}{k:IntKind}(hx:ro L x=some (.slice a 0 0))(hlo:ro L lo=some (.int k ((0:Nat):Int))):
  aK P S w0 F L ⟨d,.slice T x (some lo) none none,ty,pos,af,g⟩ (.slice a 0 0):=fun w _ _=>by
 obtain⟨i,h2,h3⟩:=f.eq
 simp only[execOp,ag hx,Option.map_some,Option.map_none,ag hlo,Instr.sliceAt,Sem.run_bind,run_underlying u.eq,Result.andThen,Instr.slice,Instr.sliceBounds,Instr.sliceBound,asIntOf,Sem.run_pure]
 have h5:(0:Int)≤((0:Nat):Int)∧((0:Nat):Int)≤((0:Nat):Int):=⟨by omega,by omega⟩
 simp only[h5,and_self,if_true,Sem.run_pure,sizeOf,typeInfo,Sem.run_bind,run_program,Result.andThen,h2]
 cases a<;>simp
theorem E4{w:World}{a:Option Addr}{c:Nat}{l:List UInt8}(h:Bs w a c l){j:Nat}(hj:j≤l.length):∃a',Bs w a' (c-j) (l.drop j)∧(∀b off,a'=some ⟨b,off,none⟩→∃off',a=some ⟨b,off',none⟩)∧∀{P:Program} {E T:TypeId} [f:Sz P E 1] [u:Ut P T (.slice E)] {S:List Nat} {w0:World} {F:World→Prop} {L:Env} {d:Option Nat} {ty:TypeId} {pos:String} {af:Array Edge} {g:Option (Nat×Bool)} {x lo:Operand} {k:IntKind},ro L x=some (.slice a l.length c)→ro L lo=some (.int k (j:Int))→
  aK P S w0 F L ⟨d,.slice T x (some lo) none none,ty,pos,af,g⟩ (.slice a' (l.drop j).length (c-j)):=by
 rcases h.some with⟨rfl,rfl⟩|⟨b,off,rfl⟩|⟨rfl,rfl⟩
 rotate_right
 ·have:j=0:=by simpa using hj
  subst this
  refine⟨a,⟨Sl.nil,Nat.zero_le _,Or.inr (Or.inr ⟨rfl,rfl⟩),fun hn=>absurd rfl hn⟩,fun b off e=>⟨off,e⟩,fun hx hlo=>?_⟩
  exact vC hx hlo
 ·have:j=0:=by simpa using hj
  subst this
  refine⟨none,⟨Sl.nil,Nat.zero_le _,Or.inl ⟨rfl,rfl⟩,fun _ _ _ e=>(by cases e)⟩,fun b off e=>(by cases e),fun hx hlo=>?_⟩
  exact pr (j:=0) hx hlo (Nat.le_refl _)
 ·refine⟨some ⟨b,if c=j then off else off+j*1,none⟩,⟨yk h.sl h.len,?_,Or.inr (Or.inl ⟨_,_,rfl⟩),fun hne b2 off2 e=>?_⟩,fun b2 off2 e=>?_,fun hx hlo=>?_⟩
  ·rw[List.length_drop]
   have:=h.len
   omega
  ·cases e
   exact h.lt (fun h0=>hne (by rw[h0,List.drop_nil])) b off rfl
  ·cases e
   exact⟨off,rfl⟩
  ·rw[List.length_drop]
   exact HY hx hlo rfl ⟨hj⟩
attribute [local irreducible] CG NG SG aK aI Row aF aE aM kZ ic vk qj kR lJ Ep Dx kd fp ca dH cU bE
theorem zm{w:World}{a:Option Addr}{c bm bn:Nat}{l:List UInt8}{most v:Nat}(hS:Bs w a c l)(hl:l.length≤1000000000)(hm:aF w bm (.cells #[.int .u64 (most:Int)] 183))(hn:aF w bn (.cells #[.int .u64 (v:Int)] 183)):
  Calls Tryz.prog 189 #[.slice a l.length c,.pointer (some ⟨bm,0,none⟩),.pointer (some ⟨bn,0,none⟩)] w (fun e w'=>e= .returned (.tuple #[.int .i64 (if ma l most=0 then(cU l:Int) else 0),.int .i64 (ma l most)])∧Kp [bn] w w'∧aF w' bn (.cells #[.int .u64 ((if ma l most=0 then dH l else v:Nat):Int)] 183)):=by
 refine fL (args:=[.slice a l.length c,.pointer (some ⟨bm,0,none⟩),.pointer (some ⟨bn,0,none⟩)]) Tryz.func189 rfl Tryz.ntmps189 rfl ?_
 have hfin:∀{z:Int} {w':World},Kp [] w w'→ma l most=z→z≠0→(Ending.returned (.tuple #[.int .i64 0,.int .i64 z])= .returned (.tuple #[.int .i64 (if ma l most=0 then(cU l:Int) else 0),.int .i64 (ma l most)])∧Kp [bn] w w'∧aF w' bn (.cells #[.int .u64 ((if ma l most=0 then dH l else v:Nat):Int)] 183)):=fun hk e hz=>⟨by rw[e,if_neg hz],hk.any,by rw[e,if_neg hz];exact hn.ay hk⟩
 have hlk:=zt hS hl
 repeat (first|apply aj|(apply ar;rfl;(first|apply az|apply aD)<;>rfl))
 refine SG.ret rfl rfl rfl (vs:=[.slice a l.length c]) (bz.of rfl) hlk (fun w1 hk1=>?_)
 by_cases h1:ca l=0
 rotate_left
 ·have e:ma l most=ca l:=if_pos h1
  rw[if_neg h1,if_neg h1]
  generalize ca l=z at h1 e
  repeat (first|apply aj|(apply ar;rfl;(first|apply az|apply aD|apply dK|apply dA)<;>first|rfl|(apply bN;first|assumption|omega)))
  refine bL rfl ?_
  repeat (first|apply aj|(apply ar;rfl;(first|apply az|apply aD)<;>rfl))
  refine dJ (Or.inl rfl) Tryz.results189 (aC.tmp rfl) (aC.tmp rfl) ?_
  exact hfin hk1 e h1
 rw[if_pos h1,if_pos h1,h1]
 have hN:=uo h1
 have h00:(0:Int)=0:=rfl
 have hrm:Row w1 bm 0 [.int .u64 (most:Int)]:=(Row.all (l:=[.int .u64 (most:Int)]) hm rfl).ay hk1
 by_cases h2:most<dH l
 ·have e:ma l most=2:=by
   unfold ma
   rw[if_neg (fun h=>h h1),if_pos h2]
  have g2:(most:Int)<(dH l:Int):=by omega
  clear hlk hN
  generalize dH l=x at g2 hfin
  repeat (first|apply aj|(apply ar;rfl;(first|apply az|apply aD|apply dK|apply dA)<;>first|rfl|(apply bK;first|assumption|omega)))
  refine bG rfl ?_
  repeat (first|apply aj|(apply ar;rfl;(first|apply az|apply aD|apply bf|apply fW)<;>first|rfl|assumption|(apply bK;first|assumption|omega)|exact List.not_mem_nil))
  refine bL rfl ?_
  repeat (first|apply aj|(apply ar;rfl;apply aD<;>rfl))
  refine dJ (Or.inl rfl) Tryz.results189 (aC.tmp rfl) (aC.tmp rfl) ?_
  exact hfin hk1 e (by decide)
 ·have e:ma l most=0:=by
   unfold ma
   rw[if_neg (fun h=>h h1),if_neg h2]
  have g2:¬(most:Int)<(dH l:Int):=by omega
  rw[e,if_pos rfl,if_pos rfl]
  clear hlk hN hfin
  generalize dH l=x at g2
  generalize cU l=k
  repeat (first|apply aj|(apply ar;rfl;(first|apply az|apply aD|apply dK|apply dA)<;>first|rfl|(apply bK;first|assumption|omega)))
  refine bG rfl ?_
  repeat (first|apply aj|(apply ar;rfl;(first|apply az|apply aD|apply bf|apply fW)<;>first|rfl|assumption|(apply bN;first|assumption|omega)|exact List.not_mem_nil))
  refine bG rfl ?_
  repeat (first|apply aj|(apply ar;rfl;apply az<;>rfl))
  refine SG.kD rfl rfl (ag rfl) (ag rfl) (hn.ay hk1) rfl rfl (fun w2 hk2 hB2=>?_)
  repeat (first|apply aj|(apply ar;rfl;(first|apply az|apply aD)<;>rfl))
  refine dJ (Or.inl rfl) Tryz.results189 (aC.tmp rfl) (aC.tmp rfl) ?_
  exact⟨rfl,hk1.any.trans hk2,hB2⟩
def Ds(l:List UInt8)(p:Nat)(e:Int)(most:Nat):Nat:=if e=0∧ma (l.drop p) most=0 then dH (l.drop p) else 0
def vS(l:List UInt8)(p:Nat)(e:Int)(most:Nat):Nat:=if e=0∧ma (l.drop p) most=0 then p+cU (l.drop p) else p
def xK(l:List UInt8)(p:Nat)(e:Int)(most:Nat):Int:=if e=0 then ma (l.drop p) most else e
theorem E5{w:World}{a b:Nat}{cs ds:Array Value}{T T':TypeId}(ha:aF w a (.cells cs T))(hb:aF w b (.cells ds T'))(hT:T≠T'):a≠b:=fun e=>by
 rw[e] at ha
 have:=ha.uniq hb
 simp only[Obj.cells.injEq] at this
 exact hT this.2.1
theorem y9{w:World}{a:Option Addr}{br c bm bn p:Nat}{e:Int}{l:List UInt8}{most v:Nat}(hB:aF w br (.cells (Hq (.slice a l.length c) p e).toArray 293))(hS:Bs w a c l)(hp:p≤l.length)(hl:l.length≤1000000000)(hm:aF w bm (.cells #[.int .u64 (most:Int)] 183))(hn:aF w bn (.cells #[.int .u64 (v:Int)] 183))(hab:∀b off,a=some ⟨b,off,none⟩→b≠br)(hab2:∀b off,a=some ⟨b,off,none⟩→b≠bn)(hmn:bm≠bn):
  Calls Tryz.prog 188 #[.pointer (some ⟨br,0,none⟩),j8 189 [.pointer (some ⟨bm,0,none⟩),.pointer (some ⟨bn,0,none⟩)]] w (fun e' w'=>e'= .returned (.tuple #[])∧Kp [br,bn] w w'∧aF w' br (.cells (Hq (.slice a l.length c) (vS l p e most) (xK l p e most)).toArray 293)∧aF w' bn (.cells #[.int .u64 ((if e=0∧ma (l.drop p) most=0 then dH (l.drop p) else v:Nat):Int)] 183)):=by
 refine bJ Tryz.func188 rfl Tryz.ntmps188 rfl ?_
 have hne:br≠bn:=E5 hB hn (by decide)
 obtain⟨r0,r1,r2⟩:=mB hB
 by_cases he:e=0
 rotate_left
 ·repeat (first|apply aj|(apply ar;rfl;(first|apply iC|apply az|apply bf|apply aW|apply bM|apply cu|apply dK)<;>first|rfl|assumption|(apply bN;first|assumption|omega)|exact List.not_mem_nil))
  refine bL rfl ?_
  repeat apply aj
  refine nF (Or.inl rfl) Tryz.results188 ?_
  refine⟨rfl,Kp.refl _ _,?_,?_⟩
  ·unfold vS xK
   rw[if_neg (fun h=>he h.1),if_neg he]
   exact hB
  ·rw[if_neg (fun h=>he h.1)]
   exact hn
 subst he
 have h00:(0:Int)=0:=rfl
 obtain⟨a',hS',hda,hdrop⟩:=E4 hS hp
 have hld:(l.drop p).length≤1000000000:=by rw[List.length_drop];omega
 have hpi:Ar (p≤9223372036854775807):=⟨by omega⟩
 repeat (first|apply aj|(apply ar;rfl;(first|apply iC|apply az|apply bf|apply aW|apply bM|apply cu|apply dK)<;>first|rfl|assumption|(apply bK;first|assumption|omega)|exact List.not_mem_nil))
 refine bG rfl ?_
 repeat apply aj
 refine CG.draw mixed [0,1,2,3,4,5,6,7,8,9,10,11,12,13,14,15] [10] [] [bn] (fun w'=>aF w' bn (.cells #[.int .u64 (v:Int)] 183)) (by kernel_rfl) (by simpa using hn.lt) (by simp) hn (fun w w' hk h=>h.ay hk) (Or.inl rfl) ?_
 repeat (apply bZ;rfl;rfl;(first|apply az|apply bf|apply aW|apply bM)<;>first|rfl|assumption|(apply bP;omega))
 refine aI.val rfl rfl rfl (hdrop rfl rfl) ?_
 refine aI.G1 (X:=Unit) (vs:=[.slice a' (l.drop p).length (c-p)]) (caps:=[.pointer (some ⟨bm,0,none⟩),.pointer (some ⟨bn,0,none⟩)]) (fun _=> .tuple #[.int .i64 (if ma (l.drop p) most=0 then(cU (l.drop p):Int) else 0),.int .i64 (ma (l.drop p) most)]) (fun _ _=>True) (fun _ w'=>aF w' bn (.cells #[.int .u64 ((if ma (l.drop p) most=0 then dH (l.drop p) else v:Nat):Int)] 183)) rfl rfl rfl rfl rfl (bz.of rfl) (fun _ _ _ _ h=>h) (fun _ _ _ hk h=>h.ay hk) (fun _ _ _ h=>h) (fun W hk _ hR=>(zm (hS'.kp hk (fun b off e=>by
  obtain⟨off',e'⟩:=hda b off e
  exact bP (hab2 b off' e'))) hld (hm.kp hk (bP hmn)) hR).mono (fun e' w' ⟨h1,h2,h3⟩=>⟨(),h1,trivial,h3,h2⟩)) (fun _=>?_)
 generalize hz:ma (l.drop p) most=z
 repeat (apply bZ;rfl;rfl;(first|apply az|apply aD|apply dA)<;>rfl)
 refine aI.fin (fun w1 hk1 _ hR=>?_)
 have hB1:=hB.kp hk1 (bP hne)
 have hB1:aF w1 br (.cells (Hq (.slice a l.length c) p 0).toArray 293):=hB1
 clear r0 r1 r2 hdrop
 by_cases h0:z=0
 rotate_left
 ·rw[if_neg h0]
  rw[if_neg h0] at hR
  repeat (first|apply aj|(apply ar;rfl;(first|apply az|apply dK)<;>first|rfl|(apply bN;first|assumption|omega)))
  refine bL rfl ?_
  repeat (first|apply aj|(apply ar;rfl;(first|apply az|apply aW|apply bM)<;>rfl))
  refine SG.cr (pre:=[.slice a l.length c,.int .i64 (p:Int)]) (old:=[.int .i64 0]) (post:=[]) rfl rfl (ag rfl) (ag rfl) hB1 rfl rfl rfl rfl rfl (fun w2 hk2 hB2=>?_)
  repeat apply aj
  refine nF (Or.inl rfl) Tryz.results188 ?_
  refine⟨rfl,(hk1.mono (by simp)).trans (hk2.mono (by simp)),?_,?_⟩
  ·unfold vS xK
   rw[if_neg (fun h=>h0 (by rw[←hz];exact h.2)),if_pos rfl,hz]
   exact hB2
  ·rw[if_neg (fun h=>h0 h.2)]
   exact hR.kp hk2 (bP (fun e=>hne e.symm))
 ·subst h0
  rw[if_pos rfl]
  rw[if_pos rfl] at hR
  obtain⟨hl0,hl1⟩:=tZ hz
  have hk0:=uq hl0
  rw[List.length_drop] at hk0
  obtain⟨-,r1,-⟩:=mB hB1
  generalize hkk:cU (l.drop p)=kk at hk0
  repeat (first|apply aj|(apply ar;rfl;(first|apply az|apply dK)<;>first|rfl|(apply bK;first|assumption|omega)))
  refine bG rfl ?_
  repeat (first|apply aj|(apply ar;rfl;(first|apply az|apply bf|apply aW|apply bM|apply dG)<;>first|rfl|(apply Ar.mk;omega)|assumption|exact List.not_mem_nil))
  refine SG.cr (pre:=[.slice a l.length c]) (old:=[.int .i64 (p:Int)]) (post:=[.int .i64 0]) rfl rfl (ag rfl) (ag rfl) hB1 rfl rfl rfl rfl rfl (fun w2 hk2 hB2=>?_)
  repeat apply aj
  refine nF (Or.inr rfl) Tryz.results188 ?_
  refine⟨rfl,(hk1.mono (by simp)).trans (hk2.mono (by simp)),?_,?_⟩
  ·unfold vS xK
   rw[if_pos ⟨rfl,hz⟩,if_pos rfl,hz,hkk]
   exact hB2
  ·rw[if_pos ⟨rfl,rfl⟩]
   exact hR.kp hk2 (bP (fun e=>hne e.symm))
structure Dm(w:World)(br:Nat)(a:Option Addr)(c:Nat)(l:List UInt8)(p:Nat)(e:Int):Prop where
 blk:aF w br (.cells (Hq (.slice a l.length c) p e).toArray 293)
 bs:Bs w a c l
 le:p≤l.length
 ne:∀b off,a=some ⟨b,off,none⟩→b≠br
 lt:∀b off,a=some ⟨b,off,none⟩→b<w.heap.size
theorem Gb{l:List UInt8}{p:Nat}{e:Int}{most:Nat}(h:p≤l.length):vS l p e most≤l.length:=by
 unfold vS
 split
 ·rename_i h2
  have h3:=uq (tZ h2.2).1
  rw[List.length_drop] at h3
  omega
 ·exact h
theorem BK{w:World}{a:Option Addr}{br c p:Nat}{e:Int}{l:List UInt8}(h:Dm w br a c l p e)(hl:l.length≤1000000000)(most:Nat):
  Calls Tryz.prog 168 #[.pointer (some ⟨br,0,none⟩),.int .u64 (most:Int)] w (fun e' w'=>e'= .returned (.int .u64 (Ds l p e most:Int))∧Kp [br] w w'∧Dm w' br a c l (vS l p e most) (xK l p e most)):=by
 refine bJ Tryz.func168 rfl Tryz.ntmps168 rfl ?_
 have lb:=h.blk.lt
 repeat apply aj
 refine SG.box rfl rfl rfl (ag rfl) (fun bm w1 hk1 hbm hM=>?_)
 have lm:=hM.lt
 repeat (first|apply aj|(apply ar;rfl;apply aD<;>rfl))
 refine SG.alloc rfl rfl rfl (fun bn w2 hk2 hbn hN=>?_)
 have hM:aF w2 bm (.cells #[.int .u64 (most:Int)] 183):=hM.ay hk2
 have hN:aF w2 bn (.cells #[.int .u64 ((0:Nat):Int)] 183):=hN
 have s1:=hk1.size
 have k2:=hk1.trans hk2
 have hmn:bm≠bn:=by omega
 have hv:(if e=0∧ma (l.drop p) most=0 then dH (l.drop p) else 0:Nat)=Ds l p e most:=rfl
 repeat (first|apply aj|(apply ar;rfl;apply az<;>rfl))
 refine SG.val rfl rfl rfl rfl (Ht (vs:=[.pointer (some ⟨bm,0,none⟩),.pointer (some ⟨bn,0,none⟩)]) rfl) ?_
 refine SG.call rfl rfl rfl (vs:=[.pointer (some ⟨br,0,none⟩),j8 189 [.pointer (some ⟨bm,0,none⟩),.pointer (some ⟨bn,0,none⟩)]]) (bz.of rfl) ((y9 (most:=most) (v:=0) (h.blk.ay k2) ((h.bs).kp k2 (fun _ _ _=>List.not_mem_nil)) h.le hl hM hN h.ne (fun b off e'=>by have:=h.lt b off e';omega) hmn).mono (fun e' w3 hh=>?_))
 obtain⟨he,hk3,hB3,hN3⟩:=hh
 refine⟨_,he,?_⟩
 clear he
 rw[hv] at hN3
 have hR5:Row w3 bn 0 [.int .u64 (Ds l p e most:Int)]:=Row.all (l:=[.int .u64 (Ds l p e most:Int)]) hN3 rfl
 generalize Ds l p e most=v at hR5 hN3 hv
 repeat (first|apply aj|(apply ar;rfl;(first|apply aD|apply bf)<;>first|rfl|assumption|exact List.not_mem_nil))
 refine aO (Or.inl rfl) Tryz.results168 (aC.tmp rfl) ?_
 have k3:Kp [br] w w3:=k2.any.ai hk3 (fun x hx=>by
  simp only[List.mem_cons,List.not_mem_nil,or_false] at hx
  rcases hx with rfl|rfl
  ·exact Or.inl (List.mem_singleton.2 rfl)
  ·exact Or.inr (by omega))
 exact⟨rfl,k3,hB3,h.bs.kp k3 (fun b off e'=>bP (h.ne b off e')),Gb h.le,h.ne,fun b off e'=>Nat.lt_of_lt_of_le (h.lt b off e') k3.size⟩
theorem zI{w:World}{a:Option Addr}{br c p:Nat}{e:Int}{l:List UInt8}(h:Dm w br a c l p e)(hl:l.length≤1000000000):
  dz Tryz.prog 169 #[.pointer (some ⟨br,0,none⟩)] w (.int .i64 (if e≠0 then e else if p<l.length then 5 else 0)):=by
 have err:∀W,Kp [] w W→dz Tryz.prog 191 #[.pointer (some ⟨br,0,none⟩)] W (.int .i64 e):=fun W hk=>by
  refine bA Tryz.func191 rfl Tryz.ntmps191 rfl ?_
  obtain⟨-,-,r2⟩:=mB (h.blk.ay hk)
  repeat (first|apply aj|(apply ar;rfl;(first|apply iC|apply az|apply aD)<;>rfl))
  refine bG rfl ?_
  repeat (first|apply aj|(apply ar;rfl;(first|apply az|apply aD|apply bf|apply aW|apply bM)<;>first|rfl|assumption|exact List.not_mem_nil))
  refine aO (Or.inl rfl) Tryz.results191 (aC.tmp rfl) ?_
  exact⟨rfl,Kp.refl _ _⟩
 have left:∀W,Kp [] w W→dz Tryz.prog 192 #[.pointer (some ⟨br,0,none⟩)] W (.int .i64 ((l.length:Int)-(p:Int))):=fun W hk=>by
  refine bA Tryz.func192 rfl Tryz.ntmps192 rfl ?_
  obtain⟨r0,r1,-⟩:=mB (h.blk.ay hk)
  have hp:=h.le
  repeat (first|apply aj|(apply ar;rfl;(first|apply iC|apply az|apply aD)<;>rfl))
  refine bG rfl ?_
  repeat apply aj
  refine CG.eQ mixed [0,1,2,3,4,5,6,7,8,9,10] [] (by kernel_rfl) ?_
  repeat (apply bZ;rfl;rfl;(first|apply az|apply aD|apply bf|apply aW|apply bM|apply dy|apply xL)<;>first|rfl|(apply Ar.mk;omega)|assumption|exact List.not_mem_nil)
  refine aI.fin (fun w1 hk1 _ _=>?_)
  repeat apply aj
  refine aO (Or.inl rfl) Tryz.results192 (aC.tmp rfl) ?_
  exact⟨rfl,hk1⟩
 refine bA Tryz.func169 rfl Tryz.ntmps169 rfl ?_
 have hp:=h.le
 repeat (first|apply aj|(apply ar;rfl;(first|apply az|apply aD)<;>rfl))
 refine SG.ret rfl rfl rfl (vs:=[.pointer (some ⟨br,0,none⟩)]) (bz.of rfl) (err w (Kp.refl _ _)) (fun w1 hk1=>?_)
 by_cases he:e=0
 rotate_left
 ·rw[if_pos he]
  repeat (first|apply aj|(apply ar;rfl;(first|apply aD|apply dK)<;>first|rfl|(apply bN;first|assumption|omega)))
  refine bL rfl ?_
  repeat (first|apply aj|(apply ar;rfl;apply az<;>rfl))
  refine SG.ret rfl rfl rfl (vs:=[.pointer (some ⟨br,0,none⟩)]) (bz.of rfl) (err w1 hk1) (fun w2 hk2=>?_)
  repeat (first|apply aj|(apply ar;rfl;apply aD<;>rfl))
  refine aO (Or.inl rfl) Tryz.results169 (aC.tmp rfl) ?_
  exact⟨rfl,hk1.trans hk2⟩
 rw[if_neg (fun h=>h he)]
 repeat (first|apply aj|(apply ar;rfl;(first|apply aD|apply dK)<;>first|rfl|(apply bK;first|assumption|omega)))
 refine bG rfl ?_
 repeat (first|apply aj|(apply ar;rfl;apply az<;>rfl))
 refine SG.ret rfl rfl rfl (vs:=[.pointer (some ⟨br,0,none⟩)]) (bz.of rfl) (left w1 hk1) (fun w2 hk2=>?_)
 by_cases hlt:p<l.length
 ·have g1:(0:Int)<(l.length:Int)-(p:Int):=by omega
  rw[if_pos hlt]
  repeat (first|apply aj|(apply ar;rfl;(first|apply aD|apply fW)<;>first|rfl|(apply bK;first|assumption|omega)))
  refine bL rfl ?_
  repeat (first|apply aj|(apply ar;rfl;apply aD<;>rfl))
  refine aO (Or.inl rfl) Tryz.results169 (aC.tmp rfl) ?_
  exact⟨rfl,hk1.trans hk2⟩
 ·have g1:¬(0:Int)<(l.length:Int)-(p:Int):=by omega
  rw[if_neg hlt]
  repeat (first|apply aj|(apply ar;rfl;(first|apply aD|apply fW)<;>first|rfl|(apply bN;first|assumption|omega)))
  refine bG rfl ?_
  repeat (first|apply aj|(apply ar;rfl;apply aD<;>rfl))
  refine aO (Or.inl rfl) Tryz.results169 (aC.tmp rfl) ?_
  exact⟨rfl,hk1.trans hk2⟩
theorem TA(a:Option Addr)(n c:Nat)(w:World):(Instr.build 293 #[(0,.slice a n c)]).run Tryz.prog w= .ok (.agg (Hq (.slice a n c) 0 0).toArray) w:=by kernel_rfl
theorem wq{w:World}{a:Option Addr}{c:Nat}{l:List UInt8}(hS:Bs w a c l)(hl:l.length≤100000000):
  Calls Tryz.prog 167 #[.slice a l.length c] w (fun e' w'=>∃br a' c',e'= .returned (.pointer (some ⟨br,0,none⟩))∧Kp [] w w'∧w.heap.size≤br∧Dm w' br a' c' l 0 0):=by
 refine bA Tryz.func167 rfl Tryz.ntmps167 rfl ?_
 repeat (first|apply aj|(apply ar;rfl;(first|apply az|apply aD)<;>rfl))
 refine SG.call rfl rfl rfl (vs:=[.slice a l.length c,.int .i64 ((0:Nat):Int)]) (bz.of rfl) ((lR (c:=c) hS.sl 0 (by omega)).mono (fun e w1 hh=>?_))
 obtain⟨v,he,ho,hk1⟩:=hh
 refine⟨_,he,?_⟩
 clear he
 obtain⟨a',c',rfl,hB⟩:=Bs.own ho
 refine SG.val rfl rfl rfl rfl (aG rfl (TA a' l.length c')) ?_
 refine SG.box rfl rfl rfl (ag rfl) (fun br w2 hk2 hbr hB2=>?_)
 repeat (first|apply aj|(apply ar;rfl;apply aD<;>rfl))
 refine aO (Or.inl rfl) Tryz.results167 (aC.tmp rfl) ?_
 refine⟨br,a',c',rfl,hk1.trans hk2,by have:=hk1.size;omega,hB2,hB.kp hk2 (fun _ _ _=>List.not_mem_nil),Nat.zero_le _,fun b off e=>?_,fun b off e=>?_⟩
 ·have:=xR ho b (by subst e;rfl)
  omega
 ·have:=xR ho b (by subst e;rfl)
  have:=hk2.size
  omega
end
section
section
variable {P:Program} {n:Nat} {ops:List Oper} {Q:Exit→Act→World→Prop} {S:List Nat×Nat} {w0:World} {L:Env} {G:List (Nat×GD)} {K:Env→List Fact→Prop} {Γ:List Fact} {i:Nat} {ord:List Nat} {ty:TypeId} {pos:String} {af:Array Edge} {g:Option (Nat×Bool)}
def gB(m:Nat)(E:TypeId)(k:Nat)(cs:Array Value):GD:=⟨Nat,0,fun b=> .slice (some ⟨b,0,none⟩) k k,fun b w=>m≤b∧aF w b (.cells cs E)⟩
def gW(m:Nat)(E:TypeId)(k:Nat)(cs:Array Value)(mk:Value→Value):GD:=⟨Nat,0,fun b=>mk (.slice (some ⟨b,0,none⟩) k k),fun b w=>m≤b∧aF w b (.cells cs E)⟩
theorem bE.HC{d:Nat}{op:Op}{v:Value}(D:GD)(x:D.X)(hg:ew G i=some D)(ho:ops[i]?=some ⟨some d,op,ty,pos,af,g⟩)(hw:want ops L ⟨some d,op,ty,pos,af,g⟩=some true)(hk:op.operands.toList.all (known L)=true)
  (hv:aK P S.1 w0 (fk ops i Γ) L ⟨some d,op,ty,pos,af,g⟩ v) (hx:v=D.val x) (hphi:∀w,Kp S.1 w0 w→fk ops i Γ w→D.phi x w)
  (h:∀x,bE P S w0 ops G K ord ((d,D.val x)::L) ((i,D.phi x)::Γ)):bE P S w0 ops G K (i::ord) L Γ:=by
 refine bE.Hy D hg ho hw hk (fun w h1 h2=>?_) h
 unfold bh
 rw[hv w h1 h2]
 exact⟨x,hx,hphi w h1 h2,Kp.refl _ _⟩
def gA(m:Nat)(T:TypeId)(cs:Array Value):GD:=⟨Nat,0,fun b=> .pointer (some ⟨b,0,none⟩),fun b w=>m≤b∧aF w b (.cells cs T)⟩
end
section
variable {P:Program} {S:List Nat} {w0:World} {F:World→Prop} {L:Env} {d:Option Nat} {ty:TypeId} {pos:String} {af:Array Edge} {g:Option (Nat×Bool)}
end
end
section
section
variable {P:Program} {n:Nat} {ops:List Oper} {Q:Exit→Act→World→Prop} {S:List Nat×Nat} {w0:World} {L:Env} {G:List (Nat×GD)} {K:Env→List Fact→Prop} {Γ:List Fact} {i:Nat} {ord:List Nat} {ty:TypeId} {pos:String} {af:Array Edge} {g:Option (Nat×Bool)}
def gT(l:List UInt8)(mk:Value→Value):GD:=⟨Nat×Nat,(0,0),fun q=>mk (.slice (some ⟨q.1,0,none⟩) l.length q.2),fun q w=>Sl (fun u:UInt8=>[bv u]) 1 w (some ⟨q.1,0,none⟩) l⟩
def Ui{α:Type}(m:Nat)(E:TypeId)(enc:α→List Value)(sz:Nat)(l:List α)(mk:Value→Value):GD:=⟨Value,undef,mk,fun v w=>w.ownsRow m E sz v l.length (bO enc l)⟩
end
end
section
section
variable {P:Program} {n:Nat} {ops:List Oper} {Q:Exit→Act→World→Prop} {S:List Nat×Nat} {w0:World} {L:Env} {G:List (Nat×GD)} {K:Env→List Fact→Prop} {Γ:List Fact} {i:Nat} {ord:List Nat} {ty:TypeId} {pos:String} {af:Array Edge} {g:Option (Nat×Bool)}
theorem pR{q:GD→Prop}{i:Nat}(h0:q GD.none):∀{G:List (Nat×GD)},(∀p∈G,p.1≠i→q p.2)→∀j,j≠i→q (bX G j)
 |[],_,j,_=>h0
 |(k,D)::G,h,j,hj=>by
  unfold bX
  simp only[ew]
  by_cases e:k=j
  ·subst e
   simp
   exact h _ List.mem_cons_self hj
  ·have h1:Nat.beq k j=false:=by rw[←Bool.not_eq_true,Nat.beq_eq];exact e
   rw[h1]
   exact pR h0 (fun p hp=>h p (List.mem_cons_of_mem _ hp)) j hj
def gV(m:Nat)(T:TypeId)(k:Nat):GD:=⟨Nat,0,fun b=> .pointer (some ⟨b,0,none⟩),fun b w=>m≤b∧∃cs,aF w b (.cells cs T)∧cs.size=k⟩
theorem o9{m:Nat}{T:TypeId}{k:Nat}(x:(gV m T k).X):cm [] ((gV m T k).phi x):=fun w w' hk ⟨h1,cs,h2,h3⟩=>⟨h1,cs,h2.ay hk,h3⟩
theorem bE.td{m d k:Nat}{T:TypeId}{inf:TypeInfo}[f:dp P T inf]{z:Value}(hz:inf.zero=some z)(hzs:Nat.beq z.cells.size k=true)(hg:ew G i=some (gV m T k))
  (ho:ops[i]?=some ⟨some d,.alloc T,ty,pos,af,g⟩) (hw:want ops L ⟨some d,.alloc T,ty,pos,af,g⟩=some true) (hm:m≤w0.heap.size)
  (h:∀b:Nat,bE P S w0 ops G K ord ((d,.pointer (some ⟨b,0,none⟩))::L) ((i,fun w=>m≤b∧∃cs,aF w b (.cells cs T)∧cs.size=k)::Γ)):bE P S w0 ops G K (i::ord) L Γ:=by
 refine bE.Hy (gV m T k) hg ho hw (by simp[Op.operands]) (fun w h1 h2=>?_) h
 unfold bh
 have:(execOp (bB L) ⟨some d,.alloc T,ty,pos,af,g⟩).run P w= .ok (.value (.pointer (some ⟨w.heap.size,0,none⟩))) {w with heap:=w.heap.push (.cells z.cells T)}:=by
  simp[execOp,nD hz,Result.andThen]
 rw[this]
 exact⟨w.heap.size,rfl,⟨Nat.le_trans hm h1.size,_,aF.push w _,Nat.eq_of_beq_eq_true hzs⟩,Kp.push w _ rfl⟩
theorem pa{m b k:Nat}{T:TypeId}{y:Nat}{w w':World}{l:List Value}(hl:l.length=k)(hk:Kp [b] w w')(hb:aF w' b (.cells l.toArray T))(h:(gV m T k).phi y w):(gV m T k).phi y w':=by
 obtain⟨h1,cs,h2,h3⟩:=h
 by_cases e:y=b
 ·subst e
  exact⟨h1,_,hb,by simpa using hl⟩
 ·exact⟨h1,cs,h2.kp hk (bP e),h3⟩
def gP(m:Nat)(T:TypeId):GD:=⟨Nat×Array Value,(0,#[]),fun _=>undef,fun q w=>m≤q.1∧aF w q.1 (.cells q.2 T)⟩
theorem pc{m:Nat}{T:TypeId}(x:(gP m T).X):cm [] ((gP m T).phi x):=fun w w' hk h=>⟨h.1,h.2.ay hk⟩
def Jj{α:Type}(m:Nat)(E:TypeId)(enc:α→List Value)(sz:Nat)(l:List α)(mk:Value→Value):GD:=⟨Option Addr×Nat,(none,0),fun q=>mk (.slice q.1 l.length q.2),fun q w=>w.ownsRow m E sz (.slice q.1 l.length q.2) l.length (bO enc l)⟩
theorem Ch{α:Type}{m:Nat}{E:TypeId}{enc:α→List Value}{sz:Nat}{l:List α}{mk:Value→Value}(x:(Jj m E enc sz l mk).X):cm [] ((Jj m E enc sz l mk).phi x):=fun w w' hk h=>aT h hk
end
end
section
def Room(e:TypeId)(w:World)(v v':Value)(n m:Nat):Prop:=∃g cap cur,v= .slice (some ⟨g,0,none⟩) n cap∧aF w g (.cells cur e)∧n+m≤cap∧v'= .slice (some ⟨g,0,none⟩) (n+m) cap
theorem tU{P:Program}{w:World}{base:Nat}{t ty e:TypeId}{i:TypeInfo}[u:Ut P t (.slice e)][f:dp P e i]{z:Value}(hz:i.zero=some z)(hzs:z.cells.size=i.size)(hsz:0<i.size)
  {v:Value} {n:Nat} {xs:List Value} (hown:w.ownsRow base e i.size v n xs) {b off m c:Nat} {news:List Value} (hl:news.length=m*i.size) (hr:Row w b off news) (h1:bF news=true) (hm:0<m)
  (h63:n+m≤maxLen) (hbytes:(n+m)*i.bytes≤140737488355328) (hbase:base≤w.heap.size):
  ∃v' w',(Builtin.append_ #[t,t] ty #[v,.slice (some ⟨b,off,none⟩) m c]).run P w= .ok v' w'∧w'.ownsRow base e i.size v' (n+m) (xs++news)∧Kp (aP v) w w'∧(Kp [] w w'∨Room e w v v' n m):=by
 obtain⟨v',w',hrun,hown',hkp⟩:=fb (P:=P) (ty:=ty) (d:= .bool) (c:=c) (u:=u) (f:=f) hz hzs hsz hown hl hr h1 h63 hbytes hbase
 refine⟨v',w',hrun,hown',hkp,?_⟩
 have hnews:∀j u,news[j]?=some u→w.cell? ((⟨b,off,none⟩:Addr).add j)=some u:=fun j u hu=>by rw[dd];exact hr.cell hu
 have h1':∀u∈news,u.oneCell'=true:=fun u hu=>by rw[mI];exact List.all_eq_true.1 h1 u hu
 rcases hown.2 with⟨rfl,rfl⟩|⟨g,cap,cur,rfl,hbg,hg,hnc,hcm,hcs,htake⟩
 ·exact Or.inl (by simpa[aP,Value.ownBlock] using hkp)
 ·by_cases hroom:n+m≤cap
  ·have hfit:n*i.size+news.length≤cur.size:=by rw[hl,hcs,←Nat.add_mul];exact Nat.mul_le_mul_right _ hroom
   have hr2:=run_append_room (P:=P) w t ty e i u.eq f.eq g n cap cur hg ⟨b,off,none⟩ m c news hl hnews h1' hroom hfit
   rw[hr2] at hrun
   cases hrun
   exact Or.inr ⟨g,cap,cur,rfl,hg,hroom,rfl⟩
  ·have holds:∀j u,xs[j]?=some u→w.cell? ((⟨g,0,none⟩:Addr).add j)=some u:=hown.cells (g:=g) rfl
   have hr2:=run_append_grow (P:=P) w t ty e i z u.eq f.eq hz ⟨g,0,none⟩ n cap xs hown.1 holds ⟨b,off,none⟩ m c news hl hnews (by omega) (by simp only[maxLen] at h63;omega) (growslice_fits (by omega) hbytes)
   rw[hr2] at hrun
   cases hrun
   exact Or.inl (Kp.alloc_drew w _ rfl)
section
variable {w w':World} {base n m sz:Nat} {e:TypeId} {v v':Value} {xs news:List Value}
end
end
section
theorem aH{v:Value}{z:Nat}(hz:z∈aP v):v.ownBlock=some z:=by
 unfold aP at hz
 split at hz
 ·rename_i b hb
  rw[List.mem_singleton] at hz
  rw[hb,hz]
 ·cases hz
end
section
section
variable {α:Type} {enc:α→List Value} {sz:Nat}
theorem yg(he:∀x,(enc x).length=sz)(l:List α)(k:Nat)(hk:k<l.length)(x:α)(pre post:List Value):jd (pre++(bO enc l++post)) (pre.length+k*sz) (enc x)=pre++(bO enc (l.set k x)++post):=by
 have h1:pre++(bO enc l++post)=(pre++bO enc (l.take k))++(enc l[k]++(bO enc (l.drop (k+1))++post)):=by rw[rz l k hk];simp
 have h2:(pre++bO enc (l.take k)).length=pre.length+k*sz:=by
  rw[List.length_append,bY he,List.length_take,Nat.min_eq_left (by omega)]
 rw[h1,←h2,mu (by simp[he])]
 rw[List.set_eq_take_append_cons_drop,if_pos hk]
 simp[bO]
theorem kE{w:World}{base n:Nat}{T:TypeId}{v:Value}{xs:List Value}(ho:w.ownsRow base T sz v n xs)(hn:0<n):∃g cap,v= .slice (some ⟨g,0,none⟩) n cap∧n≤cap:=by
 rcases ho.2 with⟨_,h⟩|⟨g,cap,cur,h,_,_,h2,_⟩
 ·omega
 ·exact⟨g,cap,h,h2⟩
theorem sq{w:World}{base cap g:Nat}{T:TypeId}{l:List α}{n:Nat}(he:∀x,(enc x).length=sz)(ho:w.ownsRow base T sz (.slice (some ⟨g,0,none⟩) n cap) n (bO enc l))(hn:l.length=n){k:Nat}(hk:k<l.length):Row w g (0+k*sz) (enc l[k]):=by
 obtain⟨a,c,h1,_,hS⟩:=Sl.own he ho hn
 cases h1
 exact hS.row (List.getElem?_eq_getElem hk)
theorem zj{P:Program}{w:World}{base cap g n:Nat}{T:TypeId}{inf:TypeInfo}[f:dp P T inf]{l:List α}(he:∀x,(enc x).length=inf.size)(hone:∀x,bF (enc x)=true)(ho:w.ownsRow base T inf.size (.slice (some ⟨g,0,none⟩) n cap) n (bO enc l))(hn:l.length=n){k:Nat}(hk:k<l.length)(x:α):
  ∃w',(Instr.storeAt T (.pointer (some ⟨g,0+k*inf.size,none⟩)) (.agg (enc x).toArray)).run P w= .ok () w'∧w'.ownsRow base T inf.size (.slice (some ⟨g,0,none⟩) n cap) n (bO enc (l.set k x))∧Kp [g] w w':=by
 rcases ho with⟨h1,⟨h2,_⟩|⟨g',cap',cur,h2,hb,hg,hc1,hc2,hc3,hc4⟩⟩
 ·cases h2
 ·cases h2
  have hB:aF w g (.cells cur T):=hg
  have hlt:k*inf.size+inf.size≤n*inf.size:=by
   have:(k+1)*inf.size≤n*inf.size:=Nat.mul_le_mul_right _ (by omega)
   rwa [Nat.add_mul,Nat.one_mul] at this
  have hle:n*inf.size≤cap*inf.size:=Nat.mul_le_mul_right _ hc1
  have hcells:(Value.agg (enc x).toArray).cells.toList=enc x:=by simp[Value.cells]
  have hrun:=fg (P:=P) (T:=T) (off:=0+k*inf.size) (v:= .agg (enc x).toArray) hB (by rw[hcells];exact he x) (by rw[hcells,he x];omega) (by rw[hcells];exact hone x)
  rw[hcells] at hrun
  refine⟨_,hrun,⟨by rw[bY he,List.length_set,hn],Or.inr ⟨g,cap,_,rfl,hb,hB.set _,hc1,hc2,?_,?_⟩⟩,Kp.set w hB rfl rfl⟩
  ·have:=jc (cs:=cur.toList) (off:=0+k*inf.size) (l:=enc x) (by rw[he x];simp;omega)
   rw[List.size_toArray,this]
   simpa using hc3
  ·have hsplit:cur.toList=[]++(bO enc l++cur.toList.drop (n*inf.size)):=by
    rw[List.nil_append]
    conv=>lhs;rw[←List.take_append_drop (n*inf.size) cur.toList]
    rw[hc4]
   have hset:=yg he l k hk x [] (cur.toList.drop (n*inf.size))
   rw[←hsplit,List.length_nil,List.nil_append] at hset
   rw[List.toList_toArray,hset]
   refine(List.take_append_of_le_length ?_).trans (List.take_of_length_le ?_)
   ·rw[bY he,List.length_set,hn];exact Nat.le_refl _
   ·rw[bY he,List.length_set,hn];exact Nat.le_refl _
end
section
variable {P:Program} {α:Type} {enc:α→List Value} {m:Nat} {Q:Exit→Act→World→Prop} {ops rest:List Oper} {L:Env} {w:World} {ty:TypeId} {pos:String} {af:Array Edge} {q:Option (Nat×Bool)}
theorem SG.F7{base cap g n:Nat}{T:TypeId}{inf:TypeInfo}[f:dp P T inf]{l:List α}{a x:Operand}{y:α}{k o:Nat}(he:∀x,(enc x).length=inf.size)(hone:∀x,bF (enc x)=true)(hw:want ops L ⟨none,.store T a x,ty,pos,af,q⟩=some true)(hk:(known L a&&known L x)=true)
  (ha:bB L a= .pointer (some ⟨g,o,none⟩)) (ho':o=0+k*inf.size) (hx:bB L x= .agg (enc y).toArray) (ho:w.ownsRow base T inf.size (.slice (some ⟨g,0,none⟩) n cap) n (bO enc l)) (hn:l.length=n) (hkl:k<l.length)
  (h:∀w',Kp [g] w w'→w'.ownsRow base T inf.size (.slice (some ⟨g,0,none⟩) n cap) n (bO enc (l.set k y))→SG P m ops Q rest L w'):SG P m ops Q (⟨none,.store T a x,ty,pos,af,q⟩::rest) L w:=by
 subst ho'
 refine SG.op rfl rfl hw (by simpa[Op.operands] using hk) ?_
 obtain⟨w',h1,h2,h3⟩:=zj (P:=P) he hone ho hn hkl y
 unfold bh
 have:(execOp (bB L) ⟨none,.store T a x,ty,pos,af,q⟩).run P w= .ok .skip w':=by
  simp only[execOp,hx,ha,Sem.run_bind,h1,Result.andThen,Sem.run_pure]
 rw[this]
 exact h w' h3 h2
end
end
section
theorem cK{w:World}{base n sz:Nat}{T T':TypeId}{v:Value}{xs:List Value}{z:Nat}{cs:Array Value}(ho:w.ownsRow base T sz v n xs)(hT:T'≠T)(hz:aF w z (.cells cs T')):∀b,v.ownBlock=some b→b∉[z]:=by
 intro b hb hm
 rw[List.mem_singleton] at hm
 subst hm
 rcases ho.2 with⟨rfl,_⟩|⟨g,cap,cur,rfl,_,hg,_⟩
 ·cases hb
 ·cases hb
  have:=hz.uniq hg
  simp only[Obj.cells.injEq] at this
  exact hT this.2.1
theorem cD{w:World}{base n sz:Nat}{T:TypeId}{v:Value}{xs:List Value}(ho:w.ownsRow base T sz v n xs):∀b,v.ownBlock=some b→b<w.heap.size:=by
 intro b hb
 rcases ho.2 with⟨rfl,_⟩|⟨g,cap,cur,rfl,_,hg,_⟩
 ·cases hb
 ·cases hb
  exact(Array.getElem?_eq_some_iff.1 hg).1
theorem gg{v:Value}{b:Nat}(h:v.ownBlock=some b):b∈aP v:=by
 unfold aP
 rw[h]
 simp
theorem cp{w:World}{base n:Nat}{v:Value}{sz:Nat}{T:TypeId}{xs:List Value}(ho:w.ownsRow base T sz v n xs):∀b,v.ownBlock=some b→base≤b:=by
 intro b hb
 rcases ho.2 with⟨rfl,_⟩|⟨g',c,cur,rfl,hg,_⟩
 ·cases hb
 ·cases hb
  exact hg
theorem fN{w:World}{base n cap:Nat}{a:Option Addr}{sz:Nat}{T:TypeId}{xs:List Value}(ho:w.ownsRow base T sz (.slice a n cap) n xs):∀b off,a=some ⟨b,off,none⟩→base≤b:=by
 intro b off e
 subst e
 rcases ho.2 with⟨h,_⟩|⟨g,c,cur,h,hb,_⟩
 ·cases h
 ·cases h
  exact hb
theorem Sl.Jh{α:Type}{enc:α→List Value}{sz:Nat}{S:List Nat}{w w':World}{a:Option Addr}{l:List α}(h:Sl enc sz w a l)(hk:Kp S w w')(hb:l≠[]→∀b off,a=some ⟨b,off,none⟩→b∉S):Sl enc sz w' a l:=by
 cases l with
 |nil=>exact Sl.nil
 |cons x l=>exact h.kp hk (hb (by simp))
theorem Sl.Oq{α:Type}{enc:α→List Value}{sz:Nat}{w:World}{a:Option Addr}{l:List α}(h:Sl enc sz w a l)(hn:l≠[]):∀b off,a=some ⟨b,off,none⟩→b<w.heap.size:=fun b off e=>by
 obtain⟨b',off',e',hr⟩:=h.at (List.length_pos_iff.2 hn)
 rw[e] at e'
 cases e'
 exact hr.lt
theorem iA{α:Type}{enc:α→List Value}{sz:Nat}(he:∀x,(enc x).length=sz){w:World}{b:Nat}{T:TypeId}{x:α}(h:aF w b (.cells (enc x).toArray T)):Sl enc sz w (some ⟨b,0,none⟩) [x]:=fun i y hy=>by
 cases i with
 |zero=>
  cases hy
  exact⟨b,0,rfl,by rw[Nat.zero_mul];exact Row.all h rfl⟩
 |succ i=>simp at hy
def Ty{α:Type}(T:TypeId)(w:World)(a:Option Addr)(l:List α):Prop:=l≠[]→∀b off,a=some ⟨b,off,none⟩→∃cs f,w.heap[b]?=some (.cells cs T f)
theorem Ty.kp{α:Type}{T:TypeId}{S:List Nat}{w w':World}{a:Option Addr}{l:List α}(h:Ty T w a l)(hk:Kp S w w')(hb:l≠[]→∀b off,a=some ⟨b,off,none⟩→b∉S):Ty T w' a l:=fun hn b off e=>by
 obtain⟨cs,f,hh⟩:=h hn b off e
 exact⟨cs,f,(hk.blk b (Array.getElem?_eq_some_iff.1 hh).1 (hb hn b off e)).trans hh⟩
theorem Ty.ay{α:Type}{T:TypeId}{w w':World}{a:Option Addr}{l:List α}(h:Ty T w a l)(hk:Kp [] w w'):Ty T w' a l:=h.kp hk (by simp)
theorem Ty.own{α:Type}{w:World}{base n cap sz:Nat}{a:Option Addr}{T:TypeId}{l:List α}{xs:List Value}(ho:w.ownsRow base T sz (.slice a n cap) n xs):Ty T w a l:=fun _ b off e=>by
 subst e
 rcases ho.2 with⟨h,_⟩|⟨g,c,cur,h,_,hg,_⟩
 ·cases h
 ·cases h
  exact⟨_,_,hg⟩
end
section
theorem CG.iR{P:Program}{n:Nat}{Q Q':Exit→Act→World→Prop}{L:Env}{w:World}{c B:Code}(M:Env→World→Prop)(h:CG P n c (Exit.then (fun a w=>∃L,Fits n a L∧M L w) Q') L w)(h2:∀L w,M L w→CG P n B Q L w):CG P n c (Exit.then (B.wp P Q) Q') L w:=by
 intro a ha
 refine wp_mono (h a ha) (fun e a w hq=>?_)
 cases e<;>first|exact hq|(obtain⟨L,h1,h2'⟩:=hq;exact h2 L w h2' a h1)
end
section
open Go.Proofs
theorem Row.part{w:World}{b off:Nat}{l:List Value}(h:Row w b off l)(pre m post:List Value)(he:l=pre++(m++post)):Row w b (off+pre.length) m:=by
 obtain⟨cs,T,f,h1,h2⟩:=h
 refine⟨cs,T,f,h1,fun i v hv=>?_⟩
 have hi:i<m.length:=(List.getElem?_eq_some_iff.1 hv).1
 rw[Nat.add_assoc]
 refine h2 (pre.length+i) v ?_
 rw[he,List.getElem?_append_right (by omega),Nat.add_sub_cancel_left,List.getElem?_append_left hi]
 exact hv
structure Tm where
 t:Tx
 a1:Option Addr
 c1:Nat
 a2:Option Addr
 c2:Nat
def Tm.b(x:Tm):Value:= .slice x.a1 x.t.body.length x.c1
def Tm.s(x:Tm):Value:= .slice x.a2 x.t.sig.length x.c2
def bV(x:Tm):List Value:=dc x.t.frm++[.int .i64 x.t.non,.int .i64 x.t.fee,.int .i64 x.t.kind,x.b,x.s]
theorem au(x:Tm):(bV x).length=13:=by simp[bV,ah]
theorem cC(x:Tm):bF (bV x)=true:=by simp[bV,bF,dc,jJ,Tm.b,Tm.s]
def eR(x:Tm):Value:= .agg (bV x).toArray
def Tb(n:Nat)(w:World)(a:Option Addr)(l:List UInt8):Prop:=Ty 5 w a l∨∀b off,a=some ⟨b,off,none⟩→b<n
theorem Tb.kp{n:Nat}{S:List Nat}{w w':World}{a:Option Addr}{l:List UInt8}(h:Tb n w a l)(hk:Kp S w w')(hb:l≠[]→∀b off,a=some ⟨b,off,none⟩→b∉S):Tb n w' a l:=h.elim (fun h=>Or.inl (h.kp hk hb)) Or.inr
theorem Tb.ay{n:Nat}{w w':World}{a:Option Addr}{l:List UInt8}(h:Tb n w a l)(hk:Kp [] w w'):Tb n w' a l:=h.kp hk (fun _ _ _ _=>List.not_mem_nil)
theorem Tb.mono{n m:Nat}{w:World}{a:Option Addr}{l:List UInt8}(h:Tb n w a l)(hn:n≤m):Tb m w a l:=h.elim Or.inl (fun h=>Or.inr (fun b off e=>Nat.lt_of_lt_of_le (h b off e) hn))
structure Tm.In(x:Tm)(n:Nat)(w:World):Prop where
 b:Bs w x.a1 x.c1 x.t.body
 s:Bs w x.a2 x.c2 x.t.sig
 t1:Tb n w x.a1 x.t.body
 t2:Tb n w x.a2 x.t.sig
 l1:x.t.body.length≤10000000
 l2:x.t.sig.length≤10000000
theorem Bs.ay{w w':World}{a:Option Addr}{c:Nat}{l:List UInt8}(h:Bs w a c l)(hk:Kp [] w w'):Bs w' a c l:=h.kp hk (fun _ _ _=>List.not_mem_nil)
theorem Tm.In.mono{x:Tm}{n m:Nat}{w:World}(h:x.In n w)(hn:n≤m):x.In m w:=⟨h.b,h.s,h.t1.mono hn,h.t2.mono hn,h.l1,h.l2⟩
theorem Tm.In.ay{x:Tm}{n:Nat}{w w':World}(h:x.In n w)(hk:Kp [] w w'):x.In n w':=⟨h.b.ay hk,h.s.ay hk,h.t1.ay hk,h.t2.ay hk,h.l1,h.l2⟩
theorem IA(w:World):(Instr.build 47 #[]).run Tryz.prog w= .ok (dv zd) w:=by kernel_rfl
theorem nB{w:World}{b off:Nat}{x:Tm}(h:Row w b off (bV x)):Row w b off (dc x.t.frm)∧Row w b (off+8) [.int .i64 x.t.non]∧Row w b (off+9) [.int .i64 x.t.fee]∧Row w b (off+10) [.int .i64 x.t.kind]∧Row w b (off+11) [x.b]∧Row w b (off+12) [x.s]:=by
 have l8:(dc x.t.frm).length=8:=ah _
 have h0:=h.part [] (dc x.t.frm) [Value.int .i64 x.t.non,.int .i64 x.t.fee,.int .i64 x.t.kind,x.b,x.s] (by simp[bV])
 have h1:=h.part (dc x.t.frm) [Value.int .i64 x.t.non] [Value.int .i64 x.t.fee,.int .i64 x.t.kind,x.b,x.s] (by simp[bV])
 have h2:=h.part (dc x.t.frm++[Value.int .i64 x.t.non]) [Value.int .i64 x.t.fee] [Value.int .i64 x.t.kind,x.b,x.s] (by simp[bV])
 have h3:=h.part (dc x.t.frm++[Value.int .i64 x.t.non,.int .i64 x.t.fee]) [Value.int .i64 x.t.kind] [x.b,x.s] (by simp[bV])
 have h4:=h.part (dc x.t.frm++[Value.int .i64 x.t.non,.int .i64 x.t.fee,.int .i64 x.t.kind]) [x.b] [x.s] (by simp[bV])
 have h5:=h.part (dc x.t.frm++[Value.int .i64 x.t.non,.int .i64 x.t.fee,.int .i64 x.t.kind,x.b]) [x.s] [] (by simp[bV])
 simp only[List.length_append,l8,List.length_cons,List.length_nil] at h1 h2 h3 h4 h5
 exact⟨h0,h1,h2,h3,h4,h5⟩
theorem aZ{w:World}{b:Nat}{T:TypeId}{x:Tm}(h:aF w b (.cells (bV x).toArray T)):Row w b 0 (bV x)∧Row w b 0 (dc x.t.frm)∧Row w b 8 [.int .i64 x.t.non]∧Row w b 9 [.int .i64 x.t.fee]∧Row w b 10 [.int .i64 x.t.kind]∧Row w b 11 [x.b]∧Row w b 12 [x.s]:=by
 have h0:Row w b 0 (bV x):=Row.all h rfl
 have h1:=nB h0
 simp only[Nat.zero_add] at h1
 exact⟨h0,h1⟩
def jC(l:List UInt8):Dg:=if dQ l=0 then frm (Ds l 0 0 18446744073709551615) else zd
def iM(l:List UInt8):Int:=if dQ l=0 then IntKind.wrap .i64 (Ds l (vS l 0 0 18446744073709551615) (xK l 0 0 18446744073709551615) 1125899906842624:Int) else 0
theorem Eg(l:List UInt8)(e1 e2:Int)(p1 p2:Nat)(h1:e1=xK l 0 0 18446744073709551615)(h2:p1=vS l 0 0 18446744073709551615)(h3:e2=xK l p1 e1 1125899906842624)(h4:p2=vS l p1 e1 1125899906842624):(if e2≠0 then e2 else if p2<l.length then 5 else 0)=dQ l:=by
 have hE:ma l 18446744073709551615=ca l:=by
  unfold ma
  by_cases h:ca l=0
  ·have:=uo h
   rw[if_neg (fun k=>k h),if_neg (by omega),h]
  ·rw[if_pos h]
 have e1':e1=ca l:=by rw[h1,xK,if_pos rfl,List.drop_zero,hE]
 by_cases h0:ca l=0
 rotate_left
 ·have z:dQ l=ca l:=by
   unfold dQ
   rw[if_pos h0]
  have e2':e2=ca l:=by rw[h3,xK,if_neg (by rw[e1'];exact h0),e1']
  rw[z,e2',if_pos h0]
 have e0:e1=0:=by rw[e1',h0]
 have p1':p1=cU l:=by
  rw[h2,vS,List.drop_zero,if_pos ⟨rfl,by rw[hE,h0]⟩]
  omega
 subst p1'
 have e2':e2=ma (l.drop (cU l)) 1125899906842624:=by rw[h3,xK,if_pos e0]
 have z0:dQ l=(if ca (l.drop (cU l))≠0 then ca (l.drop (cU l)) else if 1125899906842624<dH (l.drop (cU l)) then 2 else if cU l+cU (l.drop (cU l))<l.length then 5 else 0):=by
  unfold dQ
  rw[if_neg (fun k=>k h0)]
 rw[z0]
 generalize hm:l.drop (cU l)=m at*
 by_cases h5:ca m=0
 rotate_left
 ·have:e2=ca m:=by rw[e2',ma,if_pos h5]
  rw[this,if_pos h5,if_pos h5]
 have z1:(if ca m≠0 then ca m else if 1125899906842624<dH m then 2 else if cU l+cU m<l.length then 5 else 0)=(if 1125899906842624<dH m then 2 else if cU l+cU m<l.length then(5:Int) else 0):=if_neg (fun k=>k h5)
 rw[z1]
 by_cases h6:1125899906842624<dH m
 ·have:e2=2:=by rw[e2',ma,if_neg (fun k=>k h5),if_pos h6]
  rw[this,if_pos h6,if_pos (by decide)]
 ·have:e2=0:=by rw[e2',ma,if_neg (fun k=>k h5),if_neg h6]
  have p2':p2=cU l+cU m:=by
   rw[h4,vS,hm,if_pos ⟨e0,by rw[←e2',this]⟩]
  rw[this,if_neg (fun k=>k rfl),if_neg h6,p2']
attribute [local irreducible] CG NG SG aK aI Row aF aE aM kZ ic vk qj kR lJ Ep Dx kd fp ca dH cU Ds vS xK ma dQ bE
theorem rb{w:World}{n0:Nat}{x:Tm}(hx:x.In n0 w)(hk0:x.t.kind=0):
  Calls Tryz.prog 137 #[eR x] w (fun e' w'=>∃(d:Dg) (n:Int),e'= .returned (.tuple #[dv d,.int .i64 n,.int .i64 (dQ x.t.body)])∧Kp [] w w'∧d=jC x.t.body∧n=iM x.t.body):=by
 refine bA Tryz.func137 rfl Tryz.ntmps137 rfl ?_
 repeat apply aj
 refine SG.box rfl rfl rfl (ag rfl) (fun b1 w1 hk1 hb1 hB1=>?_)
 refine SG.alloc rfl rfl rfl (fun b2 w2 hk2 hb2 hB2=>?_)
 have hB1:aF w2 b1 (.cells (bV x).toArray 52):=hB1.ay hk2
 have hB2:aF w2 b2 (.cells (dc zd).toArray 47):=hB2
 obtain⟨-,-,-,-,r3,r4,-⟩:=aZ hB1
 have k2:=hk1.trans hk2
 rw[hk0] at r3
 have h00:(0:Int)=0:=rfl
 have hl:=hx.l1
 repeat (first|apply aj|(apply ar;rfl;(first|apply aD|apply bf|apply aW|apply dK)<;>first|rfl|assumption|(apply bK;first|assumption|omega)|exact List.not_mem_nil))
 refine bG rfl ?_
 repeat (first|apply aj|(apply ar;rfl;(first|apply bf|apply aW)<;>first|rfl|assumption|exact List.not_mem_nil))
 refine SG.call rfl rfl rfl (vs:=[x.b]) (bz.of rfl) ((wq (hx.b.ay k2) (by omega)).mono (fun e w3 hh=>?_))
 obtain⟨br,a',c',he,hk3,hbr,hR⟩:=hh
 refine⟨_,he,?_⟩
 clear he r3 r4
 repeat (first|apply aj|(apply ar;rfl;(first|apply az|apply aD)<;>rfl))
 refine SG.call rfl rfl rfl (vs:=[.pointer (some ⟨br,0,none⟩),.int .u64 ((18446744073709551615:Nat):Int)]) (bz.of rfl) ((BK hR (by omega) 18446744073709551615).mono (fun e w4 hh=>?_))
 obtain⟨he,hk4,hR4⟩:=hh
 refine⟨_,he,?_⟩
 clear he
 obtain⟨D,hD⟩:∃D,jC x.t.body=D:=⟨_,rfl⟩
 obtain⟨N,hN⟩:∃N,iM x.t.body=N:=⟨_,rfl⟩
 have hD':=hD
 have hN':=hN
 unfold jC at hD'
 unfold iM at hN'
 rw[hD,hN]
 generalize h1:xK x.t.body 0 0 18446744073709551615=e1 at hR4 hN'
 generalize h2:vS x.t.body 0 0 18446744073709551615=p1 at hR4 hN'
 generalize Ds x.t.body 0 0 18446744073709551615=v1 at hD'
 refine SG.ret rfl rfl rfl (vs:=[.int .u64 (v1:Int)]) (bz.of rfl) (kJ v1 w4) (fun w5 hk5=>?_)
 refine SG.alloc rfl rfl rfl (fun b6 w6 hk6 hb6 hB6=>?_)
 refine SG.aN (l:=dc (frm v1)) rfl rfl (ag rfl) (ag rfl) hB6 (ah _) rfl (bu _) (fun w7 hk7 hB6=>?_)
 have hB6:aF w7 b6 (.cells (dc (frm v1)).toArray 47):=hB6
 have k57:Kp [] w5 w7:=hk6.ai hk7 (aV (by omega))
 have k47:=hk5.trans k57
 have hR7:Dm w7 br a' c' x.t.body p1 e1:=⟨hR4.blk.ay k47,hR4.bs.ay k47,hR4.le,hR4.ne,fun b off e=>Nat.lt_of_lt_of_le (hR4.lt b off e) k47.size⟩
 repeat (first|apply aj|(apply ar;rfl;apply az<;>rfl))
 refine SG.call rfl rfl rfl (vs:=[.pointer (some ⟨br,0,none⟩),.int .u64 ((1125899906842624:Nat):Int)]) (bz.of rfl) ((BK hR7 (by omega) 1125899906842624).mono (fun e w8 hh=>?_))
 obtain⟨he,hk8,hR8⟩:=hh
 refine⟨_,he,?_⟩
 clear he
 generalize h3:xK x.t.body p1 e1 1125899906842624=e2 at hR8
 generalize h4:vS x.t.body p1 e1 1125899906842624=p2 at hR8
 generalize Ds x.t.body p1 e1 1125899906842624=v2 at hN'
 have hq:=Eg x.t.body e1 e2 p1 p2 h1.symm h2.symm h3.symm h4.symm
 have hend:=zI hR8 (by omega)
 rw[hq] at hend
 repeat (first|apply aj|(apply ar;rfl;(first|apply az|apply aD|apply vj)<;>rfl))
 refine SG.ret rfl rfl rfl (vs:=[.pointer (some ⟨br,0,none⟩)]) (bz.of rfl) hend (fun w9 hk9=>?_)
 have l2:=hB2.lt
 have s3:=hk3.size
 have s4:=hk4.size
 have s5:=hk5.size
 have s57:=k57.size
 have hB2:aF w9 b2 (.cells (dc zd).toArray 47):=((((hB2.ay hk3).kp hk4 (bP (by omega))).ay k47).kp hk8 (bP (by omega))).ay hk9
 have hB6:aF w9 b6 (.cells (dc (frm v1)).toArray 47):=(hB6.kp hk8 (bP (by have:=hR4.blk.lt;omega))).ay hk9
 have k9:Kp [] w w9:=((((k2.trans hk3).ai hk4 (aV (by have:=k2.size;omega))).trans k47).ai hk8 (aV (by have:=k2.size;omega))).trans hk9
 have hR6:Row w9 b6 0 (dc (frm v1)):=Row.all hB6 rfl
 have g2:w.heap.size≤b2:=by have:=hk1.size;omega
 generalize dQ x.t.body=z at hD' hN'⊢
 clear hq hend
 by_cases hz:z=0
 ·repeat (first|apply aj|(apply ar;rfl;(first|apply az|apply aD|apply dK)<;>first|rfl|(apply bK;first|assumption|omega)))
  refine bG rfl ?_
  repeat (first|apply aj|(apply ar;rfl;(first|apply az|apply bj)<;>first|rfl|assumption|exact List.not_mem_nil))
  refine SG.aN (l:=dc (frm v1)) rfl rfl (ag rfl) (ag rfl) hB2 (ah _) rfl (bu _) (fun w10 hk10 hB2=>?_)
  have hr:Row w10 b2 0 (dc (frm v1)):=Row.all hB2 rfl
  subst hz
  rw[if_pos rfl] at hD' hN'
  subst hD' hN'
  repeat (first|apply aj|(apply ar;rfl;apply aD<;>rfl))
  refine sj (Or.inl rfl) Tryz.results137 (aC.agg rfl rfl hr (ah _)) (aC.tmp rfl) (aC.tmp rfl) ?_
  exact⟨_,_,rfl,k9.ai hk10 (aV g2),rfl,rfl⟩
 ·rw[if_neg hz] at hD' hN'
  subst hD' hN'
  repeat (first|apply aj|(apply ar;rfl;(first|apply az|apply aD|apply dK)<;>first|rfl|(apply bN;first|assumption|omega)))
  refine bL rfl ?_
  repeat apply aj
  refine SG.val rfl rfl rfl rfl (aG rfl IA) ?_
  repeat (apply ar;rfl;apply az<;>rfl)
  refine SG.aN (l:=dc zd) rfl rfl (ag rfl) (ag rfl) hB2 (ah _) rfl (bu _) (fun w10 hk10 hB2=>?_)
  have hr:Row w10 b2 0 (dc zd):=Row.all hB2 rfl
  repeat (first|apply aj|(apply ar;rfl;apply aD<;>rfl))
  refine sj (Or.inl rfl) Tryz.results137 (aC.agg rfl rfl hr (ah _)) (aC.tmp rfl) (aC.tmp rfl) ?_
  exact⟨_,_,rfl,k9.ai hk10 (aV g2),rfl,rfl⟩
theorem iY(t:Tx):Fm t↔(0≤t.non∧t.non≤1099511627776)∧(0≤t.fee∧t.fee≤1125899906842624)∧(0≤t.kind∧t.kind≤2)∧((t.body.length:Int)≤32768)∧((t.sig.length:Int)≤1024):=
 ⟨fun h=>⟨⟨h.n0,h.n1⟩,⟨h.f0,h.f1⟩,⟨h.k0,h.k1⟩,by have:=h.b;omega,by have:=h.s;omega⟩,fun⟨⟨a,b⟩,⟨c,d⟩,⟨e,f⟩,g,h⟩=>⟨a,b,c,d,e,f,by omega,by omega⟩⟩
theorem iK(n most:Int)(w:World):dz Tryz.prog 144 #[.int .i64 n,.int .i64 most] w (.bool (decide (0≤n∧n≤most))):=by
 refine bJ Tryz.func144 rfl Tryz.ntmps144 rfl ?_
 by_cases h1:0≤n
 ·by_cases h2:n≤most
  ·rw[decide_eq_true ⟨h1,h2⟩]
   repeat (first|apply aj|(apply ar;rfl;(first|apply az|apply aD|apply cu|apply Dt|apply jN)<;>first|rfl|(apply bK;first|assumption|omega)))
   refine aO (Or.inl rfl) Tryz.results144 (aC.tmp rfl) ?_
   exact⟨rfl,Kp.refl _ _⟩
  ·rw[decide_eq_false (fun h=>h2 h.2)]
   repeat (first|apply aj|(apply ar;rfl;(first|apply az|apply aD|apply cu|apply Dt|apply jN)<;>first|rfl|(apply bK;first|assumption|omega)|(apply bN;first|assumption|omega)))
   refine aO (Or.inl rfl) Tryz.results144 (aC.tmp rfl) ?_
   exact⟨rfl,Kp.refl _ _⟩
 ·rw[decide_eq_false (fun h=>h1 h.1)]
  repeat (first|apply aj|(apply ar;rfl;(first|apply az|apply aD|apply cu|apply jN)<;>first|rfl|(apply bN;first|assumption|omega))|refine SG.skip rfl rfl ?_)
  refine aO (Or.inl rfl) Tryz.results144 (aC.tmp rfl) ?_
  exact⟨rfl,Kp.refl _ _⟩
theorem js{w:World}{n0:Nat}{x:Tm}(hx:x.In n0 w):dz Tryz.prog 104 #[eR x] w (.int .i64 (bg x.t)):=by
 refine bA Tryz.func104 rfl Tryz.ntmps104 rfl ?_
 repeat apply aj
 refine SG.box rfl rfl rfl (ag rfl) (fun b1 w1 hk1 hb1 hB1=>?_)
 have hB1:aF w1 b1 (.cells (bV x).toArray 52):=hB1
 have hi:=iY x.t
 have hx1:=hx.ay hk1
 repeat (apply ar;rfl;apply aD<;>rfl)
 refine SG.nil ?_
 refine NG.next ?_
 repeat (first|refine CG.scope ?_|refine CG.seq ?_|refine CG.region ?_)
 repeat (apply ar;rfl;apply aD<;>rfl)
 refine SG.nil ?_
 refine NG.next ?_
 repeat (first|refine CG.scope ?_|refine CG.seq ?_)
 obtain⟨r,hr⟩:∃r:Bool,(r=true↔Fm x.t):=by
  classical
  exact⟨decide (Fm x.t),decide_eq_true_iff⟩
 have hrf:¬Fm x.t→r=false:=fun h=>by
  cases r with
  |false=>rfl
  |true=>exact absurd (hr.1 rfl) h
 refine CG.iR (fun L w'=>aS [(1,.pointer (some ⟨b1,0,none⟩)),(4,.bool r)] L∧Kp [] w1 w') ?_ ?_
 ·obtain⟨-,-,q1,q2,q3,q4,q5⟩:=aZ hB1
  repeat (first|apply aj|(apply ar;rfl;(first|apply az|apply bf|apply aW)<;>first|rfl|assumption|exact List.not_mem_nil))
  refine SG.mA (Fn:=by infer_instance) (vs:=[.int .i64 x.t.non,.int .i64 1099511627776]) (caps:=[]) rfl rfl rfl (ag rfl) (bz.of rfl) (iK x.t.non 1099511627776 w1) (fun w2 hk2=>?_)
  by_cases c1:0≤x.t.non∧x.t.non≤1099511627776
  rotate_left
  ·rw[decide_eq_false c1,hrf (fun h=>c1 (by have:=iY x.t;have h2:=this.1 h;omega))]
   repeat (first|apply aj|(apply ar;rfl;(first|apply az|apply aD|apply cu)<;>rfl)|refine SG.skip rfl rfl ?_)
   exact NG.cut ⟨by(repeat' (first|exact True.intro|exact rfl|refine And.intro ?_ ?_)),hk2⟩
  rw[decide_eq_true c1]
  have q2:=q2.ay hk2
  have q3:=q3.ay hk2
  have q4:=q4.ay hk2
  have q5:=q5.ay hk2
  repeat (apply ar;rfl;(first|apply az|apply bf|apply aW)<;>first|rfl|assumption|exact List.not_mem_nil)
  refine SG.mA (Fn:=by infer_instance) (vs:=[.int .i64 x.t.fee,.int .i64 1125899906842624]) (caps:=[]) rfl rfl rfl (ag rfl) (bz.of rfl) (iK x.t.fee 1125899906842624 w2) (fun w3 hk3=>?_)
  by_cases c2:0≤x.t.fee∧x.t.fee≤1125899906842624
  rotate_left
  ·rw[decide_eq_false c2,hrf (fun h=>c2 (by have:=iY x.t;have h2:=this.1 h;omega))]
   repeat (first|apply aj|(apply ar;rfl;(first|apply az|apply aD|apply cu)<;>rfl)|refine SG.skip rfl rfl ?_)
   exact NG.cut ⟨by(repeat' (first|exact True.intro|exact rfl|refine And.intro ?_ ?_)),(hk2).trans hk3⟩
  rw[decide_eq_true c2]
  have q3:=q3.ay hk3
  have q4:=q4.ay hk3
  have q5:=q5.ay hk3
  repeat (apply ar;rfl;(first|apply az|apply bf|apply aW|apply cu)<;>first|rfl|assumption|exact List.not_mem_nil)
  refine SG.mA (Fn:=by infer_instance) (vs:=[.int .i64 x.t.kind,.int .i64 2]) (caps:=[]) rfl rfl rfl (ag rfl) (bz.of rfl) (iK x.t.kind 2 w3) (fun w4 hk4=>?_)
  by_cases c3:0≤x.t.kind∧x.t.kind≤2
  rotate_left
  ·rw[decide_eq_false c3,hrf (fun h=>c3 (by have:=iY x.t;have h2:=this.1 h;omega))]
   repeat (first|apply aj|(apply ar;rfl;(first|apply az|apply aD|apply cu)<;>rfl)|refine SG.skip rfl rfl ?_)
   exact NG.cut ⟨by(repeat' (first|exact True.intro|exact rfl|refine And.intro ?_ ?_)),((hk2).trans hk3).trans hk4⟩
  rw[decide_eq_true c3]
  have q4:=q4.ay hk4
  have q5:=q5.ay hk4
  repeat (apply ar;rfl;(first|apply az|apply bf|apply aW|apply cu|apply dy)<;>first|rfl|assumption|exact List.not_mem_nil)
  refine SG.mA (Fn:=by infer_instance) (vs:=[.int .i64 (x.t.body.length:Int),.int .i64 32768]) (caps:=[]) rfl rfl rfl (ag rfl) (bz.of rfl) (iK (x.t.body.length:Int) 32768 w4) (fun w5 hk5=>?_)
  by_cases c4:0≤(x.t.body.length:Int)∧(x.t.body.length:Int)≤32768
  rotate_left
  ·rw[decide_eq_false c4,hrf (fun h=>c4 (by have:=iY x.t;have h2:=this.1 h;omega))]
   repeat (first|apply aj|(apply ar;rfl;(first|apply az|apply aD|apply cu)<;>rfl)|refine SG.skip rfl rfl ?_)
   exact NG.cut ⟨by(repeat' (first|exact True.intro|exact rfl|refine And.intro ?_ ?_)),(((hk2).trans hk3).trans hk4).trans hk5⟩
  rw[decide_eq_true c4]
  have q5:=q5.ay hk5
  repeat (apply ar;rfl;(first|apply az|apply bf|apply aW|apply cu|apply dy)<;>first|rfl|assumption|exact List.not_mem_nil)
  refine SG.mA (Fn:=by infer_instance) (vs:=[.int .i64 (x.t.sig.length:Int),.int .i64 1024]) (caps:=[]) rfl rfl rfl (ag rfl) (bz.of rfl) (iK (x.t.sig.length:Int) 1024 w5) (fun w6 hk6=>?_)
  by_cases c5:0≤(x.t.sig.length:Int)∧(x.t.sig.length:Int)≤1024
  rotate_left
  ·rw[decide_eq_false c5,hrf (fun h=>c5 (by have:=iY x.t;have h2:=this.1 h;omega))]
   repeat (first|apply aj|(apply ar;rfl;(first|apply aD|apply cu)<;>rfl))
   exact NG.cut ⟨by(repeat' (first|exact True.intro|exact rfl|refine And.intro ?_ ?_)),((((hk2).trans hk3).trans hk4).trans hk5).trans hk6⟩
  rw[decide_eq_true c5]
  rw[hr.2 ((iY x.t).2 ⟨c1,c2,c3,c4.2,c5.2⟩)]
  repeat (first|apply aj|(apply ar;rfl;(first|apply aD|apply cu)<;>rfl))
  exact NG.cut ⟨by(repeat' (first|exact True.intro|exact rfl|refine And.intro ?_ ?_)),((((hk2).trans hk3).trans hk4).trans hk5).trans hk6⟩
 rintro L w2 ⟨hLL,hk2⟩
 refine CG.to _ hLL ?_
 clear hLL L
 have k2:=hk1.trans hk2
 have hB2:=hB1.ay hk2
 obtain⟨r0,-,-,-,q3,-,-⟩:=aZ hB2
 cases r with
 |false=>
  have e:bg x.t=2:=if_neg (fun h=>by have:=hr.2 h;cases this)
  rw[e]
  repeat (first|apply aj|(apply ar;rfl;(first|apply az|apply fZ)<;>rfl))
  refine bL rfl ?_
  repeat (first|apply aj|(apply ar;rfl;apply aD<;>rfl))
  refine aO (Or.inl rfl) Tryz.results104 (aC.tmp rfl) ?_
  exact⟨rfl,k2⟩
 |true=>
  have e:bg x.t=if x.t.kind=0 then dQ x.t.body else 0:=if_pos (hr.1 rfl)
  rw[e]
  repeat (first|apply aj|(apply ar;rfl;(first|apply az|apply fZ)<;>rfl))
  refine bG rfl ?_
  by_cases hk:x.t.kind=0
  ·rw[if_pos hk]
   clear q3
   have q3:=(aZ hB2).2.2.2.2.1
   clear r0
   repeat (first|apply aj|(apply ar;rfl;(first|apply bf|apply aW|apply fF)<;>first|rfl|assumption|(apply bK;first|assumption|omega)|exact List.not_mem_nil))
   refine bL rfl ?_
   clear q3
   obtain⟨r0,-⟩:=aZ hB2
   repeat (first|apply aj|(apply ar;rfl;apply bj<;>first|rfl|assumption|exact List.not_mem_nil|apply au))
   refine SG.call rfl rfl rfl (vs:=[eR x]) (bz.of rfl) ((rb (hx.ay k2) hk).mono (fun e w3 hh=>?_))
   obtain⟨d,n,he,hk3,-⟩:=hh
   refine⟨_,he,?_⟩
   clear he
   generalize dQ x.t.body=z
   repeat (apply ar;rfl;(first|apply az|apply dA)<;>rfl)
   refine SG.alloc rfl rfl rfl (fun b5 w4 hk4 hb5 hB5=>?_)
   refine SG.aN (l:=dc d) rfl rfl (ag rfl) (ag rfl) hB5 (ah _) rfl (bu _) (fun w5 hk5 hB5=>?_)
   repeat (first|apply aj|(apply ar;rfl;(first|apply az|apply aD)<;>rfl))
   refine aO (Or.inl rfl) Tryz.results104 (aC.tmp rfl) ?_
   exact⟨rfl,(k2.trans hk3).trans (hk4.ai hk5 (aV (by omega)))⟩
  ·rw[if_neg hk]
   clear r0
   repeat (first|apply aj|(apply ar;rfl;(first|apply bf|apply aW|apply fF)<;>first|rfl|assumption|(apply bN;first|assumption|omega)|exact List.not_mem_nil))
   refine bG rfl ?_
   repeat (first|apply aj|(apply ar;rfl;apply aD<;>rfl))
   refine aO (Or.inl rfl) Tryz.results104 (aC.tmp rfl) ?_
   exact⟨rfl,k2⟩
end
section
section
variable {P:Program} {n:Nat} {ops:List Oper} {Q:Exit→Act→World→Prop} {w w0:World} {L:Env} {ty:TypeId} {pos:String} {af:Array Edge} {g:Option (Nat×Bool)} {rest:List Oper}
end
end
section
open Go.Proofs
theorem pI{w:World}{base n cap sz:Nat}{a:Option Addr}{T:TypeId}{l:List UInt8}{xs:List Value}(ho:w.ownsRow base T sz (.slice a l.length cap) n xs):l=[]∧a=none∨∃b2 off,a=some ⟨b2,off,none⟩:=by
 rcases ho.2 with⟨h,h0⟩|⟨g,c,cur,h,_⟩
 ·simp only[Value.slice.injEq] at h
  exact Or.inl ⟨List.eq_nil_of_length_eq_zero h.2.1,h.1⟩
 ·simp only[Value.slice.injEq] at h
  exact Or.inr ⟨g,0,h.1⟩
theorem bU(n:Nat):(cP n).length≤11:=uc 10 n
open Classical in
noncomputable def qB(a b:Tx):Bool:=decide (a=b)
theorem vD{a b:Tx}(h:a=b):qB a b=true:=by simp[qB,h]
theorem rU{a b:Tx}(h:a≠b):qB a b=false:=by simp[qB,h]
theorem mi(t:Tx)(a1 a2:Option Addr)(c1 c2:Nat):bV ⟨t,a1,c1,a2,c2⟩=(dc t.frm++[.int .i64 t.non,.int .i64 t.fee,.int .i64 t.kind])++([.slice a1 t.body.length c1]++[.slice a2 t.sig.length c2]):=by
 simp[bV,Tm.b,Tm.s]
theorem tN(t:Tx)(a1 a2:Option Addr)(c1 c2:Nat):bV ⟨t,a1,c1,a2,c2⟩=(dc t.frm++[.int .i64 t.non,.int .i64 t.fee,.int .i64 t.kind,.slice a1 t.body.length c1])++([.slice a2 t.sig.length c2]++[]):=by
 simp[bV,Tm.b,Tm.s]
theorem xB(t:Tx):(dc t.frm++[Value.int .i64 t.non,.int .i64 t.fee,.int .i64 t.kind]).length=11:=by simp[ah]
theorem DN(t:Tx)(v:Value):(dc t.frm++[Value.int .i64 t.non,.int .i64 t.fee,.int .i64 t.kind,v]).length=12:=by simp[ah]
theorem Sl.xT{α:Type}{enc:α→List Value}{sz:Nat}{w:World}{l:List α}(h:Sl enc sz w none l):l=[]:=by
 cases l with
 |nil=>rfl
 |cons x l=>
  obtain⟨b,off,e,_⟩:=h 0 x rfl
  cases e
attribute [local irreducible] CG NG SG aK aI Row aF aE aM kZ ic vk qj kR lJ Ep Dx bE cP num bg
theorem lu{w:World}{a a2:Option Addr}{c c2:Nat}{l m:List UInt8}(hS:Bs w a c l)(hM:Bs w a2 c2 m)(hl:l.length+m.length≤100000000):kt Tryz.prog 5 gw 1 111 #[.slice a l.length c,.slice a2 m.length c2] w (l++Bu m):=by
 refine bJ Tryz.func111 rfl Tryz.ntmps111 rfl ?_
 have e1:(10:Int)+(m.length:Int)=((10+m.length:Nat):Int):=by omega
 repeat (first|apply aj|(apply ar;rfl;(first|apply az|apply aD|apply dG|apply dy)<;>first|rfl|(apply Ar.mk;omega)))
 rw[e1]
 refine SG.call rfl rfl rfl (by repeat' (first|exact True.intro|exact ag rfl|refine And.intro ?_ ?_)) ((lR (c:=c) hS.sl (10+m.length) (by omega)).mono (fun e w1 hh=>?_))
 obtain⟨v1,he,ho1,hk1⟩:=hh
 refine⟨_,he,?_⟩
 repeat (apply ar;rfl;first|(apply Eb<;>(first|rfl|(apply Ar.mk;omega)))|((first|apply az|apply dy)<;>(first|rfl|(apply Ar.mk;omega))))
 refine SG.call rfl rfl rfl (by repeat' (first|exact True.intro|exact ag rfl|refine And.intro ?_ ?_)) ((oF ho1 hk1.size m.length (by omega) (by omega)).mono (fun e w2 hh=>?_))
 obtain⟨v2,he,ho2,hk2,_⟩:=hh
 refine⟨_,he,?_⟩
 have k2:=hk1.ai hk2 (eO ho1 (Nat.le_refl _))
 have hp:=bU m.length
 repeat (first|apply aj|(apply ar;rfl;(first|apply az|apply aD)<;>rfl))
 refine SG.kr (enc:=gw) (xs:=l++cP m.length) (ys:=m) (base:=w.heap.size) rfl rfl rfl (ag rfl) (ag rfl) rfl rfl rfl rfl fA kL ho2 (hM.sl.ay k2) (by simp only[maxLen,List.length_append];omega) (by simp only[List.length_append];show(_+_)*1≤_;omega) k2.size (fun v3 w3 hk3 ho3 _=>?_)
 repeat (first|apply aj|(apply ar;rfl;apply aD<;>rfl))
 refine aO (Or.inl rfl) Tryz.results111 (aC.tmp rfl) ?_
 refine⟨_,rfl,?_,k2.ai hk3 (eO ho2 (Nat.le_refl _))⟩
 rw[List.append_assoc] at ho3
 exact ho3
theorem lj{w:World}{x:Tm}(hx:Bs w x.a1 x.c1 x.t.body)(hl:x.t.body.length≤10000000):kt Tryz.prog 5 gw 1 112 #[eR x] w (dP x.t):=by
 refine bA Tryz.func112 rfl Tryz.ntmps112 rfl ?_
 have p1:=bU (db x.t.kind)
 have p2:=bU (num x.t.frm)
 have p3:=bU (db x.t.non)
 have p4:=bU (db x.t.fee)
 have z1:=mh x.t.kind
 have z3:=mh x.t.non
 have z4:=mh x.t.fee
 repeat apply aj
 refine SG.box rfl rfl rfl (ag rfl) (fun b1 w1 hk1 hb1 hB1=>?_)
 have hB1:aF w1 b1 (.cells (bV x).toArray 52):=hB1
 have hl1:=hB1.lt
 obtain⟨-,r0,r1,r2,r3,r4,r5⟩:=aZ hB1
 repeat (first|apply aj|(apply ar;rfl;(first|apply aD|apply bf|apply aW|apply vj)<;>first|rfl|assumption|exact List.not_mem_nil))
 rw[iX]
 refine SG.call rfl rfl rfl (vs:=[.slice none 0 0,.int .u64 (db x.t.kind:Int)]) (bz.of rfl) ((cW (l:=[]) Bs.nil (db x.t.kind) z1 (by simp)).mono (fun e w2 hh=>?_))
 obtain⟨v2,he,ho2,hk2⟩:=hh
 refine⟨_,he,?_⟩
 rw[List.nil_append] at ho2
 obtain⟨a2,c2,rfl,hS2⟩:=Bs.own ho2
 have k2:=hk1.trans hk2
 have r0:=r0.ay hk2
 have r1:=r1.ay hk2
 have r2:=r2.ay hk2
 have r4:=r4.ay hk2
 clear r3
 repeat (first|apply aj|(apply ar;rfl;(first|apply az|apply aD|apply bj|apply aW)<;>first|rfl|assumption|exact List.not_mem_nil|apply ah))
 refine SG.ret rfl rfl rfl (vs:=[dv x.t.frm]) (bz.of rfl) (eG x.t.frm w2) (fun w3 hk3=>?_)
 skip
 refine SG.call rfl rfl rfl (vs:=[.slice a2 (cP (db x.t.kind)).length c2,.int .u64 (num x.t.frm:Int)]) (bz.of rfl) ((cW (hS2.ay hk3) (num x.t.frm) (pJ _) (by omega)).mono (fun e w4 hh=>?_))
 obtain⟨v4,he,ho4,hk4⟩:=hh
 refine⟨_,he,?_⟩
 obtain⟨a4,c4,rfl,hS4⟩:=Bs.own ho4
 have k34:=hk3.trans hk4
 have r1:=r1.ay k34
 have r2:=r2.ay k34
 have r4:=r4.ay k34
 clear r0
 repeat (first|apply aj|(apply ar;rfl;(first|apply az|apply aD|apply bf|apply aW|apply vj)<;>first|rfl|assumption|exact List.not_mem_nil))
 rw[iX]
 refine SG.call rfl rfl rfl (vs:=[.slice a4 (cP (db x.t.kind)++cP (num x.t.frm)).length c4,.int .u64 (db x.t.non:Int)]) (bz.of rfl) ((cW hS4 (db x.t.non) z3 (by simp only[List.length_append];omega)).mono (fun e w5 hh=>?_))
 obtain⟨v5,he,ho5,hk5⟩:=hh
 refine⟨_,he,?_⟩
 obtain⟨a5,c5,rfl,hS5⟩:=Bs.own ho5
 have r2:=r2.ay hk5
 have r4:=r4.ay hk5
 clear r1
 repeat (first|apply aj|(apply ar;rfl;(first|apply az|apply aD|apply bf|apply aW|apply vj)<;>first|rfl|assumption|exact List.not_mem_nil))
 rw[iX]
 refine SG.call rfl rfl rfl (vs:=[.slice a5 (cP (db x.t.kind)++cP (num x.t.frm)++cP (db x.t.non)).length c5,.int .u64 (db x.t.fee:Int)]) (bz.of rfl) ((cW hS5 (db x.t.fee) z4 (by simp only[List.length_append];omega)).mono (fun e w6 hh=>?_))
 obtain⟨v6,he,ho6,hk6⟩:=hh
 refine⟨_,he,?_⟩
 obtain⟨a6,c6,rfl,hS6⟩:=Bs.own ho6
 have r4:=r4.ay hk6
 clear r2
 have k6:Kp [] w w6:=((k2.trans k34).trans hk5).trans hk6
 repeat (first|apply aj|(apply ar;rfl;(first|apply az|apply aD|apply bf|apply aW)<;>first|rfl|assumption|exact List.not_mem_nil))
 refine SG.call rfl rfl rfl (vs:=[.slice a6 (cP (db x.t.kind)++cP (num x.t.frm)++cP (db x.t.non)++cP (db x.t.fee)).length c6,x.b]) (bz.of rfl) ((lu hS6 (hx.ay k6) (by simp only[List.length_append];omega)).mono (fun e w7 hh=>?_))
 obtain⟨v7,he,ho7,hk7⟩:=hh
 refine⟨_,he,?_⟩
 repeat (first|apply aj|(apply ar;rfl;apply aD<;>rfl))
 refine aO (Or.inl rfl) Tryz.results112 (aC.tmp rfl) ?_
 exact⟨_,rfl,cX ho7 k6.size,k6.trans hk7⟩
theorem nN(t:Tx):(dP t).length≤55+t.body.length:=by
 have p1:=bU (db t.kind)
 have p2:=bU (num t.frm)
 have p3:=bU (db t.non)
 have p4:=bU (db t.fee)
 have p5:=bU t.body.length
 simp only[dP,Bu,List.length_append]
 omega
theorem tP{w:World}{n0:Nat}{x:Tm}(hx:x.In n0 w):kt Tryz.prog 5 gw 1 60 #[eR x] w (lV x.t):=by
 refine bA Tryz.func60 rfl Tryz.ntmps60 rfl ?_
 have hl1:=hx.l1
 have hl2:=hx.l2
 have hh1:=nN x.t
 repeat apply aj
 refine SG.box rfl rfl rfl (ag rfl) (fun b1 w1 hk1 hb1 hB1=>?_)
 have hB1:aF w1 b1 (.cells (bV x).toArray 52):=hB1
 have hx1:=hx.ay hk1
 obtain⟨r,-,-,-,-,-,r5⟩:=aZ hB1
 repeat (first|apply aj|(apply ar;rfl;apply aD<;>rfl))
 refine CG.dM mixed 4 [0,2,3,1] [1] [] (fun _=>True) (by kernel_rfl) trivial (fun _ _ _ _=>trivial) ?_
 repeat (apply bZ;rfl;rfl;(first|apply bf|apply bj|apply aW)<;>first|rfl|assumption|exact List.not_mem_nil|apply au)
 refine aI.kl (X:=Option Addr×Nat) (vs:=[eR x]) (fun q=> .slice q.1 (dP x.t).length q.2) (fun q W=>Bs W q.1 q.2 (dP x.t)) rfl rfl rfl rfl (bz.of rfl) (fun q W W' hk h=>h.ay hk) (fun _ _ _ h=>h) (fun W hk _=>(lj (hx1.b.ay hk) (by omega)).mono (fun e W' hh=>?_)) (fun q=>?_)
 ·obtain⟨v',he,ho,hk'⟩:=hh
  obtain⟨a',c',rfl,hS⟩:=Bs.own ho
  exact⟨(a',c'),he,hS,hk'⟩
 refine aI.tl (fun w3 hk3 hF _=>?_)
 obtain⟨-,hS3⟩:=hF
 obtain⟨a3,c3⟩:=q
 simp only at hS3
 refine SG.call rfl rfl rfl (vs:=[.slice a3 (dP x.t).length c3,x.s]) (bz.of rfl) ((lu hS3 (hx1.s.ay hk3) (by omega)).mono (fun e w4 hh=>?_))
 obtain⟨v5,he,ho5,hk5⟩:=hh
 refine⟨_,he,?_⟩
 repeat (first|apply aj|(apply ar;rfl;apply aD<;>rfl))
 refine aO (Or.inl rfl) Tryz.results60 (aC.tmp rfl) ?_
 exact⟨_,rfl,cX ho5 (Nat.le_trans hk1.size hk3.size),(hk1.trans hk3).trans hk5⟩
theorem beq_spec{w:World}{a b:Option Addr}{l m:List UInt8}(c d:Nat)(h:Sl gw 1 w a l)(h':Sl gw 1 w b m):dz Tryz.prog 116 #[.slice a l.length c,.slice b m.length d] w (.bool (decide (l=m))):=by
 refine bJ Tryz.func116 rfl Tryz.ntmps116 rfl ?_
 repeat (first|apply aj|(apply ar;rfl;(first|apply az|apply aD)<;>rfl))
 refine SG.val rfl rfl rfl rfl (P4 (l:=l) rfl h rfl (fun _ _ _=>List.not_mem_nil)) ?_
 repeat (apply ar;rfl;apply az<;>rfl)
 refine SG.val rfl rfl rfl rfl (P4 (l:=m) rfl h' rfl (fun _ _ _=>List.not_mem_nil)) ?_
 refine SG.val rfl rfl rfl rfl (SH (a:=l) (b:=m) rfl rfl CA) ?_
 repeat (first|apply aj|(apply ar;rfl;apply aD<;>rfl))
 refine aO (Or.inl rfl) Tryz.results116 (aC.tmp rfl) ?_
 exact⟨rfl,Kp.refl _ _⟩
theorem fV{w:World}{a:Option Addr}{l:List UInt8}(c:Nat)(hS:Sl gw 1 w a l)(hl:l.length≤1000000000):kt Tryz.prog 5 gw 1 106 #[.slice a l.length c] w l:=by
 refine bA Tryz.func106 rfl Tryz.ntmps106 rfl ?_
 cases a with
 |none=>
  have hnil:=hS.xT
  subst hnil
  repeat (first|apply aj|(apply ar;rfl;(first|apply az|apply aD|apply Jb)<;>rfl))
  refine bL rfl ?_
  repeat (first|apply aj|(apply ar;rfl;apply aD<;>rfl))
  refine aO (Or.inl rfl) Tryz.results106 (aC.tmp rfl) ?_
  exact⟨_,rfl,dR,Kp.refl _ _⟩
 |some ad=>
  repeat (first|apply aj|(apply ar;rfl;(first|apply az|apply aD|apply Jb)<;>rfl))
  refine bG rfl ?_
  repeat apply aj
  refine SG.empty rfl rfl (fun b0 w1 hk1 hb0 hB0=>?_)
  repeat (apply ar;rfl;apply az<;>rfl)
  refine SG.CE (enc:=gw) (l:=l) (m:=w.heap.size) rfl rfl rfl fA kL (ag rfl) (ag rfl) rfl rfl rfl (by simp only[maxLen];omega) (by show l.length*1≤_;omega) hb0 (hS.ay hk1) hB0 (fun v w2 hk2 hown=>?_)
  repeat (first|apply aj|(apply ar;rfl;apply aD<;>rfl))
  refine aO (Or.inl rfl) Tryz.results106 (aC.tmp rfl) ?_
  exact⟨v,rfl,hown,hk1.trans hk2⟩
theorem fO{w:World}{n0:Nat}{x:Tm}(hx:x.In n0 w):Calls Tryz.prog 103 #[eR x] w (fun e w'=>∃y:Tm,y.t=x.t∧e= .returned (eR y)∧y.In 0 w'∧Kp [] w w'∧(∀b off,y.a1=some ⟨b,off,none⟩→w.heap.size≤b)∧(∀b off,y.a2=some ⟨b,off,none⟩→w.heap.size≤b)):=by
 refine bA Tryz.func103 rfl Tryz.ntmps103 rfl ?_
 have hl1:=hx.l1
 have hl2:=hx.l2
 repeat apply aj
 refine SG.box rfl rfl rfl (ag rfl) (fun b1 w1 hk1 hb1 hB1=>?_)
 have hB1:aF w1 b1 (.cells (bV x).toArray 52):=hB1
 have lt1:=hB1.lt
 refine SG.alloc rfl rfl rfl (fun b2 w2 hk2 hb2 hB2=>?_)
 have hB2:aF w2 b2 (.cells (bV ⟨⟨zd,0,0,0,[],[]⟩,none,0,none,0⟩).toArray 52):=hB2
 have k2:=hk1.trans hk2
 have lt2:=hB2.lt
 have hB1:=hB1.ay hk2
 obtain⟨-,-,-,-,-,r4,r5⟩:=aZ hB1
 have s1:=hk1.size
 have s2:=hk2.size
 repeat (first|apply aj|(apply ar;rfl;(first|apply bf|apply aW)<;>first|rfl|assumption|exact List.not_mem_nil))
 refine SG.call rfl rfl rfl (vs:=[x.b]) (bz.of rfl) ((fV x.c1 (hx.b.sl.ay k2) (by omega)).mono (fun e w3 hh=>?_))
 obtain⟨v3,he,ho3,hk3⟩:=hh
 refine⟨_,he,?_⟩
 clear he r4 r5
 obtain⟨a3,c3,rfl,hS3⟩:=Bs.own ho3
 have t3:Ty 5 w3 a3 x.t.body:=Ty.own ho3
 have g3:∀b off,a3=some ⟨b,off,none⟩→w2.heap.size≤b:=fN ho3
 have hB1:=hB1.ay hk3
 have lt1':=hB1.lt
 have s3:=hk3.size
 repeat (apply ar;rfl;apply aW<;>rfl)
 refine SG.cr (dc x.t.frm++[.int .i64 x.t.non,.int .i64 x.t.fee,.int .i64 x.t.kind]) [.slice x.a1 x.t.body.length x.c1] [.slice x.a2 x.t.sig.length x.c2] rfl rfl (ag rfl) (ag rfl) hB1 (by rw[List.toList_toArray];exact mi x.t x.a1 x.a2 x.c1 x.c2) rfl rfl (xB x.t) rfl (fun w4 hk4 hB1=>?_)
 have hB1:aF w4 b1 (.cells (bV ⟨x.t,a3,c3,x.a2,x.c2⟩).toArray 52):=by rw[mi];exact hB1
 have k4:Kp [] w w4:=(k2.trans hk3).ai hk4 (aV (by omega))
 have hS3:=hS3.kp hk4 (fun b off e=>bP (by have:=g3 b off e;omega))
 have t3:=t3.kp hk4 (fun _ b off e=>bP (by have:=g3 b off e;omega))
 have s4:=hk4.size
 obtain⟨-,-,-,-,-,-,r5⟩:=aZ hB1
 have r5:Row w4 b1 12 [x.s]:=r5
 repeat (first|apply aj|(apply ar;rfl;(first|apply bf|apply aW)<;>first|rfl|assumption|exact List.not_mem_nil))
 refine SG.call rfl rfl rfl (vs:=[x.s]) (bz.of rfl) ((fV x.c2 (hx.s.sl.ay k4) (by omega)).mono (fun e w5 hh=>?_))
 obtain⟨v5,he,ho5,hk5⟩:=hh
 refine⟨_,he,?_⟩
 clear he r5
 obtain⟨a5,c5,rfl,hS5⟩:=Bs.own ho5
 have t5:Ty 5 w5 a5 x.t.sig:=Ty.own ho5
 have g5:∀b off,a5=some ⟨b,off,none⟩→w4.heap.size≤b:=fN ho5
 have hB1:=hB1.ay hk5
 have s5:=hk5.size
 repeat (apply ar;rfl;apply aW<;>rfl)
 refine SG.cr (dc x.t.frm++[.int .i64 x.t.non,.int .i64 x.t.fee,.int .i64 x.t.kind,.slice a3 x.t.body.length c3]) [.slice x.a2 x.t.sig.length x.c2] [] rfl rfl (ag rfl) (ag rfl) hB1 (by rw[List.toList_toArray];exact tN x.t a3 x.a2 c3 x.c2) rfl rfl (DN x.t _) rfl (fun w6 hk6 hB1=>?_)
 have hB1:aF w6 b1 (.cells (bV ⟨x.t,a3,c3,a5,c5⟩).toArray 52):=by rw[tN];exact hB1
 have k6:Kp [] w w6:=(k4.trans hk5).ai hk6 (aV (by omega))
 have hS3:=(hS3.ay hk5).kp hk6 (fun b off e=>bP (by have:=g3 b off e;omega))
 have t3:=(t3.ay hk5).kp hk6 (fun _ b off e=>bP (by have:=g3 b off e;omega))
 have hS5:=hS5.kp hk6 (fun b off e=>bP (by have:=g5 b off e;omega))
 have t5:=t5.kp hk6 (fun _ b off e=>bP (by have:=g5 b off e;omega))
 have hB2:=((((hB2.ay hk3).kp hk4 (bP (by omega))).ay hk5).kp hk6 (bP (by omega)))
 obtain⟨r,-,-,-,-,-,-⟩:=aZ hB1
 repeat (first|apply aj|(apply ar;rfl;apply bj<;>first|rfl|assumption|exact List.not_mem_nil|apply au))
 refine SG.aN (l:=bV ⟨x.t,a3,c3,a5,c5⟩) rfl rfl (ag rfl) (ag rfl) hB2 (au _) rfl (cC _) (fun w7 hk7 hB2=>?_)
 have hr:Row w7 b2 0 (bV ⟨x.t,a3,c3,a5,c5⟩):=Row.all hB2 rfl
 have l2:=hB2.lt
 have k7:=k6.ai hk7 (aV (by omega))
 have hS3:=hS3.kp hk7 (fun b off e=>bP (by have:=g3 b off e;omega))
 have t3:=t3.kp hk7 (fun _ b off e=>bP (by have:=g3 b off e;omega))
 have hS5:=hS5.kp hk7 (fun b off e=>bP (by have:=g5 b off e;omega))
 have t5:=t5.kp hk7 (fun _ b off e=>bP (by have:=g5 b off e;omega))
 clear r
 repeat apply aj
 refine aO (Or.inl rfl) Tryz.results103 (aC.agg rfl rfl hr (au _)) ?_
 exact⟨⟨x.t,a3,c3,a5,c5⟩,rfl,rfl,⟨hS3,hS5,Or.inl t3,Or.inl t5,hl1,hl2⟩,k7,fun b off e=>by have:=g3 b off e;omega,fun b off e=>by have:=g5 b off e;omega⟩
theorem pB{w:World}{n0 m0:Nat}{x y:Tm}(hx:x.In n0 w)(hy:y.In m0 w):dz Tryz.prog 64 #[eR x,eR y] w (.bool (qB x.t y.t)):=by
 refine bJ Tryz.func64 rfl Tryz.ntmps64 rfl ?_
 repeat apply aj
 refine SG.box rfl rfl rfl (ag rfl) (fun b1 w1 hk1 hb1 hB1=>?_)
 refine SG.box rfl rfl rfl (ag rfl) (fun b2 w2 hk2 hb2 hB2=>?_)
 have hB1:aF w1 b1 (.cells (bV x).toArray 52):=hB1
 have hB2:aF w2 b2 (.cells (bV y).toArray 52):=hB2
 obtain⟨-,q0,q1,q2,q3,q4,q5⟩:=aZ (hB1.ay hk2)
 obtain⟨-,r0,r1,r2,r3,r4,r5⟩:=aZ hB2
 have k2:=hk1.trans hk2
 have key:∀{c:Bool},(c=true↔x.t=y.t)→c=qB x.t y.t:=fun{c} h=>by
  by_cases hh:x.t=y.t
  ·rw[h.2 hh,vD hh]
  ·rw[rU hh]
   cases c with
   |false=>rfl
   |true=>exact absurd (h.1 rfl) hh
 have no:¬x.t=y.t→false=qB x.t y.t:=fun h=>(rU h).symm
 by_cases g0:x.t.frm=y.t.frm
 case neg=>
  repeat (first|apply aj|(apply ar;rfl;(first|apply az|apply aD|apply bj|apply aW|apply cu|apply zf)<;>first|rfl|assumption|(apply bN;first|assumption|omega)|exact List.not_mem_nil|apply ah)|refine SG.skip rfl rfl ?_)
  refine aO (Or.inl rfl) Tryz.results64 (aC.tmp rfl) ?_
  exact⟨by rw[←no (fun h=>g0 (by rw[h]))],k2⟩
 by_cases g1:x.t.non=y.t.non
 case neg=>
  repeat (first|apply aj|(apply ar;rfl;(first|apply az|apply aD|apply bf|apply bj|apply aW|apply cu|apply fF|apply zf)<;>first|rfl|assumption|(apply bK;first|assumption|omega)|(apply bN;first|assumption|omega)|exact List.not_mem_nil|apply ah)|refine SG.skip rfl rfl ?_)
  refine aO (Or.inl rfl) Tryz.results64 (aC.tmp rfl) ?_
  exact⟨by rw[←no (fun h=>g1 (by rw[h]))],k2⟩
 by_cases g2:x.t.fee=y.t.fee
 case neg=>
  repeat (first|apply aj|(apply ar;rfl;(first|apply az|apply aD|apply bf|apply bj|apply aW|apply cu|apply fF|apply zf)<;>first|rfl|assumption|(apply bK;first|assumption|omega)|(apply bN;first|assumption|omega)|exact List.not_mem_nil|apply ah)|refine SG.skip rfl rfl ?_)
  refine aO (Or.inl rfl) Tryz.results64 (aC.tmp rfl) ?_
  exact⟨by rw[←no (fun h=>g2 (by rw[h]))],k2⟩
 by_cases g3:x.t.kind=y.t.kind
 case neg=>
  repeat (first|apply aj|(apply ar;rfl;(first|apply az|apply aD|apply bf|apply bj|apply aW|apply cu|apply fF|apply zf)<;>first|rfl|assumption|(apply bK;first|assumption|omega)|(apply bN;first|assumption|omega)|exact List.not_mem_nil|apply ah)|refine SG.skip rfl rfl ?_)
  refine aO (Or.inl rfl) Tryz.results64 (aC.tmp rfl) ?_
  exact⟨by rw[←no (fun h=>g3 (by rw[h]))],k2⟩
 repeat (first|apply aj|(apply ar;rfl;(first|apply az|apply aD|apply bf|apply bj|apply aW|apply cu|apply fF|apply zf)<;>first|rfl|assumption|(apply bK;first|assumption|omega)|exact List.not_mem_nil|apply ah))
 refine SG.ret rfl rfl rfl (vs:=[x.b,y.b]) (bz.of rfl) (beq_spec x.c1 y.c1 (hx.b.sl.ay k2) (hy.b.sl.ay k2)) (fun w3 hk3=>?_)
 have k3:=k2.trans hk3
 have q5:=q5.ay hk3
 have r5:=r5.ay hk3
 by_cases g4:x.t.body=y.t.body
 case neg=>
  rw[decide_eq_false g4]
  repeat (first|apply aj|(apply ar;rfl;(first|apply az|apply aD|apply cu)<;>rfl)|refine SG.skip rfl rfl ?_)
  refine aO (Or.inl rfl) Tryz.results64 (aC.tmp rfl) ?_
  exact⟨by rw[←no (fun h=>g4 (by rw[h]))],k3⟩
 rw[decide_eq_true g4]
 repeat (apply ar;rfl;(first|apply az|apply bf|apply aW|apply cu)<;>first|rfl|assumption|exact List.not_mem_nil)
 refine SG.ret rfl rfl rfl (vs:=[x.s,y.s]) (bz.of rfl) (beq_spec x.c2 y.c2 (hx.s.sl.ay k3) (hy.s.sl.ay k3)) (fun w4 hk4=>?_)
 have e:decide (x.t.sig=y.t.sig)=qB x.t y.t:=key (by
  rw[decide_eq_true_iff]
  constructor
  ·intro h
   cases hX:x.t with|mk a b c d e f=>
   cases hY:y.t with|mk a' b' c' d' e' f'=>
   rw[hX,hY] at g0 g1 g2 g3 g4 h
   simp only at g0 g1 g2 g3 g4 h
   subst g0 g1 g2 g3 g4 h
   rfl
  ·intro h
   rw[h])
 rw[e]
 repeat (first|apply aj|(apply ar;rfl;(first|apply aD|apply cu)<;>rfl))
 refine aO (Or.inl rfl) Tryz.results64 (aC.tmp rfl) ?_
 exact⟨rfl,k3.trans hk4⟩
theorem iP{w:World}{n0:Nat}{x:Tm}(hx:x.In n0 w):dz Tryz.prog 18 #[eR x] w (dv (aR x.t)):=by
 refine bA Tryz.func18 rfl Tryz.ntmps18 rfl ?_
 have hl1:=hx.l1
 have hl2:=hx.l2
 have hh1:=nN x.t
 have hh2:(lV x.t).length≤1000000000:=by
  have:=bU x.t.sig.length
  simp only[lV,Bu,List.length_append]
  omega
 repeat apply aj
 refine SG.box rfl rfl rfl (ag rfl) (fun b1 w1 hk1 hb1 hB1=>?_)
 have hB1:aF w1 b1 (.cells (bV x).toArray 52):=hB1
 refine SG.alloc rfl rfl rfl (fun b2 w2 hk2 hb2 hB2=>?_)
 have hB2:aF w2 b2 (.cells (dc zd).toArray 47):=hB2
 have k2:=hk1.trans hk2
 obtain⟨r,-,-,-,-,-,-⟩:=aZ (hB1.ay hk2)
 repeat (first|apply aj|(apply ar;rfl;apply bj<;>first|rfl|assumption|exact List.not_mem_nil|apply au))
 refine SG.call rfl rfl rfl (vs:=[eR x]) (bz.of rfl) ((tP (hx.ay k2)).mono (fun e w3 hh=>?_))
 obtain⟨v3,he,ho3,hk3⟩:=hh
 refine⟨_,he,?_⟩
 clear r he
 obtain⟨a3,c3,rfl,hS3⟩:=Bs.own ho3
 skip
 refine SG.ret rfl rfl rfl (vs:=[.slice a3 (lV x.t).length c3]) (bz.of rfl) (mJ hS3.sl (pI ho3) (fun b off e=>cD ho3 b (by subst e;rfl)) hh2 hS3.len) (fun w4 hk4=>?_)
 refine SG.aN (l:=dc (kV (lV x.t))) rfl rfl (ag rfl) (ag rfl) ((hB2.ay hk3).ay hk4) (ah _) rfl (bu _) (fun w5 hk5 hB5=>?_)
 have hr:Row w5 b2 0 (dc (kV (lV x.t))):=Row.all hB5 rfl
 repeat apply aj
 refine aO (Or.inl rfl) Tryz.results18 (by exact aC.agg rfl rfl (by assumption) (by first|exact ah _|exact nc_length _|exact rc_length _ _ _|exact aL _|exact dl_length _ _ _ _|exact aX _|exact aU _|exact bC _|exact au _|rfl)) ?_
 exact⟨rfl,((k2.trans hk3).trans hk4).ai hk5 (aV (by have:=hk1.size;omega))⟩
end
section
theorem iJ(z:Array Value)(m:Nat):(Builtin.zeroCells z m).toList.length=m*z.size:=by simp[Builtin.zeroCells]
theorem lf{z:Array Value}(hz:bF z.toList=true)(m:Nat):bF (Builtin.zeroCells z m).toList=true:=by
 unfold bF
 rw[List.all_eq_true]
 intro v hv
 simp only[Builtin.zeroCells,Array.toList_map,List.mem_map] at hv
 obtain⟨i,hi,rfl⟩:=hv
 have hi:i<m*z.size:=by simpa using hi
 have h0:0<z.size:=by
  rcases Nat.eq_zero_or_pos z.size with h|h
  ·rw[h] at hi;omega
  ·exact h
 have hlt:i%z.size<z.size:=Nat.mod_lt _ h0
 rw[getElem!_pos z _ hlt]
 exact List.all_eq_true.1 hz _ (by simp)
theorem uh{α:Type}{enc:α→List Value}{w:World}{base g n cap:Nat}{T:TypeId}{sz:Nat}{l:List α}(he:∀x,(enc x).length=sz)(ho:w.ownsRow base T sz (.slice (some ⟨g,0,none⟩) n cap) n (bO enc l))(hn:l.length=n){i:Nat}(hi:i≤n):w.ownsRow base T sz (.slice (some ⟨g,0,none⟩) i cap) i (bO enc (l.take i)):=by
 rcases ho with⟨h1,⟨h2,_⟩|⟨g',cap',cur,h2,hb,hg,hc1,hc2,hc3,hc4⟩⟩
 ·cases h2
 ·cases h2
  refine⟨by rw[bY he,List.length_take];rw[Nat.min_eq_left (by omega)],Or.inr ⟨g,cap,cur,rfl,hb,hg,by omega,hc2,hc3,?_⟩⟩
  have h3:i*sz≤n*sz:=Nat.mul_le_mul_right _ hi
  have:cur.toList.take (i*sz)=(bO enc l).take (i*sz):=by rw[←hc4,List.take_take,Nat.min_eq_left h3]
  rw[this]
  have e:bO enc l=bO enc (l.take i)++bO enc (l.drop i):=by rw[←dx,List.take_append_drop]
  have hl:(bO enc (l.take i)).length=i*sz:=by rw[bY he,List.length_take,Nat.min_eq_left (by omega)]
  rw[e,List.take_append_of_le_length (by omega),←hl,List.take_length]
section
variable {P:Program} {α:Type} {enc:α→List Value} {m:Nat} {Q:Exit→Act→World→Prop} {ops rest:List Oper} {L:Env} {w:World} {ty:TypeId} {pos:String} {af:Array Edge} {q:Option (Nat×Bool)}
theorem SG.GW{base cap g n i:Nat}{t T:TypeId}{inf:TypeInfo}[u:Ut P t (.slice T)][f:dp P T inf]{z:Value}{l:List α}{x:Operand}{c2:Nat}(he:∀x,(enc x).length=inf.size)(hw:want ops L ⟨none,.call {callee:= .builtin .clear,args:= #[x],argTypes:= #[t]},ty,pos,af,q⟩=some true)(hk:known L x=true)
  (hx:bB L x= .slice (some ⟨g,i*inf.size,none⟩) (n-i) c2) (hz:inf.zero=some z) (hzs:Nat.beq z.cells.size inf.size=true) (hone:bF z.cells.toList=true) (ho:w.ownsRow base T inf.size (.slice (some ⟨g,0,none⟩) n cap) n (bO enc l)) (hn:l.length=n) (hi:i<n)
  (h:∀w',Kp [g] w w'→w'.ownsRow base T inf.size (.slice (some ⟨g,0,none⟩) i cap) i (bO enc (l.take i))→SG P m ops Q rest L w'):SG P m ops Q (⟨none,.call {callee:= .builtin .clear,args:= #[x],argTypes:= #[t]},ty,pos,af,q⟩::rest) L w:=by
 have ho2:=uh he ho hn (i:=i) (by omega)
 refine SG.op rfl rfl hw (by simpa[Op.operands,Call.operands] using hk) ?_
 unfold bh
 rcases ho with⟨h1,⟨h2,_⟩|⟨g',cap',cur,h2,hb,hg,hc1,hc2,hc3,hc4⟩⟩
 ·cases h2
 ·cases h2
  have hB:aF w g (.cells cur T):=hg
  have hsz:=Nat.eq_of_beq_eq_true hzs
  have hlen:(Builtin.zeroCells z.cells (n-i)).toList.length=(n-i)*inf.size:=by rw[iJ,hsz]
  have hle:n*inf.size≤cap*inf.size:=Nat.mul_le_mul_right _ hc1
  have hsum:i*inf.size+(n-i)*inf.size=n*inf.size:=by rw[←Nat.add_mul];congr 1;omega
  have hst:=eF (P:=P) (b:=g) (off:=i*inf.size) (T:=T) (Builtin.zeroCells z.cells (n-i)).toList 0 w cur hB (by rw[hlen];omega) (lf hone _)
  simp only[Nat.add_zero] at hst
  have hni:n-i=(n-i-1)+1:=by omega
  have hclear:(Builtin.clear_ #[t] ty #[.slice (some ⟨g,i*inf.size,none⟩) (n-i) c2]).run P w= .ok (.tuple #[]) {w with heap:=w.heap.setIfInBounds g (.cells (jd cur.toList (i*inf.size) (Builtin.zeroCells z.cells (n-i)).toList).toArray T)}:=by
   rw[hni] at hst⊢
   simp only[Builtin.clear_,List.getElem?_toArray,List.getElem?_cons_zero,Sem.run_bind,run_underlying u.eq,Result.andThen_ok,jT hz,hst,Sem.run_pure]
  have:(execOp (bB L) ⟨none,.call {callee:= .builtin .clear,args:= #[x],argTypes:= #[t]},ty,pos,af,q⟩).run P w= .ok (.value (.tuple #[])) {w with heap:=w.heap.setIfInBounds g (.cells (jd cur.toList (i*inf.size) (Builtin.zeroCells z.cells (n-i)).toList).toArray T)}:=by
   simp only[execOp,resolve,invoke,builtin,Sem.run_bind,Sem.run_pure,Result.andThen_ok,List.map_toArray,List.map_cons,List.map_nil,hx,hclear]
  rw[this]
  refine h _ (Kp.set w hB rfl rfl) ?_
  rcases ho2 with⟨k1,⟨k2,_⟩|⟨g',cap',cur',k2,kb,kg,kc1,kc2,kc3,kc4⟩⟩
  ·cases k2
  ·cases k2
   have hu:=hB.uniq kg
   simp only[Obj.cells.injEq] at hu
   obtain⟨rfl,_,_⟩:=hu
   refine⟨k1,Or.inr ⟨g,cap,_,rfl,kb,hB.set _,kc1,kc2,?_,?_⟩⟩
   ·have:=jc (cs:=cur.toList) (off:=i*inf.size) (l:=(Builtin.zeroCells z.cells (n-i)).toList) (by rw[hlen];simp;omega)
    rw[List.size_toArray,this]
    simpa using kc3
   ·rw[List.toList_toArray]
    unfold jd
    rw[List.take_append_of_le_length (by rw[List.length_take];simp;omega),List.take_take,Nat.min_self]
    exact kc4
end
end
section
section
variable {P:Program} {α:Type} {enc:α→List Value} {n:Nat} {Q:Exit→Act→World→Prop} {ops rest:List Oper} {L:Env} {w:World} {ty:TypeId} {pos:String} {af:Array Edge} {q:Option (Nat×Bool)}
theorem SG.Fg{base:Nat}{t e:TypeId}{inf:TypeInfo}[u:Ut P t (.slice e)][f:dp P e inf]{z:Value}{d:Nat}{s x:Operand}{g cap nn m c2:Nat}{a2:Option Addr}{xs ys:List α}
  (hd:Nat.blt d n=true) (hw:want ops L ⟨some d,.call {callee:= .builtin .append,args:= #[s,x],argTypes:= #[t,t]},ty,pos,af,q⟩=some true) (hk:(known L s&&known L x)=true)
  (hs:bB L s= .slice (some ⟨g,0,none⟩) nn cap) (hx:bB L x= .slice a2 m c2) (hm:m=ys.length) (hz:inf.zero=some z) (hzs:Nat.beq z.cells.size inf.size=true) (hsz:Nat.blt 0 inf.size=true) (hel:∀x,(enc x).length=inf.size) (hone:∀x,bF (enc x)=true)
  (hown:w.ownsRow base e inf.size (.slice (some ⟨g,0,none⟩) nn cap) nn (bO enc xs)) (hn:xs.length=nn) (hS:Sl enc inf.size w a2 ys) (hroom:nn+ys.length≤cap) (h63:nn+ys.length≤maxLen) (hbytes:(nn+ys.length)*inf.bytes≤140737488355328) (hbase:base≤w.heap.size)
  (h:∀w',Kp [g] w w'→w'.ownsRow base e inf.size (.slice (some ⟨g,0,none⟩) (nn+m) cap) (nn+m) (bO enc (xs++ys))→SG P n ops Q rest ((d,.slice (some ⟨g,0,none⟩) (nn+m) cap)::L) w'):SG P n ops Q (⟨some d,.call {callee:= .builtin .append,args:= #[s,x],argTypes:= #[t,t]},ty,pos,af,q⟩::rest) L w:=by
 subst hm
 refine SG.op (by simpa using hd) rfl hw (by simpa[Op.operands,Call.operands] using hk) ?_
 unfold bh
 have key:∃w',(Builtin.append_ #[t,t] ty #[.slice (some ⟨g,0,none⟩) nn cap,.slice a2 ys.length c2]).run P w= .ok (.slice (some ⟨g,0,none⟩) (nn+ys.length) cap) w'∧Kp [g] w w'∧w'.ownsRow base e inf.size (.slice (some ⟨g,0,none⟩) (nn+ys.length) cap) (nn+ys.length) (bO enc (xs++ys)):=by
  cases ys with
  |nil=>
   refine⟨w,?_,Kp.refl _ _,?_⟩
   ·have:=tV (P:=P) (ty:=ty) (u:=u) (f:=f) hown a2 c2
    simpa using this
   ·simpa using hown
  |cons y ys=>
   obtain⟨b,off,rfl,_⟩:=hS.at (i:=0) (by simp)
   have hr:=Sl.flat hel (by simp) hS
   have hl:(bO enc (y::ys)).length=(y::ys).length*inf.size:=bY hel _
   obtain⟨v',w',hrun,hown',hkp⟩:=fb (P:=P) (ty:=ty) (d:= .bool) (c:=c2) (u:=u) (f:=f) hz (Nat.eq_of_beq_eq_true hzs) (by simpa[Nat.blt_eq] using hsz) hown hl hr (mS hone _) h63 hbytes hbase
   have hnews:∀j u,(bO enc (y::ys))[j]?=some u→w.cell? ((⟨b,off,none⟩:Addr).add j)=some u:=fun j u hu=>by rw[dd];exact hr.cell hu
   have h1':∀u∈bO enc (y::ys),u.oneCell'=true:=fun u hu=>by rw[mI];exact List.all_eq_true.1 (mS hone _) u hu
   rcases hown.2 with⟨h2,_⟩|⟨g',cap',cur,h2,hbg,hg,hnc,hcm,hcs,htake⟩
   ·cases h2
   ·cases h2
    have hfit:nn*inf.size+(bO enc (y::ys)).length≤cur.size:=by rw[hl,hcs,←Nat.add_mul];exact Nat.mul_le_mul_right _ hroom
    have hr2:=run_append_room (P:=P) w t ty e inf u.eq f.eq g nn cap cur hg ⟨b,off,none⟩ (y::ys).length c2 _ hl hnews h1' hroom hfit
    rw[hr2] at hrun
    cases hrun
    refine⟨_,hr2,?_,by rw[dx];exact hown'⟩
    simpa[aP,Value.ownBlock] using hkp
 obtain⟨w',hrun,hk2,ho2⟩:=key
 have:(execOp (bB L) ⟨some d,.call {callee:= .builtin .append,args:= #[s,x],argTypes:= #[t,t]},ty,pos,af,q⟩).run P w= .ok (.value (.slice (some ⟨g,0,none⟩) (nn+ys.length) cap)) w':=by
  simp only[execOp,resolve,invoke,builtin,Sem.run_bind,Sem.run_pure,Result.andThen_ok,List.map_toArray,List.map_cons,List.map_nil,hs,hx,hrun]
 rw[this]
 exact h w' hk2 ho2
theorem SF{S:List Nat}{w0:World}{F:World→Prop}{d:Option Nat}{T E:TypeId}[u:Ut P T (.slice E)]{sz:Nat}[f:Sz P E sz]{x lo hi mx:Operand}{b off n c:Nat}{k k' k'':IntKind}{z z' z'':Int}{j m r:Nat}(hx:ro L x=some (.slice (some ⟨b,off,none⟩) n c))(hlo:ro L lo=some (.int k z))(hhi:ro L hi=some (.int k' z'))(hmx:ro L mx=some (.int k'' z''))(hz:z=(j:Int))(hz':z'=(m:Int))(hz'':z''=(r:Int))(hj:j≤m∧m≤r∧r≤c):
  aK P S w0 F L ⟨d,.slice T x (some lo) (some hi) (some mx),ty,pos,af,q⟩ (.slice (some ⟨b,if r=j then off else off+j*sz,none⟩) (m-j) (r-j)):=fun w _ _=>by
 obtain⟨i,h2,h3⟩:=f.eq
 obtain⟨q1,q2,q3⟩:=hj
 subst h3
 subst hz
 subst hz'
 subst hz''
 simp only[execOp,ag hx,Option.map_some,Option.map_none,ag hlo,ag hhi,ag hmx,Instr.sliceAt,Sem.run_bind,run_underlying u.eq,Result.andThen,Instr.slice,Instr.sliceBounds,Instr.sliceBound,asIntOf,Sem.run_pure]
 have h4:(0:Int)≤(r:Int)∧(r:Int)≤(c:Int):=⟨by omega,by omega⟩
 simp only[h4,and_self,if_true,Sem.run_pure,Int.toNat_natCast]
 have h5:(0:Int)≤(m:Int)∧(m:Int)≤(r:Int):=⟨by omega,by omega⟩
 simp only[h5,and_self,if_true,Sem.run_pure,Int.toNat_natCast]
 have h6:(0:Int)≤(j:Int)∧(j:Int)≤(m:Int):=⟨by omega,by omega⟩
 simp only[h6,and_self,if_true,Sem.run_pure,sizeOf,typeInfo,Sem.run_bind,run_program,Result.andThen,h2,Int.toNat_natCast]
 by_cases hc:r=j
 ·subst hc;simp
 ·simp[hc,dd]
theorem SG.GV{base cap g k m:Nat}{t T:TypeId}{inf:TypeInfo}[u:Ut P t (.slice T)][f:dp P T inf]{z:Value}{xs:List Value}{x:Operand}{c2:Nat}(hw:want ops L ⟨none,.call {callee:= .builtin .clear,args:= #[x],argTypes:= #[t]},ty,pos,af,q⟩=some true)(hk:known L x=true)
  (hx:bB L x= .slice (some ⟨g,k*inf.size,none⟩) (m+1) c2) (hz:inf.zero=some z) (hzs:Nat.beq z.cells.size inf.size=true) (hone:bF z.cells.toList=true) (ho:w.ownsRow base T inf.size (.slice (some ⟨g,0,none⟩) k cap) k xs) (hroom:k+(m+1)≤cap)
  (h:∀w',Kp [g] w w'→w'.ownsRow base T inf.size (.slice (some ⟨g,0,none⟩) k cap) k xs→SG P n ops Q rest L w'):SG P n ops Q (⟨none,.call {callee:= .builtin .clear,args:= #[x],argTypes:= #[t]},ty,pos,af,q⟩::rest) L w:=by
 refine SG.op rfl rfl hw (by simpa[Op.operands,Call.operands] using hk) ?_
 unfold bh
 rcases ho with⟨h1,⟨h2,_⟩|⟨g',cap',cur,h2,hb,hg,hc1,hc2,hc3,hc4⟩⟩
 ·cases h2
 ·cases h2
  have hB:aF w g (.cells cur T):=hg
  have hsz:=Nat.eq_of_beq_eq_true hzs
  have hlen:(Builtin.zeroCells z.cells (m+1)).toList.length=(m+1)*inf.size:=by rw[iJ,hsz]
  have hle:(k+(m+1))*inf.size≤cap*inf.size:=Nat.mul_le_mul_right _ hroom
  have hsum:k*inf.size+(m+1)*inf.size=(k+(m+1))*inf.size:=by rw[←Nat.add_mul]
  have hst:=eF (P:=P) (b:=g) (off:=k*inf.size) (T:=T) (Builtin.zeroCells z.cells (m+1)).toList 0 w cur hB (by rw[hlen];omega) (lf hone _)
  simp only[Nat.add_zero] at hst
  have hclear:(Builtin.clear_ #[t] ty #[.slice (some ⟨g,k*inf.size,none⟩) (m+1) c2]).run P w= .ok (.tuple #[]) {w with heap:=w.heap.setIfInBounds g (.cells (jd cur.toList (k*inf.size) (Builtin.zeroCells z.cells (m+1)).toList).toArray T)}:=by
   simp only[Builtin.clear_,List.getElem?_toArray,List.getElem?_cons_zero,Sem.run_bind,run_underlying u.eq,Result.andThen_ok,jT hz,hst,Sem.run_pure]
  have:(execOp (bB L) ⟨none,.call {callee:= .builtin .clear,args:= #[x],argTypes:= #[t]},ty,pos,af,q⟩).run P w= .ok (.value (.tuple #[])) {w with heap:=w.heap.setIfInBounds g (.cells (jd cur.toList (k*inf.size) (Builtin.zeroCells z.cells (m+1)).toList).toArray T)}:=by
   simp only[execOp,resolve,invoke,builtin,Sem.run_bind,Sem.run_pure,Result.andThen_ok,List.map_toArray,List.map_cons,List.map_nil,hx,hclear]
  rw[this]
  refine h _ (Kp.set w hB rfl rfl) ⟨h1,Or.inr ⟨g,cap,_,rfl,hb,hB.set _,hc1,hc2,?_,?_⟩⟩
  ·have:=jc (cs:=cur.toList) (off:=k*inf.size) (l:=(Builtin.zeroCells z.cells (m+1)).toList) (by rw[hlen];simp;omega)
   rw[List.size_toArray,this]
   simpa using hc3
  ·rw[List.toList_toArray]
   unfold jd
   rw[List.take_append_of_le_length (by rw[List.length_take];simp;omega),List.take_take,Nat.min_self]
   exact hc4
end
end
section
open Go.Proofs
structure Em where
 x:Tm
 since:Int
def Em.en(e:Em):En:=⟨e.x.t,e.since⟩
def ec(e:Em):List Value:=bV e.x++(dc (aR e.x.t)++[.int .i64 e.since])
theorem aL(e:Em):(ec e).length=22:=by simp[ec,au,ah]
theorem gU(e:Em):bF (ec e)=true:=by
 have h1:=cC e.x
 have h2:=bu (aR e.x.t)
 simp only[ec,bF,List.all_append,Bool.and_eq_true] at*
 exact⟨h1,h2,rfl⟩
def ev(e:Em):Value:= .agg (ec e).toArray
def p8{α:Type}(l:List α)(i:Nat):List α:=l.take i++l.drop (i+1)
theorem DV{α:Type}{enc:α→List Value}{sz:Nat}{w:World}{b off c j:Nat}{l:List α}(hS:Sl enc sz w (some ⟨b,off,none⟩) l)(hc:l.length≤c):Sl enc sz w (some ⟨b,if c=j then off else off+j*sz,none⟩) (l.drop j):=fun i x hx=>by
 rw[List.getElem?_drop] at hx
 have hlt:=(List.getElem?_eq_some_iff.1 hx).1
 obtain⟨b',off',h,hr⟩:=hS _ x hx
 cases h
 rw[if_neg (by omega)]
 refine⟨_,_,rfl,?_⟩
 rw[Nat.add_mul,←Nat.add_assoc] at hr
 exact hr
def uB{α:Type}(p:α→Bool)(l:List α):Int:=if l.findIdx p<l.length then(l.findIdx p:Int) else-1
theorem rB{α:Type}(p:α→Bool)(l:List α):l.filter (fun x=> !p x)=l.take (l.findIdx p)++(l.drop (l.findIdx p)).filter (fun x=> !p x):=by
 conv=>lhs;rw[←List.take_append_drop (l.findIdx p) l]
 rw[List.filter_append]
 congr 1
 rw[List.filter_eq_self]
 intro x hx
 obtain⟨i,hi,rfl⟩:=List.getElem_of_mem hx
 rw[List.length_take] at hi
 rw[List.getElem_take]
 have:=List.not_of_lt_findIdx (p:=p) (xs:=l) (i:=i) (by omega)
 simpa using this
structure Pass{α:Type}(p:α→Bool)(l cur:List α)(i j:Nat):Prop where
 len:cur.length=l.length
 lt:i<j
 le:j≤l.length
 kept:cur.take i=(l.take j).filter (fun x=> !p x)
 rest:cur.drop j=l.drop j
theorem Pass.init{α:Type}{p:α→Bool}{l:List α}(h:l.findIdx p<l.length):Pass p l l (l.findIdx p) (l.findIdx p+1):=by
 refine⟨rfl,by omega,by omega,?_,rfl⟩
 have h1:=rB p (l.take (l.findIdx p+1))
 have e:l.take (l.findIdx p+1)=l.take (l.findIdx p)++[l[l.findIdx p]]:=List.take_succ_eq_append_getElem h
 rw[e,List.filter_append]
 have h2:p l[l.findIdx p]=true:=List.findIdx_getElem (w:=h)
 simp only[List.filter_cons,h2,Bool.not_true,Bool.false_eq_true,if_false,List.filter_nil,List.append_nil]
 symm
 rw[List.filter_eq_self]
 intro x hx
 obtain⟨i,hi,rfl⟩:=List.getElem_of_mem hx
 rw[List.length_take] at hi
 rw[List.getElem_take]
 have:=List.not_of_lt_findIdx (p:=p) (xs:=l) (i:=i) (by omega)
 simpa using this
theorem Pass.get{α:Type}{p:α→Bool}{l cur:List α}{i j:Nat}(h:Pass p l cur i j)(hj:j<l.length):cur[j]'(by have:=h.len;omega)=l[j]:=by
 have h1:=congrArg (fun x=>x[0]?) h.rest
 have h2:=h.len
 simp only[List.getElem?_drop,Nat.add_zero] at h1
 rw[List.getElem?_eq_getElem (by omega),List.getElem?_eq_getElem hj] at h1
 exact Option.some.inj h1
theorem Pass.drop{α:Type}{p:α→Bool}{l cur:List α}{i j:Nat}(h:Pass p l cur i j)(hj:j<l.length)(hp:p l[j]=true):Pass p l cur i (j+1):=by
 refine⟨h.len,Nat.lt_succ_of_lt h.lt,hj,?_,?_⟩
 ·rw[List.take_succ_eq_append_getElem hj,List.filter_append,←h.kept]
  simp[hp]
 ·rw[←List.drop_drop,h.rest,List.drop_drop]
theorem Pass.wN{α:Type}{p:α→Bool}{l cur:List α}{i j:Nat}(h:Pass p l cur i j)(hj:j<l.length)(hp:p l[j]=false):Pass p l (cur.set i l[j]) (i+1) (j+1):=by
 have h2:=h.len
 have h3:=h.lt
 refine⟨by simpa using h2,Nat.succ_lt_succ h3,hj,?_,?_⟩
 ·rw[List.take_succ_eq_append_getElem hj,List.filter_append,←h.kept]
  rw[List.take_succ_eq_append_getElem (by simp;omega)]
  simp[hp,List.take_set_of_le]
 ·rw[List.drop_set_of_lt (by omega),←List.drop_drop,h.rest,List.drop_drop]
theorem sL{α:Type}{p:α→Bool}{l:List α}(h:l.findIdx p<l.length):uB p l=(l.findIdx p:Int):=if_pos h
theorem sK{α:Type}{p:α→Bool}{l:List α}(h:¬l.findIdx p<l.length):uB p l= -1:=if_neg h
theorem EO{α:Type}{p:α→Bool}{l:List α}(h:¬l.findIdx p<l.length):l.filter (fun x=> !p x)=l:=by
 rw[rB,List.take_of_length_le (by omega),List.drop_of_length_le (by omega)]
 simp
attribute [local irreducible] CG NG SG aK aI Row aF aE aM aR
theorem rp{w:World}{l:List Em}{a:Option Addr}{c:Nat}{f:FuncId}[Fn:bQ Tryz.prog f]{caps:List Value}{p:Em→Bool}(hS:Sl ec 22 w a l)(hl:l.length≤1000000000)(hp:∀o∈l,∀W,Kp [] w W→dz Tryz.prog f (ev o::caps).toArray W (.bool (p o))):
  dz Tryz.prog 161 #[.slice a l.length c,j8 f caps] w (.int .i64 (uB p l)):=by
 refine bJ Tryz.func161 rfl Tryz.ntmps161 rfl ?_
 repeat (first|apply aj|(apply ar;rfl;(first|apply az|apply aD|apply dy)<;>rfl))
 refine CG.loop (X:=Nat) (fun i=>[(0,.slice a l.length c),(1,j8 f caps),(7,.int .i64 (l.length:Int)),(8,.int .i64 (i:Int))]) (fun i w'=>i≤l.length∧Kp [] w w'∧∀j (h:j<l.length),j<i→p l[j]=false) (fun i=>l.length-i) 0 ⟨by omega,Kp.refl _ _,fun j _ h=>absurd h (Nat.not_lt_zero j)⟩ (aS.of rfl) ?_
 rintro i w1 ⟨hi,hk,hno⟩
 by_cases hlt:i<l.length
 ·have g1:(i:Int)<(l.length:Int):=by omega
  obtain⟨b1,o1,rfl,hr1⟩:=(hS.ay hk).at hlt
  have hpi:=fun W h=>hp l[i] (List.getElem_mem hlt) W h
  repeat (first|apply aj|(apply ar;rfl;apply cG<;>first|rfl|(apply bK;first|assumption|omega)))
  refine bL rfl ?_
  repeat (first|apply aj|(apply ar;rfl;(first|apply az|apply aD|apply bj|apply fv)<;>first|rfl|(apply Ar.mk;omega)|assumption|exact List.not_mem_nil|apply aL))
  refine SG.mA (Fn:=Fn) (vs:=[ev l[i]]) (caps:=caps) rfl rfl rfl (ag rfl) (bz.of rfl) (hpi w1 hk) (fun w2 hk2=>?_)
  cases hpp:p l[i] with
  |true=>
   repeat apply aj
   refine bL rfl ?_
   repeat (first|apply aj|(apply ar;rfl;(first|apply az|apply aD)<;>rfl))
   refine aO (Or.inl rfl) Tryz.results161 (aC.tmp rfl) ?_
   have e:l.findIdx p=i:=(List.findIdx_eq hlt).2 ⟨hpp,fun j hj=>by rw[hno j (by omega) hj]⟩
   have e2:uB p l=(i:Int):=by
    unfold uB
    rw[e,if_pos hlt]
   rw[e2]
   exact⟨rfl,hk.trans hk2⟩
  |false=>
   repeat apply aj
   refine bG rfl ?_
   repeat (first|apply aj|(apply ar;rfl;(first|apply az|apply dG)<;>first|rfl|(apply Ar.mk;omega)))
   refine NG.round (i+1) (aS.of rfl) ⟨by omega,hk.trans hk2,fun j h hj=>?_⟩ (by omega)
   by_cases e:j=i
   ·subst e;exact hpp
   ·exact hno j h (by omega)
 ·have g1:¬(i:Int)<(l.length:Int):=by omega
  repeat (first|apply aj|(apply ar;rfl;apply cG<;>first|rfl|(apply bN;first|assumption|omega)))
  refine bG rfl ?_
  repeat (first|apply aj|(apply ar;rfl;apply aD<;>rfl))
  refine aO (Or.inl rfl) Tryz.results161 (aC.tmp rfl) ?_
  have e2:uB p l= -1:=by
   unfold uB
   rw[if_neg]
   intro h
   have h1:=List.findIdx_getElem (w:=h)
   rw[hno _ h (by omega)] at h1
   cases h1
  rw[e2]
  exact⟨rfl,hk⟩
theorem zO{w:World}{base:Nat}{v:Value}{l:List Em}{f:FuncId}[Fn:bQ Tryz.prog f]{caps:List Value}{p:Em→Bool}(ho:w.ownsRow base 216 22 v l.length (bO ec l))(hl:l.length≤1000000000)(hp:∀o∈l,∀W,Kp (aP v) w W→dz Tryz.prog f (ev o::caps).toArray W (.bool (p o))):
  Calls Tryz.prog 173 #[v,j8 f caps] w (fun e w'=>∃v',e= .returned v'∧w'.ownsRow base 216 22 v' (l.filter (fun x=> !p x)).length (bO ec (l.filter (fun x=> !p x)))∧Kp (aP v) w w'∧∀b,v'.ownBlock=some b→v.ownBlock=some b):=by
 refine bJ Tryz.func173 rfl Tryz.ntmps173 rfl ?_
 obtain⟨a,c,rfl,hc,hS⟩:=Sl.own aL ho rfl
 repeat (first|apply aj|(apply ar;rfl;(first|apply az|apply aD)<;>rfl))
 refine SG.ret rfl rfl rfl (vs:=[.slice a l.length c,j8 f caps]) (bz.of rfl) (rp (f:=f) (Fn:=Fn) (caps:=caps) (p:=p) (c:=c) hS hl (fun o ho W hk=>hp o ho W hk.any)) (fun w1 hk1=>?_)
 by_cases hf:l.findIdx p<l.length
 ·rw[sL hf]
  obtain⟨g,cap,e,hcp⟩:=kE ho (by omega)
  cases e
  have hne:¬(l.findIdx p:Int)= -1:=by omega
  have hP:=Pass.init hf
  generalize l.findIdx p=i0 at hf hne hP
  have ho1:=aT ho hk1
  repeat (first|apply aj|(apply ar;rfl;(first|apply az|apply aD|apply fF)<;>first|rfl|(apply bN;first|assumption|omega)))
  refine bG rfl ?_
  repeat (first|apply aj|(apply ar;rfl;(first|apply az|apply aD|apply dG)<;>first|rfl|(apply Ar.mk;omega)))
  refine CG.loop (X:=(Nat×Nat)×List Em) (fun x=>[(0,.slice (some ⟨g,0,none⟩) l.length c),(1,j8 f caps),(5,.int .i64 (x.1.1:Int)),(6,.int .i64 (x.1.2:Int))]) (fun x w'=>Pass p l x.2 x.1.1 x.1.2∧Kp [g] w1 w'∧w'.ownsRow base 216 22 (.slice (some ⟨g,0,none⟩) l.length c) l.length (bO ec x.2)) (fun x=>l.length-x.1.2) ((i0,i0+1),l) ⟨hP,Kp.refl _ _,ho1⟩ (aS.of rfl) ?_
  rintro⟨⟨i,j⟩,cur⟩ w2 ⟨hQ,hk2,ho2⟩
  simp only at hQ ho2
  refine CG.to [(0,.slice (some ⟨g,0,none⟩) l.length c),(1,j8 f caps),(5,.int .i64 (i:Int)),(6,.int .i64 (j:Int))] (aS.of rfl) ?_
  have q1:=hQ.len
  have q2:=hQ.lt
  have q3:=hQ.le
  by_cases hj:j<l.length
  ·have g1:(j:Int)<(l.length:Int):=by omega
   have hrj:=sq aL ho2 q1 (k:=j) (by omega)
   rw[hQ.get hj] at hrj
   repeat (first|apply aj|(apply ar;rfl;(first|apply az|apply cG|apply dy)<;>first|rfl|(apply bK;first|assumption|omega)))
   refine bL rfl ?_
   repeat (first|apply aj|(apply ar;rfl;(first|apply az|apply bj|apply fv)<;>first|rfl|(apply Ar.mk;omega)|assumption|exact List.not_mem_nil|apply aL))
   refine SG.alloc rfl rfl rfl (fun b7 w3 hk3 hb7 hB7=>?_)
   refine SG.aN (l:=ec l[j]) rfl rfl (ag rfl) (ag rfl) hB7 (aL _) rfl (gU _) (fun w4 hk4 hB8=>?_)
   have hr8:Row w4 b7 0 (ec l[j]):=Row.all hB8 rfl
   have k24:Kp [] w2 w4:=hk3.ai hk4 (aV (by omega))
   have hpj:=hp l[j] (List.getElem_mem hj) w4 ((hk1.any.trans hk2).trans k24.any)
   have q5:(cur.set i l[j]).length=l.length:=by simpa using q1
   cases hpp:p l[j] with
   |false=>
    rw[hpp] at hpj
    clear hrj
    repeat (first|apply aj|(apply ar;rfl;(first|apply az|apply bj)<;>first|rfl|assumption|exact List.not_mem_nil|apply aL))
    refine SG.mA (Fn:=Fn) (vs:=[ev l[j]]) (caps:=caps) rfl rfl rfl (ag rfl) (bz.of rfl) hpj (fun w5 hk5=>?_)
    have hr8:=hr8.ay hk5
    have ho5:=aT (aT ho2 k24) hk5
    repeat (first|apply aj|(apply ar;rfl;apply fZ<;>rfl))
    refine bL rfl ?_
    repeat (first|apply aj|(apply ar;rfl;(first|apply az|apply bj|apply fv)<;>first|rfl|(apply Ar.mk;omega)|assumption|exact List.not_mem_nil|apply aL))
    refine SG.F7 (k:=i) (y:=l[j]) (f:=ty.i216) aL gU rfl rfl (ag rfl) rfl (ag rfl) ho5 q1 (by omega) (fun w6 hk6 ho6=>?_)
    repeat (first|apply aj|(apply ar;rfl;(first|apply az|apply aD|apply dG)<;>first|rfl|(apply Ar.mk;omega)))
    refine NG.round ((i+1,j+1),cur.set i l[j]) (aS.of rfl) ⟨hQ.wN hj hpp,((hk2.trans k24.any).trans hk5.any).trans hk6,ho6⟩ (by simp only;omega)
   |true=>
    rw[hpp] at hpj
    clear hrj
    repeat (first|apply aj|(apply ar;rfl;(first|apply az|apply bj)<;>first|rfl|assumption|exact List.not_mem_nil|apply aL))
    refine SG.mA (Fn:=Fn) (vs:=[ev l[j]]) (caps:=caps) rfl rfl rfl (ag rfl) (bz.of rfl) hpj (fun w5 hk5=>?_)
    have ho5:=aT (aT ho2 k24) hk5
    repeat (first|apply aj|(apply ar;rfl;apply fZ<;>rfl))
    refine bG rfl ?_
    repeat (first|apply aj|(apply ar;rfl;(first|apply az|apply aD|apply dG)<;>first|rfl|(apply Ar.mk;omega)))
    refine NG.round ((i,j+1),cur) (aS.of rfl) ⟨hQ.drop hj hpp,(hk2.trans k24.any).trans hk5.any,ho5⟩ (by simp only;omega)
  ·have g1:¬(j:Int)<(l.length:Int):=by omega
   have hkept:=hQ.kept
   rw[show l.take j=l from List.take_of_length_le (by omega)] at hkept
   have hi:i=(l.filter (fun x=> !p x)).length:=by rw[←hkept,List.length_take];omega
   have hci:(if c=i then 0 else 0+i*22)=i*22:=by rw[if_neg (by omega)];omega
   repeat (first|apply aj|(apply ar;rfl;(first|apply az|apply cG|apply dy)<;>first|rfl|(apply bN;first|assumption|omega)))
   refine bG rfl ?_
   repeat (first|apply aj|(apply ar;rfl;(first|apply az|apply HY)<;>first|rfl|(apply Ar.mk;omega)))
   rw[hci]
   refine SG.GW (i:=i) (l:=cur) aL rfl rfl (ag rfl) rfl rfl rfl ho2 q1 (by omega) (fun w3 hk3 ho3=>?_)
   repeat (first|apply aj|(apply ar;rfl;(first|apply az|apply aD|apply Ja)<;>first|rfl|(apply Ar.mk;omega)))
   refine aO (Or.inl rfl) Tryz.results173 (aC.tmp rfl) ?_
   refine⟨_,rfl,?_,(hk1.any.trans hk2).trans hk3,fun _ h=>h⟩
   rw[←hkept,List.length_take,Nat.min_eq_left (by omega)]
   exact ho3
 ·rw[sK hf]
  have h11:(-1:Int)= -1:=rfl
  have ho1:=aT ho hk1
  repeat (first|apply aj|(apply ar;rfl;(first|apply az|apply aD|apply fF)<;>first|rfl|(apply bK;first|assumption|omega)))
  refine bL rfl ?_
  repeat (first|apply aj|(apply ar;rfl;(first|apply az|apply aD)<;>rfl))
  refine aO (Or.inl rfl) Tryz.results173 (aC.tmp rfl) ?_
  rw[EO hf]
  exact⟨_,rfl,ho1,hk1.any,fun _ h=>h⟩
theorem zK{w:World}{base:Nat}{v:Value}{l:List Em}{i:Nat}(ho:w.ownsRow base 216 22 v l.length (bO ec l))(hl:l.length≤100000)(hi:i<l.length)(hbase:base≤w.heap.size):Calls Tryz.prog 128 #[v,.int .i64 (i:Int),.int .i64 ((i:Int)+1)] w (fun e w'=>∃v',e= .returned v'∧Kp (aP v) w w'∧w'.ownsRow base 216 22 v' (p8 l i).length (bO ec (p8 l i))∧∀b,v'.ownBlock=some b→v.ownBlock=some b):=by
 refine ey Tryz.func128 rfl Tryz.ntmps128 rfl ?_
 obtain⟨g,cap,rfl,hcp⟩:=kE ho (by omega)
 have hS:Sl ec 22 w (some ⟨g,0,none⟩) l:=by
  obtain⟨_,_,e,_,h⟩:=Sl.own aL ho rfl
  cases e
  exact h
 have g1:¬(i:Int)=(i:Int)+1:=by omega
 repeat (first|apply aj|(apply ar;rfl;(first|apply az|apply aD|apply dy)<;>rfl))
 refine SG.val rfl rfl rfl rfl (SF (j:=i) (m:=i+1) (r:=l.length) rfl rfl rfl rfl rfl (by omega) rfl (by omega)) ?_
 repeat (first|apply aj|(apply ar;rfl;(first|apply az|apply fF)<;>first|rfl|(apply bN;first|assumption|omega)))
 refine bG rfl ?_
 repeat (first|apply aj|(apply ar;rfl;(first|apply az|apply aD|apply dy)<;>rfl))
 refine CG.tail mixed 6 [0,1,2,3,4,5] (by kernel_rfl) ?_
 repeat (apply bZ;rfl;rfl;(first|apply az|apply Ja)<;>first|rfl|(apply Ar.mk;omega))
 refine aI.val rfl rfl rfl (HY (j:=i+1) rfl rfl (by omega) (Ar.mk (by omega))) ?_
 refine aI.tl (fun w1 hk1 _ _=>?_)
 have ho1:=aT ho hk1
 refine SG.Fg (enc:=ec) (base:=base) (xs:=l.take i) (ys:=l.drop (i+1)) rfl rfl rfl (ag rfl) (ag rfl) List.length_drop.symm rfl rfl rfl aL gU (uh aL ho1 rfl (by omega)) (by rw[List.length_take];omega) (DV (hS.ay hk1) hcp) (by rw[List.length_drop];omega) (by rw[List.length_drop];simp only[maxLen];omega) (by rw[List.length_drop];show(i+(l.length-(i+1)))*96≤_;omega) (Nat.le_trans hbase hk1.size) (fun w2 hk2 ho2=>?_)
 have ek:i+(l.length-(i+1))=l.length-1:=by omega
 have hcl:(p8 l i).length=l.length-1:=by
  unfold p8
  rw[List.length_append,List.length_take,List.length_drop]
  omega
 rw[ek] at ho2⊢
 repeat (first|apply aj|(apply ar;rfl;(first|apply P3|apply az|apply aD|apply dy)<;>first|rfl|(apply Ar.mk;omega)))
 refine SG.GV (base:=base) (g:=g) (k:=l.length-1) (m:=0) (cap:=cap) (xs:=bO ec (p8 l i)) (z:= .agg ((dc zd++([.int .i64 0,.int .i64 0,.int .i64 0,.slice none 0 0,.slice none 0 0]++(dc zd++[.int .i64 0])):List Value).toArray)) (T:=216) (c2:=cap-(l.length-1)) rfl rfl ?_ rfl rfl rfl ho2 (by omega) (fun w3 hk3 ho3=>?_)
 ·refine(ag rfl).trans ?_
  rw[Nat.zero_add,show l.length-(l.length-1)=0+1 by omega]
  rfl
 repeat (first|apply aj|(apply ar;rfl;(first|apply az|apply aD)<;>rfl))
 refine aO (Or.inl rfl) Tryz.results128 (aC.tmp rfl) ?_
 exact⟨_,rfl,(hk1.any.trans hk2).trans hk3,by rw[hcl];exact ho3,fun _ h=>h⟩
end
section
open Go.Proofs
def dh(n:Nat)(w:World)(S:List Nat):Prop:=∀b∈S,n≤b∧∀cs f,w.heap[b]?≠some (.cells cs 5 f)
theorem dh.cells{w:World}{b:Nat}{cs:Array Value}{T:TypeId}(h:aF w b (.cells cs T))(hT:T≠5):∀cs f,w.heap[b]?≠some (.cells cs 5 f):=fun cs' f e=>by
 have:=h.uniq e
 simp only[Obj.cells.injEq] at this
 exact hT this.2.1
theorem dh.own{w:World}{n0 base n sz:Nat}{v:Value}{T:TypeId}{xs:List Value}(ho:w.ownsRow base T sz v n xs)(hn:n0≤base)(hT:T≠5):dh n0 w (aP v):=fun b hb=>by
 have hb':=aH hb
 refine⟨Nat.le_trans hn (cp ho b hb'),?_⟩
 rcases ho.2 with⟨rfl,_⟩|⟨g,cap,cur,rfl,_,hg,_⟩
 ·cases hb'
 ·cases hb'
  exact dh.cells hg hT
theorem dh.cons{n:Nat}{w:World}{b:Nat}{S:List Nat}(hb:n≤b)(h:∀cs f,w.heap[b]?≠some (.cells cs 5 f))(hS:dh n w S):dh n w (b::S):=fun z hz=>by
 rcases List.mem_cons.1 hz with rfl|hz
 ·exact⟨hb,h⟩
 ·exact hS z hz
theorem dh.nil{n:Nat}{w:World}:dh n w []:=fun z hz=>(by cases hz)
theorem Bs.gd{n:Nat}{S:List Nat}{w w':World}{a:Option Addr}{c:Nat}{l:List UInt8}(h:Bs w a c l)(ht:Tb n w a l)(hk:Kp S w w')(hS:dh n w S):Bs w' a c l∧Tb n w' a l:=by
 have key:l≠[]→∀b off,a=Option.some ⟨b,off,Option.none⟩→b∉S:=fun hn b off e hm=>by
  rcases ht with ht|ht
  ·obtain⟨cs,f,hc⟩:=ht hn b off e
   exact(hS b hm).2 cs f hc
  ·have:=ht b off e
   have:=(hS b hm).1
   omega
 refine⟨⟨h.sl.Jh hk key,h.len,h.some,fun hn b off e=>Nat.lt_of_lt_of_le (h.lt hn b off e) hk.size⟩,ht.kp hk key⟩
theorem Tm.In.gd{n:Nat}{S:List Nat}{x:Tm}{w w':World}(h:x.In n w)(hk:Kp S w w')(hS:dh n w S):x.In n w':=
 ⟨(h.b.gd h.t1 hk hS).1,(h.s.gd h.t2 hk hS).1,(h.b.gd h.t1 hk hS).2,(h.s.gd h.t2 hk hS).2,h.l1,h.l2⟩
theorem eE{w:World}{b off:Nat}{e:Em}(h:Row w b off (ec e)):Row w b off (bV e.x)∧Row w b off (dc e.x.t.frm)∧Row w b (off+8) [.int .i64 e.x.t.non]∧Row w b (off+9) [.int .i64 e.x.t.fee]∧Row w b (off+13) (dc (aR e.x.t))∧Row w b (off+21) [.int .i64 e.since]:=by
 have h0:=h.part [] (bV e.x) (dc (aR e.x.t)++[Value.int .i64 e.since]) (by simp[ec])
 have h1:=h.part (bV e.x) (dc (aR e.x.t)) [Value.int .i64 e.since] (by simp[ec])
 have h2:=h.part (bV e.x++dc (aR e.x.t)) [Value.int .i64 e.since] [] (by simp[ec])
 simp only[List.length_append,au,ah,List.length_nil,Nat.add_zero] at h0 h1 h2
 obtain⟨q0,q1,q2,-⟩:=nB h0
 exact⟨h0,q0,q1,q2,h1,h2⟩
structure Pl(w:World)(base p:Nat)(v:Value)(room:Int)(ms:List Em):Prop where
 blk:aF w p (.cells #[.int .i64 room,v] 214)
 own:w.ownsRow base 216 22 v ms.length (bO ec ms)
 ins:∀e∈ms,e.x.In base w
 bp:base≤p
theorem Pl.Hu{w:World}{base p:Nat}{v:Value}{room:Int}{ms:List Em}(h:Pl w base p v room ms):dh base w (p::aP v):=dh.cons h.bp (dh.cells h.blk (by decide)) (dh.own h.own (Nat.le_refl _) (by decide))
theorem Pl.nb{w:World}{base p:Nat}{v:Value}{room:Int}{ms:List Em}(h:Pl w base p v room ms):∀b,v.ownBlock=some b→b∉[p]:=cK h.own (by decide) h.blk
theorem Pl.np{w:World}{base p:Nat}{v:Value}{room:Int}{ms:List Em}(h:Pl w base p v room ms):p∉aP v:=fun hm=>h.nb p (aH hm) List.mem_cons_self
theorem bW{w w':World}{base n sz:Nat}{v:Value}{T:TypeId}{xs:List Value}{S:List Nat}(ho:w.ownsRow base T sz v n xs)(hk:Kp S w w')(hS:∀b,v.ownBlock=some b→b∉S):w'.ownsRow base T sz v n xs:=by
 refine⟨ho.1,?_⟩
 rcases ho.2 with h|⟨g,cap,cur,rfl,hg,hb,h1,h2,h3,h4⟩
 ·exact Or.inl h
 ·exact Or.inr ⟨g,cap,cur,rfl,hg,aF.kp hb hk (hS g rfl),h1,h2,h3,h4⟩
theorem Pl.kp{w w':World}{base p:Nat}{v:Value}{room:Int}{ms:List Em}{S:List Nat}(h:Pl w base p v room ms)(hk:Kp S w w')(hp:p∉S)(hv:∀b,v.ownBlock=some b→b∉S)(hS:dh base w S):Pl w' base p v room ms:=
 ⟨h.blk.kp hk hp,bW h.own hk hv,fun e he=>(h.ins e he).gd hk hS,h.bp⟩
theorem Pl.ay{w w':World}{base p:Nat}{v:Value}{room:Int}{ms:List Em}(h:Pl w base p v room ms)(hk:Kp [] w w'):Pl w' base p v room ms:=h.kp hk List.not_mem_nil (fun _ _=>List.not_mem_nil) dh.nil
theorem Pl.rows{w:World}{base p:Nat}{v:Value}{room:Int}{ms:List Em}(h:Pl w base p v room ms):Row w p 0 [.int .i64 room]∧Row w p 1 [v]:=
 ⟨Row.of h.blk [] [v] rfl rfl,Row.of h.blk [.int .i64 room] [] rfl rfl⟩
theorem Pl.sl{w:World}{base p:Nat}{v:Value}{room:Int}{ms:List Em}(h:Pl w base p v room ms):∃a c,v= .slice a ms.length c∧ms.length≤c∧Sl ec 22 w a ms:=Sl.own aL h.own rfl
theorem Pl.jw{w:World}{base p:Nat}{v:Value}{room:Int}{ms:List Em}(h:Pl w base p v room ms):base≤w.heap.size:=by
 have:=h.blk.lt
 have:=h.bp
 omega
attribute [local irreducible] CG NG SG aK aI Row aF aE aM aR bg
theorem Cf{w:World}{b4 b5:Nat}{k:Dg}{n:Int}(e:Em)(h4:Row w b4 0 (dc k))(h5:Row w b5 0 [.int .i64 n]):dz Tryz.prog 163 #[ev e,.pointer (some ⟨b4,0,none⟩),.pointer (some ⟨b5,0,none⟩)] w (.bool (jD k n e.en)):=by
 refine fL (args:=[ev e,.pointer (some ⟨b4,0,none⟩),.pointer (some ⟨b5,0,none⟩)]) Tryz.func163 rfl Tryz.ntmps163 rfl ?_
 repeat apply aj
 refine SG.box rfl rfl rfl (ag rfl) (fun b1 w1 hk1 hb1 hB1=>?_)
 have hB1:aF w1 b1 (.cells (ec e).toArray 216):=hB1
 obtain⟨-,q0,q1,-⟩:=eE (Row.all hB1 rfl)
 simp only[Nat.zero_add] at q1
 have h4:=h4.ay hk1
 have h5:=h5.ay hk1
 by_cases g0:e.x.t.frm=k
 case neg=>
  repeat (first|apply aj|(apply ar;rfl;(first|apply az|apply aD|apply bj|apply aW|apply cu|apply zf)<;>first|rfl|assumption|(apply bN;first|assumption|omega)|exact List.not_mem_nil|apply ah)|refine SG.skip rfl rfl ?_)
  refine aO (Or.inl rfl) Tryz.results163 (aC.tmp rfl) ?_
  refine⟨?_,hk1⟩
  have:jD k n e.en=false:=by
   cases hh:jD k n e.en with
   |false=>rfl
   |true=>exact absurd (kI.1 hh).1 g0
  rw[this]
 by_cases g1:e.x.t.non=n
 case neg=>
  repeat (first|apply aj|(apply ar;rfl;(first|apply az|apply aD|apply bf|apply bj|apply aW|apply cu|apply fF|apply zf)<;>first|rfl|assumption|(apply bK;first|assumption|omega)|(apply bN;first|assumption|omega)|exact List.not_mem_nil|apply ah))
  refine aO (Or.inl rfl) Tryz.results163 (aC.tmp rfl) ?_
  refine⟨?_,hk1⟩
  have:jD k n e.en=false:=by
   cases hh:jD k n e.en with
   |false=>rfl
   |true=>exact absurd (kI.1 hh).2 g1
  rw[this]
 repeat (first|apply aj|(apply ar;rfl;(first|apply az|apply aD|apply bf|apply bj|apply aW|apply cu|apply fF|apply zf)<;>first|rfl|assumption|(apply bK;first|assumption|omega)|exact List.not_mem_nil|apply ah))
 refine aO (Or.inl rfl) Tryz.results163 (aC.tmp rfl) ?_
 refine⟨?_,hk1⟩
 have:jD k n e.en=true:=kI.2 ⟨g0,g1⟩
 rw[this]
theorem find_spec{w:World}{base p:Nat}{v:Value}{room:Int}{ms:List Em}(hP:Pl w base p v room ms)(hl:ms.length≤1000000)(k:Dg)(n:Int):dz Tryz.prog 127 #[.pointer (some ⟨p,0,none⟩),dv k,.int .i64 n] w (.int .i64 (uB (fun e:Em=>jD k n e.en) ms)):=by
 refine ey Tryz.func127 rfl Tryz.ntmps127 rfl ?_
 repeat apply aj
 refine SG.box rfl rfl rfl (ag rfl) (fun b4 w1 hk1 hb4 hB4=>?_)
 refine SG.box rfl rfl rfl (ag rfl) (fun b5 w2 hk2 hb5 hB5=>?_)
 have hB4:aF w1 b4 (.cells (dc k).toArray 47):=hB4
 have hB5:aF w2 b5 (.cells #[.int .i64 n] 3):=hB5
 have r4:Row w2 b4 0 (dc k):=Row.all (hB4.ay hk2) rfl
 have r5:Row w2 b5 0 [.int .i64 n]:=Row.all hB5 rfl
 have k2:=hk1.trans hk2
 have hP:=hP.ay k2
 obtain⟨a,c,rfl,hc,hS⟩:=hP.sl
 obtain⟨-,q1⟩:=hP.rows
 clear hB4 hB5
 repeat (first|apply aj|(apply ar;rfl;(first|apply az|apply aD|apply bf|apply aW|apply bM)<;>first|rfl|assumption|exact List.not_mem_nil))
 refine SG.val rfl rfl rfl rfl (Ht (vs:=[.pointer (some ⟨b4,0,none⟩),.pointer (some ⟨b5,0,none⟩)]) rfl) ?_
 refine SG.ret rfl rfl rfl (vs:=[.slice a ms.length c,j8 163 [.pointer (some ⟨b4,0,none⟩),.pointer (some ⟨b5,0,none⟩)]]) (bz.of rfl) (rp (f:=163) (Fn:=by infer_instance) (caps:=[.pointer (some ⟨b4,0,none⟩),.pointer (some ⟨b5,0,none⟩)]) (p:=fun e:Em=>jD k n e.en) (c:=c) hS (by omega) (fun o ho W hk=>Cf o (r4.ay hk) (r5.ay hk))) (fun w3 hk3=>?_)
 repeat (first|apply aj|(apply ar;rfl;apply aD<;>rfl))
 refine aO (Or.inl rfl) Tryz.results127 (aC.tmp rfl) ?_
 exact⟨rfl,k2.trans hk3⟩
theorem FU(room:Int)(w:World):(Instr.build 214 #[(0,.int .i64 room)]).run Tryz.prog w= .ok (.agg #[.int .i64 room,.slice none 0 0]) w:=by kernel_rfl
theorem BN{w:World}{room:Int}(h1:1≤room)(h2:room≤1024):Calls Tryz.prog 78 #[.int .i64 room] w (fun e w'=>∃p,e= .returned (.tuple #[.pointer (some ⟨p,0,none⟩),.int .i64 0])∧w.heap.size≤p∧Kp [] w w'∧∀base,base≤w.heap.size→Pl w' base p (.slice none 0 0) room []):=by
 refine bA Tryz.func78 rfl Tryz.ntmps78 rfl ?_
 have g1:¬room<1:=by omega
 have g2:¬1024<room:=by omega
 repeat (first|apply aj|(apply ar;rfl;(first|apply az|apply aD|apply cu|apply cG|apply fW)<;>first|rfl|(apply bN;first|assumption|omega)))
 refine bG rfl ?_
 repeat (first|apply aj|(apply ar;rfl;apply az<;>rfl))
 refine SG.val rfl rfl rfl rfl (aG rfl (FU room)) ?_
 refine SG.box rfl rfl rfl (ag rfl) (fun b1 w1 hk1 hb1 hB1=>?_)
 have hB1:aF w1 b1 (.cells #[.int .i64 room,.slice none 0 0] 214):=hB1
 repeat (first|apply aj|(apply ar;rfl;apply aD<;>rfl))
 refine dJ (Or.inl rfl) Tryz.results78 (aC.tmp rfl) (aC.tmp rfl) ?_
 exact⟨b1,rfl,hb1,hk1,fun base hb=>⟨hB1,dR,fun e he=>(by cases he),Nat.le_trans hb hb1⟩⟩
end
end Go.Proofs.YtpnjgjddabeapaaGreatDoor
