/-
  ChainLine answers true for every input of a bulk of at most 1048576, and leaves its arguments as they were. The second form's card; no other conditions.
-/
import Derived.Test.YtpnjgjddabeapaaGreatDoorMl5
namespace Go.Proofs.YtpnjgjddabeapaaGreatDoor
set_option linter.all false
set_option maxHeartbeats 400000000
section
def NdE(q q':Nm):Prop:=q'.x.b=q.x.b∧q'.f=q.f∧q'.t=q.t∧q'.es=q.es
theorem NdE.nms{q q':Nm}(h:NdE q q'):q'.nms=q.nms:=by
 have e:q'.x.b.txs=q.x.b.txs:=by rw[h.1]
 have e:q'.x.xs.map (·.t)=q.x.xs.map (·.t):=e
 have:=congrArg (List.map aK) e
 rw[List.map_map,List.map_map] at this
 exact this
theorem NdE.ht{q q':Nm}(h:NdE q q'):q'.x.ht=q.x.ht:=congrArg Bl.ht h.1
theorem kh{ns ns':List (Dg×Nat×Nm)}{x:Dg}:∀{l:List Dg},(∀d∈l,∃q q',ar ns d=some q∧ar ns' d=some q'∧NdE q.2 q'.2)→cJ ns' x l=cJ ns x l
 |[],_=>rfl
 |d::l,h=>by
  obtain⟨q,q',h1,h2,h3⟩:=h d List.mem_cons_self
  have ih:=kh (x:=x) (l:=l) (fun y hy=>h y (List.mem_cons_of_mem _ hy))
  show(match ar ns' d with|some q=>if 0≤ixZ q.2.nms x then some (q.2.x.ht,q.2.es.getD (ixZ q.2.nms x).toNat 0) else cJ ns' x l|none=>cJ ns' x l)=(match ar ns d with|some q=>if 0≤ixZ q.2.nms x then some (q.2.x.ht,q.2.es.getD (ixZ q.2.nms x).toNat 0) else cJ ns x l|none=>cJ ns x l)
  rw[h1,h2]
  show(if 0≤ixZ q'.2.nms x then some (q'.2.x.ht,q'.2.es.getD (ixZ q'.2.nms x).toNat 0) else cJ ns' x l)=(if 0≤ixZ q.2.nms x then some (q.2.x.ht,q.2.es.getD (ixZ q.2.nms x).toNat 0) else cJ ns x l)
  rw[h3.nms,h3.ht,h3.2.2.2,ih]
theorem fi{κ ν:Type}[DecidableEq κ]{k:κ}{v:ν}:∀{m:List (κ×ν)},ar m k=none→(cp m k v).length=m.length+1
 |[],_=>rfl
 |(x,y)::m,h=>by
  have h:(if x=k then some y else ar m k)=none:=h
  by_cases e:x=k
  ·rw[if_pos e] at h;cases h
  ·rw[if_neg e] at h
   show(if x=k then(x,v)::m else(x,y)::cp m k v).length=_
   rw[if_neg e,List.length_cons,fi h]
   rfl
def sR(p:Int×Int):Prop:=(-1000000≤p.1∧p.1≤1000000)∧(-1000000≤p.2∧p.2≤1000000)
theorem yz{ns:List (Dg×Nat×Nm)}{x:Dg}{l:List Dg}(h:∀p,cJ ns x l=some p→sR p):∃p bb,sR p∧(cJ ns x l=some p∧bb=true∨cJ ns x l=none∧p=(0,0)∧bb=false):=by
 cases hf:cJ ns x l with
 |none=>exact⟨(0,0),false,⟨⟨by decide,by decide⟩,by decide,by decide⟩,Or.inr ⟨rfl,rfl,rfl⟩⟩
 |some p=>exact⟨p,true,h p hf,Or.inl ⟨rfl,rfl⟩⟩
structure OcI(c oc:Cm)(L:List Dg)(i:Nat):Prop where
 pos:0<i
 ns:∀j d,j<i→L[j]?=some d→∃q q',ar c.ns d=some q∧ar oc.ns d=some q'∧NdE q.2 q'.2
 no:∀d,(∀j,j<i→L[j]?≠some d)→ar oc.ns d=none
 line:oc.tr.line oc.tr.tip=L.take i
 tip:L[i-1]?=some oc.tr.tip
 len:oc.tr.nodes.length=i
 ht:oc.tr.ht oc.tr.tip=i-1
theorem AF{nb:Nbk}{c oc:Cm}{f0:Fb}{H Ho:Int}(hi:Hi nb c f0)(ok:gH c H)(oko:gH oc Ho){x0:Dg}(hx0:c.tr.has x0=true){i:Nat}(h:OcI c oc (c.tr.line x0) i)(hil:i<(c.tr.line x0).length)(h4:(c.tr.line x0).length≤4000){b:Bl}(hb:∀d,(c.tr.line x0)[i]?=some d→b=sr c.ns d):
  adZ nb oc b=0∧∀(z:Nat) (qn:Nm) (oc':Cm),qn.x.b=b→(∃p,ar oc.ns b.par=some p∧fl nb b.ht b.mkr p.2.f p.2.t [] b.txs=(0,qn.f,qn.t,qn.es))→oc'.tr=oc.tr.add (aH b) b.par→oc'.ns=cp oc.ns (aH b) (z,qn)→OcI c oc' (c.tr.line x0) (i+1):=by
 have hp:=h.pos
 have hlen:=Tr.cC hx0
 obtain⟨d,q,e1,hq,hh⟩:=mA hi ok hx0 hil
 have hbd:=hb d e1
 rw[pH hq] at hbd
 subst hbd
 have hdt:c.tr.has d=true:=by rw[ok.has,hq];rfl
 have hdh:c.tr.ht d=i:=by have:=hi.ht d q hq;omega
 have hne:d≠c.tr.first:=fun e=>by rw[e,ok.wf.h0] at hdh;omega
 obtain⟨u1,u2,u3,p,u4,u5,u6⟩:=hi.up d q hq hne
 have hil':i-1<(c.tr.line x0).length:=by omega
 obtain⟨d',q',e1',hq',hh'⟩:=mA hi ok hx0 hil'
 have epar:q.2.x.b.par=d':=by
  have g1:(c.tr.line x0).take (i+1)=c.tr.line d:=by
   have:=ok.wf.qP (c.tr.ht x0-i) hx0 (by omega)
   have ea:c.tr.anc (c.tr.ht x0-i) x0=d:=by
    have e:=e1
    unfold Tr.line at e
    rw[if_pos hx0,List.getElem?_reverse (by rw[Tr.bu];omega),Tr.bu,kt _ (by omega)] at e
    have e2:c.tr.ht x0+1-1-i=c.tr.ht x0-i:=by omega
    rw[e2] at e
    exact Option.some.inj e
   rw[ea] at this
   rw[this]
   congr 1
   omega
  have g2:c.tr.line d=c.tr.line (c.tr.par d)++[d]:=ok.wf.mz hdt hne
  have hup:=ok.wf.up d hdt hne
  have g3:(c.tr.line (c.tr.par d))[c.tr.ht (c.tr.par d)]?=some (c.tr.par d):=ok.wf.ik hup.1
  have g4:((c.tr.line x0).take (i+1))[i-1]?=some (c.tr.par d):=by
   rw[g1,g2,List.getElem?_append_left (by rw[Tr.cC hup.1];omega)]
   have:c.tr.ht (c.tr.par d)=i-1:=by omega
   rw[←this]
   exact g3
  rw[List.getElem?_take,if_pos (by omega),e1'] at g4
  rw[←u2]
  exact(Option.some.inj g4).symm
 have etip:oc.tr.tip=d':=by
  have:=h.tip
  rw[e1'] at this
  exact(Option.some.inj this).symm
 rw[epar] at u4
 rw[hq'] at u4
 obtain rfl:=Option.some.inj u4
 obtain⟨q1,q2,f1,f2,f3⟩:=h.ns (i-1) d' (by omega) e1'
 rw[hq'] at f1
 obtain rfl:=Option.some.inj f1
 have hno:ar oc.ns d=none:=h.no d (fun j hj e=>by
  obtain⟨-,g⟩:=uX ok.wf hx0 (i:=j) (by omega) e
  omega)
 have hox:oc.tr.has d=false:=by rw[oko.has,hno];rfl
 have hop:oc.tr.has d'=true:=by rw[oko.has,f2];rfl
 have hadd:oc.tr.addE d d'=0:=by
  unfold Tr.addE
  rw[hox,hop,if_neg (fun g=>Bool.noConfusion g),if_neg (fun g=>Bool.noConfusion g),if_neg (by rw[h.len];omega),if_neg]
  unfold Tr.deep
  rw[etip,Tr.jS]
  simp
 have hrun:fl nb q.2.x.b.ht q.2.x.b.mkr q2.2.f q2.2.t [] q.2.x.b.txs=(0,q.2.f,q.2.t,q.2.es):=by rw[f3.2.1,f3.2.2.1];exact u6
 have hfp:ar oc.ns q.2.x.b.par=some q2:=by rw[epar];exact f2
 refine⟨?_,fun z qn oc' hb' hr ht' hn'=>?_⟩
 ·rw[rv u3 (by rw[u1];exact hno) hfp,if_neg,if_neg,u1,epar]
  ·exact hadd
  ·rw[hrun]
   exact fun g=>g rfl
  ·rw[f3.1]
   exact fun g=>g u5
 obtain⟨p2,r1,r2⟩:=hr
 rw[hfp] at r1
 obtain rfl:=Option.some.inj r1
 rw[hrun] at r2
 simp only[Prod.mk.injEq,true_and] at r2
 rw[u1] at hn'
 rw[u1,epar,wK hadd] at ht'
 have hht:oc.tr.ht d'=i-1:=by rw[←etip];exact h.ht
 have ett:oc'.tr.tip=d:=by
  rw[ht',jR,etip,if_pos (by omega)]
 have hdne:∀{x:Dg},oc.tr.has x=true→d≠x:=fun hx e=>by rw[←e,hox] at hx;cases hx
 have hwf':oc'.tr.WF:=by rw[ht'];exact uv oko.wf hox hop (by rw[h.len];omega)
 have hhd:oc'.tr.has d=true:=by rw[ht',dq];simp
 have hf':oc'.tr.first=oc.tr.first:=by rw[ht'];rfl
 have hdf:d≠oc'.tr.first:=by rw[hf'];exact hdne oko.wf.first
 have hline:oc'.tr.line d=(c.tr.line x0).take (i+1):=by
  rw[hwf'.mz hhd hdf,ht',dP,xN oko.wf hox hop,←etip,h.line,List.take_add_one,e1]
  rfl
 refine⟨Nat.succ_pos _,fun j x hj hx=>?_,fun x hx=>?_,by rw[ett];exact hline,by rw[ett];exact e1,?_,?_⟩
 ·by_cases hji:j<i
  ·obtain⟨w1,w2,k1,k2,k3⟩:=h.ns j x hji hx
   exact⟨w1,w2,k1,by rw[hn'];exact iw hno k2,k3⟩
  ·have:j=i:=by omega
   subst this
   rw[e1] at hx
   obtain rfl:=Option.some.inj hx
   refine⟨q,(z,qn),hq,by rw[hn',aZ,if_pos rfl],?_⟩
   exact⟨hb',r2.1.symm,r2.2.1.symm,r2.2.2.symm⟩
 ·rw[hn',aZ,if_neg (fun e=>hx i (by omega) (by rw[e1,e]))]
  exact h.no x (fun j hj=>hx j (by omega))
 ·rw[ht']
  show(cp oc.tr.nodes d _).length=i+1
  have hnn:ar oc.tr.nodes d=none:=by
   have:=hox
   unfold Tr.has at this
   cases hh:ar oc.tr.nodes d with
   |none=>rfl
   |some _=>rw[hh] at this;cases this
  rw[fi hnn,h.len]
 ·rw[ett,ht',dp,hht]
  omega
theorem xX{nb:Nbk}{c oc:Cm}{f0:Fb}{H:Int}(hi:Hi nb c f0)(ok:gH c H){x0:Dg}(hx0:c.tr.has x0=true){oz dd:Nat}{om:Nm}(hns:oc.ns=[(bE,oz,om)])(htr:oc.tr=Tr.new bE dd)(h1:om.x=bG cz)(h2:om.f=f0)(h3:om.t=t00)(h4:om.es=[]):OcI c oc (c.tr.line x0) 1:=by
 have h0:=ok.wf.uW hx0
 rw[hi.first] at h0
 obtain⟨qf,e1,e2,e3,e4,e5⟩:=hi.fst
 rw[hi.first] at e1
 have hl:∀d,ar oc.ns d=if bE=d then some (oz,om) else none:=fun d=>by rw[hns];rfl
 have htip:oc.tr.tip=bE:=by rw[htr];rfl
 refine⟨Nat.one_pos,fun j d hj hd=>?_,fun d hd=>?_,?_,?_,by rw[htr];rfl,by rw[htip,htr];exact(jd bE dd).h0⟩
 ·have:j=0:=by omega
  subst this
  rw[h0] at hd
  obtain rfl:=Option.some.inj hd
  exact⟨qf,(oz,om),e1,by rw[hl,if_pos rfl],by show om.x.b=_;rw[h1,e2],by rw[e3];exact h2,by rw[e4];exact h3,by rw[e5];exact h4⟩
 ·rw[hl,if_neg (fun e=>hd 0 (by omega) (by rw[h0,e]))]
 ·have e:(c.tr.line x0).take 1=[bE]:=by
   cases hh:c.tr.line x0 with
   |nil=>rw[hh] at h0;cases h0
   |cons a l=>rw[hh] at h0;obtain rfl:=Option.some.inj h0;rfl
  rw[e,htr]
  exact(jd bE dd).lM
 ·rw[htip];exact h0
theorem C2:Tryz.prog.cellsOf 54=2:=by kernel_rfl
theorem El:Tryz.prog.cellsOf 36=1:=by kernel_rfl
theorem vO{p:Int×Int}(h:sR p):(Tryz.prog.keyLits (Tryz.prog.types.size+1) 54 (dnc p)).isSome=true:=by
 obtain⟨m,hm⟩:=B9
 rw[hm]
 obtain⟨a,b⟩:=p
 obtain⟨⟨h1,h2⟩,h3,h4⟩:=h
 simp only at h1 h2 h3 h4
 simp[dnc,Program.keyLits,Tryz.underlying54,Tryz.underlying3,Tryz.underlying36,FH,C2,El,qq a (by omega) (by omega),qq b (by omega) (by omega),List.range,List.range.loop]
theorem oN(p:Int×Int):(Value.agg (dnc p).toArray).formed Tryz.prog 54=true:=by
 simp[Value.formed,Tryz.underlying54,C2,dnc]
theorem yD{p:Int×Int}(h:sR p)(w:World):(Op.equal 54 (Value.agg (dnc p).toArray) (Value.agg (dnc p).toArray)).run Tryz.prog w= .ok true w:=by
 obtain⟨r,h1,h2⟩:=oK (P:=Tryz.prog) (T:=54) 3 (by omega) (by kernel_rfl) (by kernel_rfl) (by rw[Tryz.underlying54]) (by kernel_rfl) (oN p) (oN p) (vO h) (vO h) w
 rw[h2.2 rfl] at h1
 exact h1
theorem AZ:Tryz.prog.eqGuardType Tryz.prog.depth 54=false:=by kernel_rfl
theorem qdn{S:List Nat}{w0:World}{F:World→Prop}{L:Env}{d:Option Nat}{ty:TypeId}{pos:String}{af:Array Edge}{g:Option (Nat×Bool)}{x y:Operand}{T':TypeId}{p:Int×Int}(hx:ro L x=some (.agg (dnc p).toArray))(hy:ro L y=some (.agg (dnc p).toArray))(h:sR p):aN Tryz.prog S w0 F L ⟨d,.binOp .neq 54 x y T',ty,pos,af,g⟩ (.bool false):=fun w _ _=>by
 simp[execOp,ag hx,ag hy,eqGuard,binOp,yD h,AZ]
theorem KA{S:List Nat}{w0:World}{F:World→Prop}{L:Env}{d:Option Nat}{ty:TypeId}{pos:String}{af:Array Edge}{g:Option (Nat×Bool)}{T T':TypeId}[u:Ut Tryz.prog T .bool]{x y:Operand}{a:Bool}(hx:ro L x=some (.bool a))(hy:ro L y=some (.bool a)):aN Tryz.prog S w0 F L ⟨d,.binOp .neq T x y T',ty,pos,af,g⟩ (.bool false):=by
 have:=qnb (P:=Tryz.prog) (S:=S) (w0:=w0) (F:=F) (d:=d) (ty:=ty) (pos:=pos) (af:=af) (g:=g) (T:=T) (T':=T') (u:=u) hx hy
 rwa [show(!(a==a))=false by simp] at this
def ErB(e:Int):Prop:=0≤e∧e≤1000
theorem Cn(f:Fb)(a:Dg)(n:Int):ErB (mvz f a n):=by
 unfold mvz ErB
 split
 ·omega
 ·split<;>omega
theorem DR(f:Fb)(a:Dg)(l:List UInt8):ErB (tdz f a l):=by
 unfold tdz
 cases l with
 |nil=>show ErB 3;exact⟨by decide,by decide⟩
 |cons u l=>
  show ErB (if mvz f a (u.toNat:Int)≠0 then mvz f a (u.toNat:Int) else if u=13 then 10 else 0)
  split
  ·exact Cn _ _ _
  ·unfold ErB
   split<;>omega
theorem AM(l:List UInt8):ErB (bI l):=by
 unfold bI ErB
 split
 ·decide
 ·split<;>decide
theorem Aq(l:List UInt8):ErB (cZ l):=by
 have hl:=fun l=>AM l
 unfold ErB at*
 unfold cZ
 split
 ·exact hl _
 ·split
  ·exact hl _
  ·split
   ·decide
   ·split<;>decide
theorem Dk(f:Fb)(t:Tx):ErB (oW f t):=by
 unfold oW
 split
 ·split
  ·exact Aq _
  ·exact Cn _ _ _
 ·exact DR _ _ _
theorem zp{nb:Nbk}{h:Int}{mk:Dg}:∀(l:List Tx) {f f':Fb} {t t':Tl} {es es':List Int},(∀e∈es,ErB e)→fl nb h mk f t es l=(0,f',t',es')→∀e∈es',ErB e
 |[],f,f',t,t',es,es',he,hr=>by
  rw[qB] at hr
  cases hr
  exact he
 |x::l,f,f',t,t',es,es',he,hr=>by
  by_cases h1:fZ nb x=0
  ·by_cases h2:gu f x=0
   ·rw[mi h1 h2] at hr
    refine zp l ?_ hr
    unfold doa
    rw[if_pos h2]
    intro e hm
    rcases List.mem_append.1 hm with hm|hm
    ·exact he e hm
    ·rw[List.mem_singleton] at hm
     rw[hm]
     exact Dk _ _
   ·have:=mh (nb:=nb) (h:=h) (mk:=mk) (t:=t) (es:=es) (l:=l) h1 h2
    rw[hr] at this
    exact absurd this.symm h2
  ·have:=mg (nb:=nb) (h:=h) (mk:=mk) (f:=f) (t:=t) (es:=es) (l:=l) h1
   rw[hr] at this
   exact absurd this.symm h1
theorem Lu{nb:Nbk}{c:Cm}{f0:Fb}(hi:Hi nb c f0){d:Dg}{q:Nat×Nm}(hq:ar c.ns d=some q):∀e∈q.2.es,ErB e:=by
 by_cases hd:d=c.tr.first
 ·obtain⟨qf,e1,-,-,-,e5⟩:=hi.fst
  rw[hd] at hq
  rw[hq] at e1
  obtain rfl:=Option.some.inj e1
  rw[e5]
  exact fun _ h=>by cases h
 ·obtain⟨-,-,-,p,-,-,u6⟩:=hi.up d q hq hd
  exact zp _ (fun _ h=>by cases h) u6
theorem vC{nb:Nbk}{c:Cm}{f0:Fb}{H:Int}(hi:Hi nb c f0)(ok:gH c H)(hH:H≤1000){d:Dg}:∀{l:List Dg} {p:Int×Int},cJ c.ns d l=some p→sR p
 |x::l,p,h=>by
  have hf:(match ar c.ns x with|some q=>if 0≤ixZ q.2.nms d then some (q.2.x.ht,q.2.es.getD (ixZ q.2.nms d).toNat 0) else cJ c.ns d l|none=>cJ c.ns d l)=some p:=h
  cases hx:ar c.ns x with
  |none=>rw[hx] at hf;exact vC hi ok hH hf
  |some q=>
   rw[hx] at hf
   by_cases h0:0≤ixZ q.2.nms d
   ·have hf:(if 0≤ixZ q.2.nms d then some (q.2.x.ht,q.2.es.getD (ixZ q.2.nms d).toNat 0) else cJ c.ns d l)=some p:=hf
    rw[if_pos h0] at hf
    obtain rfl:=Option.some.inj hf
    obtain⟨g1,g2,-⟩:=ok.nd x q hx
    have hb:ErB (q.2.es.getD (ixZ q.2.nms d).toNat 0):=by
     rw[List.getD_eq_getElem?_getD]
     cases hg:q.2.es[(ixZ q.2.nms d).toNat]? with
     |none=>exact⟨Int.le_refl _,by decide⟩
     |some e=>exact Lu hi hx e (List.mem_of_getElem? hg)
    unfold ErB at hb
    exact⟨⟨by show _≤q.2.x.ht;omega,by show q.2.x.ht≤_;omega⟩,by show _≤List.getD _ _ _;omega,by show List.getD _ _ _≤_;omega⟩
   ·have hf:(if 0≤ixZ q.2.nms d then some (q.2.x.ht,q.2.es.getD (ixZ q.2.nms d).toNat 0) else cJ c.ns d l)=some p:=hf
    rw[if_neg h0] at hf
    exact vC hi ok hH hf
attribute [local irreducible] CG NG SG aN Der Row Blk aB aF aK
theorem oV{w:World}{n:Nat}{A:List Nat}{tot:Int}{c:Cm}(h:dA w n A tot c){q:Nat×Nm}(hq:ar c.ns c.tr.tip=some q):Calls Tryz.prog 31 #[.pointer (some ⟨c.cb,0,none⟩)] w (fun e w'=>∃b',e= .returned (.iface 74 (.pointer (some ⟨b',0,none⟩)))∧kL w' b' q.2.t∧w.heap.size≤b'∧Kp [] w w'):=by
 refine aP Tryz.func31 rfl Tryz.ntmps31 rfl ?_
 repeat (first|apply gst|(apply gsv;rfl;(first|apply qep|apply qmv|apply qas)<;>rfl))
 refine gcf rfl ?_
 repeat (first|apply gst|(apply gsv;rfl;apply qmv<;>rfl))
 refine SG.ret rfl rfl rfl (vs:=[.pointer (some ⟨c.cb,0,none⟩)]) (Evs.of rfl) (hG h hq) (fun w1 hk1=>?_)
 have hN:=(h.ndA hq).kp0 hk1
 obtain⟨-,-,-,-,-,-,-,r⟩:=cU hN.blk
 repeat (apply gsv;rfl;(first|apply qnc|apply qlc|apply qfa)<;>first|rfl|assumption|exact List.not_mem_nil)
 refine SG.sV (t:=74) (v:= .pointer (some ⟨q.2.tb,0,none⟩)) rfl rfl rfl (vs:=[]) (ag rfl) True.intro ((dY hN.app).mono (fun e w4 hh=>?_))
 obtain⟨b',rfl,g,hT,hk4⟩:=hh
 refine⟨_,rfl,?_⟩
 clear r
 repeat (first|apply gst|(apply gsv;rfl;apply qas<;>rfl))
 refine aR (Or.inl rfl) Tryz.results31 (aC.tmp rfl) ?_
 exact⟨b',rfl,hT,Nat.le_trans hk1.size g,hk1.trans hk4⟩
theorem px{w:World}{b b':Nat}{t:Tl}(hT:kL w b t)(hT':kL w b' t):Ret Tryz.prog 251 #[.pointer (some ⟨b,0,none⟩),.iface 74 (.pointer (some ⟨b',0,none⟩))] w (.bool true):=by
 refine bg Tryz.func251 rfl Tryz.ntmps251 rfl ?_
 obtain⟨r0,r1⟩:=jH hT
 obtain⟨s0,s1⟩:=jH hT'
 repeat (first|apply gst|(apply gsv;rfl;(first|apply KB|apply qmv|apply qas|apply qxt)<;>rfl))
 refine CG.tail mixed 21 [0,1,2,3,4,5,6,7,8,9,10,11,12,13,14,15,16,17,18,19,20] (by kernel_rfl) ?_
 repeat (apply gdv;rfl;rfl;(first|apply qnc|apply qmv|apply qlc|apply qla|apply qfa|apply qpk|apply qei)<;>first|rfl|assumption|(apply dct;first|assumption|omega)|exact List.not_mem_nil|apply ah)
 refine Der.tl (fun w1 hk1 _ _=>?_)
 clear r0 r1 s0 s1
 repeat (first|apply gst|(apply gsv;rfl;(first|apply qas|apply qpk|apply qed)<;>first|rfl|exact dct rfl))
 refine aR (Or.inl rfl) Tryz.results251 (aC.tmp rfl) ?_
 exact⟨rfl,hk1⟩
end
section
theorem rJ(l:List Nat):(u4c l).length=4:=rfl
theorem Bv(a:Ax):aW (axc a)=true:=by simp[axc,aW,nh]
theorem Ax.In.up{a:Ax}{n n':Nat}{w:World}(h:a.In n w)(hn:n≤n'):a.In n' w:=⟨h.b,fun h0 b off e=>Nat.lt_of_lt_of_le (h.bn h0 b off e) hn,h.l,fun h0 b off e=>Nat.lt_of_lt_of_le (h.ln h0 b off e) hn,h.lb,h.ll,h.l2⟩
attribute [local irreducible] CG NG SG aN Der Row Blk aB aF bA acU
theorem yC(w:World)(a:Option Addr)(c n:Nat):Ret Tryz.prog 11 #[.slice a n c] w (.bool (decide ((n:Int)≤40))):=by
 refine aP Tryz.func11 rfl Tryz.ntmps11 rfl ?_
 repeat (first|apply gst|(apply gsv;rfl;(first|apply qmv|apply qas|apply qln|apply qle)<;>first|rfl|exact dcu))
 refine aR (Or.inl rfl) Tryz.results11 (aC.tmp rfl) ?_
 exact⟨rfl,Kp.refl _ _⟩
end
section
def WT:List TypeId:=[44,162,341,200,214,216,52,50]
theorem Cnd.sub{n:Nat}{Ts Us:List TypeId}{A B:List Nat}{w:World}{S:List Nat}(h:Cnd n Ts A w S)(hT:∀T∈Ts,T∈Us)(hA:∀x∈A,x∈B):Cnd 0 Us B w S:=fun b hb=>by
 obtain⟨-,h2⟩:=h b hb
 refine⟨Nat.zero_le _,h2.imp id (fun⟨o,h3,h4⟩=>⟨o,h3,?_⟩)⟩
 cases o with
 |cells a T f=>exact hT T h4
 |map a c=>exact hA b h4
 |_=>exact h4
structure MH(w:World)(bw:Nat)(q:Wl)(a:Option Addr)(ys:List Bm):Prop where
 sl:Sl bkc 18 w a ys
 ins:∀y∈ys,y.In 0 w
 out:ys≠[]→∀b off,a=some ⟨b,off,none⟩→b∉wlS bw q
 out2:∀y∈ys,y.xs≠[]→∀b off,y.a=some ⟨b,off,none⟩→b∉wlS bw q
theorem yR(f l s:UInt8):0≤(bdU f l s).fork∧(bdU f l s).fork≤5∧((bdU f l s).fork.toNat:Int)=(f.toNat:Int)%6∧(bdU f l s).fork=(f.toNat:Int)%6:=by
 have e:(bdU f l s).fork=(f.toNat:Int)%6:=rfl
 rw[e]
 omega
attribute [local irreducible] CG NG SG aN Der Row Blk aB aF bA acU bdU wlS sr
end
section
theorem wq(b:Bd):(bdL b).length=3:=rfl
attribute [local irreducible] CG NG SG aN Der Row Blk aB aF bA acU bdU wlS sr aK ni bE aH aS lU fl adZ
theorem uU{w:World}(f l s:UInt8){m4:List Nat}(hm:∀x∈m4,x<65536){a:Option Addr}{c:Nat}{acts:List Ax}(hS:Sl axc 9 w a acts)(hI:∀x∈acts,x.In w.heap.size w)(hb:∀x∈acts,x.body.length≤10000000):
  Calls Tryz.prog 7 #[.agg #[bv f,bv l,bv s],u4v m4,.slice a acts.length c] w (fun e w'=>e= .returned (.bool true)∧Kp [] w w'):=by
 refine dg Tryz.func7 rfl Tryz.ntmps7 rfl ?_
 obtain⟨hz,he0,he1⟩:=zR hm
 obtain⟨u1,u2,u3⟩:=Dh f l s
 repeat apply gst
 refine SG.box rfl rfl rfl (ag rfl) (fun b3 w1 hk1 hb3 hB3=>?_)
 have hB3:Blk w1 b3 (.cells #[bv f,bv l,bv s] 22):=hB3
 refine SG.box rfl rfl rfl (ag rfl) (fun b4 w2 hk2 hb4 hB4=>?_)
 have hB4:Blk w2 b4 (.cells (u4c m4).toArray 24):=hB4
 repeat (first|apply gst|(apply gsv;rfl;apply qas<;>rfl))
 refine SG.ret rfl rfl rfl (vs:=[]) (Evs.of rfl) (lO w2) (fun w3 hk3=>?_)
 have k3:=(hk1.trans hk2).trans hk3
 repeat (apply gsv;rfl;(first|apply qmv|apply qnt)<;>rfl)
 refine SG.ret rfl rfl rfl (vs:=[.slice a acts.length c]) (Evs.of rfl) (yC w3 a c acts.length) (fun w4 hk4=>?_)
 have k4:=k3.trans hk4
 by_cases hfew:acts.length≤40
 rotate_left
 ·have hf':¬(acts.length:Int)≤40:=by omega
  rw[decide_eq_false hf']
  repeat (first|apply gst|(apply gsv;rfl;(first|apply qpk|apply qnt)<;>rfl))
  refine gct rfl ?_
  repeat apply gst
  refine SG.ret rfl rfl rfl (vs:=[]) (Evs.of rfl) (lO w4) (fun w5 hk5=>?_)
  repeat (first|apply gst|(apply gsv;rfl;apply qas<;>rfl))
  refine aR (Or.inl rfl) Tryz.results7 (aC.tmp rfl) ?_
  exact⟨rfl,k4.trans hk5⟩
 have hf':(acts.length:Int)≤40:=by omega
 rw[decide_eq_true hf']
 repeat (first|apply gst|(apply gsv;rfl;(first|apply qpk|apply qnt)<;>rfl))
 refine gcf rfl ?_
 have k14:=(hk2.trans hk3).trans hk4
 have k24:=hk3.trans hk4
 have q0:Row w4 b3 0 [bv f]:=Row.of (hB3.kp0 k14) [] [bv l,bv s] rfl rfl
 have q1:Row w4 b3 1 [bv l]:=Row.of (hB3.kp0 k14) [bv f] [bv s] rfl rfl
 have q2:Row w4 b3 2 [bv s]:=Row.of (hB3.kp0 k14) [bv f,bv l] [] rfl rfl
 repeat (first|apply gst|(apply gsv;rfl;(first|apply zr|apply qlc)<;>first|rfl|(apply Ar.mk;omega)|assumption|exact List.not_mem_nil))
 refine SG.ret rfl rfl rfl (vs:=[bv f,bv l,bv s]) (Evs.of rfl) (qb f l s w4) (fun w4a hk4a=>?_)
 obtain⟨d1,d2,d3,d4⟩:=yR f l s
 obtain⟨B,hBd⟩:∃B,bdU f l s=B:=⟨_,rfl⟩
 rw[hBd] at u1 u2 u3 d1 d2 d3 d4
 rw[hBd]
 clear q0 q1 q2
 refine SG.alloc rfl rfl rfl (fun b7 w4b hk4b hb7 hB7=>?_)
 refine SG.aE (l:=bdL B) rfl rfl (ag rfl) (ag rfl) hB7 (wq _) rfl rfl (fun w5 hk4c hB7=>?_)
 have hk5:=hk4a.trans (hk4b.ai hk4c (bf hb7))
 have k5:=k4.trans hk5
 have hB7:Blk w5 b7 (.cells (bdL B).toArray 31):=hB7
 have r7:Row w5 b7 0 (bdL B):=Row.all hB7 rfl
 have hb3l:=wq B
 have hu4:=rJ m4
 have r4:Row w5 b4 0 (u4c m4):=Row.all ((hB4.kp0 k24).kp0 hk5) rfl
 repeat (first|apply gst|(apply gsv;rfl;apply qla<;>first|rfl|assumption|exact List.not_mem_nil))
 refine SG.call rfl rfl rfl (vs:=[bdv B,u4v m4]) (Evs.of rfl) ((j4 w5 u1 (by omega) hm).mono (fun e w6 hh=>?_))
 obtain⟨hk6,bw,q,y,rfl,h6,hB⟩:=hh
 refine⟨_,rfl,?_⟩
 have ok6:=wo hB (by omega)
 have hi6:=Dd hB q.nb
 have hbd6:=hB.bd
 have htr6:=hB.tr
 clear hB r7 r4
 obtain⟨n,hn⟩:∃n,w5.heap.size=n:=⟨_,rfl⟩
 rw[hn] at h6
 repeat (first|apply gst|(apply gsv;rfl;(first|apply qep|apply qmv|apply qas)<;>rfl))
 refine gcf rfl ?_
 repeat (first|apply gst|(apply gsv;rfl;(first|apply qmv|apply qln)<;>rfl))
 refine CG.loop (X:=Nat×Wl) (fun p=>[(4,.pointer (some ⟨b4,0,none⟩)),(6,.bool false),(7,.pointer (some ⟨b7,0,none⟩)),(8,.pointer (some ⟨bw,0,none⟩)),(46,.slice a acts.length c),(47,.int .i64 (acts.length:Int)),(48,.int .i64 (p.1:Int))])
  (fun p w'=>p.1≤acts.length∧iV w' n (kV (acU m4 4)) bw p.2∧zf p.2 (p.1:Int)∧Kp [] w5 w'∧Hi p.2.nb p.2.c (bal (lp [] (acU m4 4)))) (fun p=>acts.length-p.1) (0,q) ⟨Nat.zero_le _,h6,ok6,hk6,hi6⟩ (aX.of rfl) ?_
 rintro⟨j,q1⟩ w7 ⟨hj,h7,ok7,k57,hi7⟩
 simp only at hj h7 ok7 hi7
 refine CG.to [(4,.pointer (some ⟨b4,0,none⟩)),(6,.bool false),(7,.pointer (some ⟨b7,0,none⟩)),(8,.pointer (some ⟨bw,0,none⟩)),(46,.slice a acts.length c),(47,.int .i64 (acts.length:Int)),(48,.int .i64 (j:Int))] (aX.of rfl) ?_
 by_cases hlt:j<acts.length
 ·have g1:(j:Int)<(acts.length:Int):=by omega
  have k7:=k5.trans k57
  obtain⟨ba,off,rfl,hrow⟩:=(hS.kp0 k7).at hlt
  have hxI:=(hI _ (List.getElem_mem hlt)).kp0 k7
  have hxb:=hb _ (List.getElem_mem hlt)
  generalize acts[j]=x at*
  repeat (first|apply gst|(apply gsv;rfl;apply qls<;>first|rfl|(apply dct;first|assumption|omega)))
  refine gct rfl ?_
  repeat (first|apply gst|(apply gsv;rfl;(first|apply qla|apply qix)<;>first|rfl|(apply Ar.mk;omega)|assumption|exact List.not_mem_nil))
  refine SG.alloc rfl rfl rfl (fun b8 w8 hk8 hb8 hB8=>?_)
  refine SG.aE (l:=axc x) rfl rfl (ag rfl) (ag rfl) hB8 (ti _) rfl (Bv _) (fun w9 hk9 hB9=>?_)
  have k79:=hk8.ai hk9 (bf hb8)
  have r9:Row w9 b8 0 (axc x):=Row.all hB9 rfl
  clear hrow
  have hn5:=k5.size
  have hxn:x.In n w9:=Ax.In.up (hxI.kp0 k79) (by omega)
  repeat (first|apply gst|(apply gsv;rfl;(first|apply qmv|apply qla)<;>first|rfl|assumption|exact List.not_mem_nil))
  refine SG.call rfl rfl rfl (vs:=[.pointer (some ⟨bw,0,none⟩),axv x]) (Evs.of rfl) ((yn (h7.kp0 k79) ok7 (by omega) (by omega) hxn hxb).mono (fun e w10 hh=>?_))
  obtain⟨q2,z,rfl,h10,ok10,hstp,-,hle,ko⟩:=hh
  refine⟨_,rfl,?_⟩
  have k510:Kp [] w5 w10:=(k57.trans k79).ai ko.kp (fun x hx=>Or.inr (by rw[hn];exact(h7.kp0 k79).ge x hx))
  have ej:((j+1:Nat):Int)=(j:Int)+1:=by omega
  clear r9
  repeat (first|apply gst|(apply gsv;rfl;(first|apply qmv|apply qad)<;>first|rfl|(apply Ar.mk;omega)))
  refine NG.round (j+1,q2) (aX.of rfl) ⟨hlt,h10,by simp only;rw[ej];exact ok10,k510,hi7.step ok7.ch hstp hle⟩ (by simp only;omega)
 have g1:¬(j:Int)<(acts.length:Int):=by omega
 repeat (first|apply gst|(apply gsv;rfl;apply qls<;>first|rfl|(apply dcf;first|assumption|omega)))
 refine gcf rfl ?_
 obtain⟨qn,hqn⟩:=ok7.ch.tip
 have hwf:=ok7.ch.wf
 have hB77:Blk w7 b7 (.cells (bdL B).toArray 31):=hB7.kp0 k57
 have r7:Row w7 b7 0 (bdL B):=Row.all hB77 rfl
 have r4:Row w7 b4 0 (u4c m4):=Row.all (((hB4.kp0 k24).kp0 hk5).kp0 k57) rfl
 obtain⟨-,z1,-,-⟩:=bS h7.blk
 have lpm:=h7.nb.map.lt
 obtain⟨N,hNe⟩:∃N,N=w7.heap.size:=⟨_,rfl⟩
 rw[←hNe] at lpm
 repeat apply gst
 refine CG.free mixed 16 [0,1,2,3,4,5,6,8,9,10,7,11,12,13,14,15] [(9,gX () N 76 (fun _=>(tlc t00).toArray) (fun _ _=>True)),(7,gS N acl 10 (acU m4 4)),(11,gCh N B q1.c.vb q1.pm (acU m4 4) t00)] (by kernel_rfl) ?_ ?_
 ·intro p hp
  simp only[List.mem_cons,List.mem_nil_iff,or_false] at hp
  rcases hp with rfl|rfl|rfl
  ·exact pR (fun _ _ _ _ h=>h)
  ·exact vz
  ·exact qV
 repeat (apply gxv;rfl;rfl;(first|apply BI|apply qnc|apply qmv|apply qlc|apply qla|apply qfa)<;>first|rfl|assumption|exact List.not_mem_nil)
 refine bA.val rfl rfl rfl rfl (au rfl FJ) ?_
 refine bA.Ew (Y:=Unit) () rfl hNe rfl rfl rfl rfl rfl (fun _ _ _ _ h=>h) (fun _ _ _=>trivial) (fun q6=>?_)
 repeat (apply gxv;rfl;rfl;apply BI<;>rfl)
 refine bA.vV (acU m4 4) rfl rfl rfl rfl (vs:=[u4v m4]) (Evs.of rfl) (Nat.le_of_eq hNe) (fun W hk _=>(ix W m4 hm).toS aG) (fun a4 c4=>?_)
 refine bA.sX (vs:=[bdv B,.iface 40 (.pointer (some ⟨q1.c.vb,0,none⟩)),.slice a4 (acU m4 4).length c4,.iface 74 (.pointer (some ⟨q6.1,0,none⟩))]) (gCh N B q1.c.vb q1.pm (acU m4 4) t00) rfl rfl rfl rfl (Evs.of rfl) (fun W hk hF=>?_) (fun x=>?_)
 ·have h4:=hF _ (.head _) (by kernel_rfl)
  have h6:=hF _ (.tail _ (.head _)) (by kernel_rfl)
  have sW:=hk.size
  refine(oT (n:=N) (by omega) B h4.sl (by rw[fI];omega) h6.1.2).mono (fun e W' hh=>?_)
  obtain⟨hkW,hh⟩:=hh
  have hcz:kr B (acU m4 4)=0:=by
   unfold kr
   rw[if_neg (fun g=>g u1),if_neg (by omega),hz]
  rcases hh with⟨g,-⟩|⟨-,c,z,m,he,hC,hP,hns,hx,hf',ht,hes,-,g1,g2⟩
  ·exact absurd hcz g
  ·have hC:=hC [q1.pm] (fun x hx=>by rw[List.mem_singleton] at hx;omega)
   exact⟨(c,z,m),he,⟨hC,⟨hP,hns,hx,hf',ht,hes⟩,by show q1.pm≠c.tm;omega,by show q1.pm≠c.nm;omega⟩,hkW⟩
 obtain⟨oc,oz,om⟩:=x
 repeat (apply gxv;rfl;rfl;(first|apply qmv|apply qas|apply qxt)<;>rfl)
 refine bA.tl (fun w8 hk8 hF=>?_)
 have hC:=hF _ (.head _)
 obtain⟨hC8,⟨⟨p1,p2,p3,p4,p5,p6⟩,hns,hx,hf',ht,hes⟩,hp1,hp2⟩:=hC
 simp only at hC8 p1 p2 p3 p4 p5 p6 hns hx hf' ht hes hp1 hp2
 clear r7 r4 hF z1
 have h8:=h7.kp0 hk8
 obtain⟨z0,-,-,-⟩:=bS h8.blk
 obtain⟨T,hT⟩:∃T,q1.c.tr.ht q1.c.tr.tip=T:=⟨_,rfl⟩
 have eht:qn.2.x.ht=(T:Int):=by rw[←hT];exact hi7.ht _ _ hqn
 have hTs:(T:Int)≤40:=by
  have:=(ok7.ch.nd _ _ hqn).2.1
  omega
 have hlen:(q1.c.tr.line q1.c.tr.tip).length=T+1:=by rw[Tr.cC hwf.tip,hT]
 have hln:∀d∈q1.c.tr.line q1.c.tr.tip,∃q,ar q1.c.ns d=some q:=fun d hd=>ok7.ch.get (qO hwf hwf.tip hd)
 have k78:=hk8
 repeat (first|apply gst|(apply gsv;rfl;(first|apply qep|apply qmv|apply qas|apply qpk|apply qni)<;>first|rfl|(apply dct;first|assumption|omega)))
 refine gcf rfl ?_
 repeat (first|apply gst|(apply gsv;rfl;(first|apply qnc|apply qmv|apply qlc|apply qfa)<;>first|rfl|assumption|exact List.not_mem_nil))
 refine SG.call rfl rfl rfl (vs:=[.pointer (some ⟨q1.c.cb,0,none⟩)]) (Evs.of rfl) ((sU h8.ch hwf (by omega) hln).mono (fun e w9 hh=>?_))
 obtain⟨v9,zs,rfl,hL,hk9⟩:=hh
 refine⟨_,rfl,?_⟩
 have hzl:zs.length=T+1:=by have e:=congrArg List.length hL.eq;rw[List.length_map,List.length_map,hlen] at e;exact e
 obtain⟨a9,c9,rfl,-,hS9⟩:=Sl.own ay hL.own rfl
 have h9:=h8.kp0 hk9
 have z0:=z0.kp0 hk9
 have hlast:T<zs.length:=by omega
 have hgeL:=dQ hL.own
 obtain⟨bl,ofl,rfl,hrl⟩:=hS9.at hlast
 have hrl:Row w9 bl (ofl+((zs.length:Int)-1).toNat*18) (bkc zs[T]):=by
  have:((zs.length:Int)-1).toNat=T:=by omega
  rw[this]
  exact hrl
 have hbll:bl<w9.heap.size:=hrl.lt
 have hblg:w8.heap.size≤bl:=hgeL bl ofl rfl
 have hbz:∀{i:Nat} (hi:i<zs.length),∃d,(q1.c.tr.line q1.c.tr.tip)[i]?=some d∧zs[i].b=sr q1.c.ns d∧zs[i].ht=(i:Int):=fun{i} hi=>by
  obtain⟨d,q,e1,e2,e3⟩:=mA hi7 ok7.ch hwf.tip (show i<(q1.c.tr.line q1.c.tr.tip).length by omega)
  have e:(zs.map Bm.b)[i]?=((q1.c.tr.line q1.c.tr.tip).map (sr q1.c.ns))[i]?:=by rw[hL.eq]
  rw[List.getElem?_map,List.getElem?_map,e1,List.getElem?_eq_getElem hi] at e
  have e:=Option.some.inj e
  refine⟨d,e1,e,?_⟩
  rw[pH e2] at e
  exact(congrArg Bl.ht e).trans e3
 have hlb:zs[T].b=qn.2.x.b:=by
  obtain⟨d,e1,e2,-⟩:=hbz hlast
  have e3:(q1.c.tr.line q1.c.tr.tip)[T]?=some q1.c.tr.tip:=by rw[←hT];exact hwf.ik hwf.tip
  rw[e1] at e3
  obtain rfl:=Option.some.inj e3
  rw[e2,pH hqn]
 have hzI:zs[T].In 0 w9:=hL.ins _ (List.getElem_mem hlast)
 obtain⟨zl,hzle⟩:∃zl,zs[T]=zl:=⟨_,rfl⟩
 rw[hzle] at hrl hlb hzI
 have g1z:((zs.length:Int)-1)<(zs.length:Int):=by omega
 have g0z:0≤((zs.length:Int)-1):=by omega
 repeat (first|apply gst|(apply gsv;rfl;apply qas<;>rfl))
 refine CG.dD mixed 21 [0,1,2,3,4,5,6,7,8,9,10,11,12,13,14,15,16,17,18,19,20] [20] [] (fun _=>True) (by kernel_rfl) trivial (fun _ _ _ _=>trivial) ?_
 repeat (apply gdv;rfl;rfl;(first|apply qnc|apply qmv|apply qlc|apply qfa|apply qln)<;>first|rfl|assumption|exact List.not_mem_nil)
 refine Der.call rfl rfl rfl (vs:=[.pointer (some ⟨q1.c.cb,0,none⟩)]) (Evs.of rfl) (fun W hk _=>by
  have:=fD (h9.kp0 hk).ch hqn
  rw[eht] at this
  exact this) ?_
 repeat (apply gdv;rfl;rfl;(first|apply qnc|apply qmv|apply qlc|apply qla|apply qfa|apply qix|apply qni|apply qad|apply qln|apply qsb)<;>first|rfl|(apply Ar.mk;omega)|assumption|(apply dct;first|assumption|omega)|exact List.not_mem_nil|apply ay|exact(Int.toNat_of_nonneg (by omega)).symm|fail)
 refine Der.lu (X:=Bm) (vs:=[.pointer (some ⟨q1.c.cb,0,none⟩)]) (fun y=>bkv y) (fun y W=>y.b=qn.2.x.b∧y.In 0 W) rfl rfl rfl rfl (Evs.of rfl) (fun y W W' hk h=>⟨h.1,h.2.kp0 hk⟩) (fun _ _ _ h=>h) (fun W hk _=>(oR (h9.kp0 hk).ch hqn).mono (fun e W' hh=>?_)) (fun y1=>?_)
 ·obtain⟨y,hy,he,hyI,hk'⟩:=hh
  exact⟨y,he,⟨hy,hyI⟩,hk'⟩
 refine Der.tl (fun w10 hk10 hF _=>?_)
 obtain⟨-,hyb,hyI⟩:=hF
 refine SG.ret rfl rfl rfl (vs:=[bkv zl,bkv y1]) (Evs.of rfl) (sZ (hzI.kp0 hk10) hyI (hlb.trans hyb.symm)) (fun w11 hk11=>?_)
 clear hrl z0 hzI
 have k911:=hk10.trans hk11
 repeat (first|apply gst|(apply gsv;rfl;(first|apply qpk|apply qnt)<;>rfl))
 refine gcf rfl ?_
 have hoc0:OcI q1.c oc (q1.c.tr.line q1.c.tr.tip) 1:=xX hi7 ok7.ch hwf.tip hns p4 hx hf' ht hes
 have oko0:gH oc 0:=(wo (q:=⟨oc,[],undef,0,undef,[],undef,[bG cz]⟩) (y:=bG cz) ⟨p1,p3,p4,p5,⟨oz,om,hns,hx,hf',ht,hes⟩,rfl,rfl,rfl,rfl⟩ (by omega)).ch
 have hgeo:∀x∈chS oc,x<w8.heap.size:=fun x hx=>by
  unfold chS at hx
  simp only[List.mem_cons] at hx
  rcases hx with h|h|h|h|h
  ·rw[h];exact hC8.tree.blk.lt
  ·rw[h];exact hC8.tree.map.lt
  ·rw[h];exact hC8.map.lt
  ·rw[h];exact hC8.pool.blk.lt
  ·exact bO hC8.pool.own x (az h)
 repeat (first|apply gst|(apply gsv;rfl;(first|apply qmv|apply qln)<;>rfl))
 refine CG.loop (X:=Nat×Cm) (fun p=>[(6,.bool false),(8,.pointer (some ⟨bw,0,none⟩)),(11,.pointer (some ⟨oc.cb,0,none⟩)),(106,.slice (some ⟨bl,ofl,none⟩) zs.length c9),(107,.int .i64 (zs.length:Int)),(108,.int .i64 (p.1:Int))])
  (fun p w'=>p.1≤zs.length∧(dA w' N [oc.tm,oc.nm,q1.pm] (kV (acU m4 4)) p.2∧gH p.2 (p.1:Int)∧OcI q1.c p.2 (q1.c.tr.line q1.c.tr.tip) (max 1 p.1))∧(p.2.cb=oc.cb∧p.2.vb=q1.c.vb)∧Kp [] w7 w'∧(Sl bkc 18 w' (some ⟨bl,ofl,none⟩) zs∧(∀y∈zs,y.In 0 w')∧w9.heap.size≤w'.heap.size)∧∀x∈chS p.2,x<w8.heap.size∨w9.heap.size≤x)
  (fun p=>zs.length-p.1) (0,oc) ⟨Nat.zero_le _,⟨hC8.kp0 (hk9.trans k911),oko0,hoc0⟩,⟨rfl,p2⟩,(k78.trans hk9).trans k911,⟨hS9.kp0 k911,fun y hy=>(hL.ins y hy).kp0 k911,k911.size⟩,fun x hx=>Or.inl (hgeo x hx)⟩ (aX.of rfl) ?_
 rintro⟨i,o⟩ w12 ⟨hi,⟨hC12,oko,hO⟩,⟨ecb,evb⟩,k712,⟨hS12,hI12,s912⟩,hge12⟩
 simp only at hi hC12 oko hO ecb evb hge12
 refine CG.to [(6,.bool false),(8,.pointer (some ⟨bw,0,none⟩)),(11,.pointer (some ⟨oc.cb,0,none⟩)),(106,.slice (some ⟨bl,ofl,none⟩) zs.length c9),(107,.int .i64 (zs.length:Int)),(108,.int .i64 (i:Int))] (aX.of rfl) ?_
 by_cases hilt:i<zs.length
 ·have g3:(i:Int)<(zs.length:Int):=by omega
  obtain⟨bc,ofc,ea,hrow⟩:=hS12.at hilt
  cases ea
  have hY:=hI12 _ (List.getElem_mem hilt)
  have hnwY:=hL.nw _ (List.getElem_mem hilt)
  obtain⟨d,ed,ebd,ezh⟩:=hbz hilt
  generalize zs[i]=y2 at*
  repeat (first|apply gst|(apply gsv;rfl;apply qls<;>first|rfl|(apply dct;first|assumption|omega)))
  refine gct rfl ?_
  repeat (first|apply gst|(apply gsv;rfl;(first|apply qmv|apply qla|apply qix)<;>first|rfl|(apply Ar.mk;omega)|assumption|exact List.not_mem_nil|apply ay))
  refine SG.alloc rfl rfl rfl (fun b15 w13 hk13 hb15 hB15=>?_)
  repeat (apply gsv;rfl;apply qas<;>rfl)
  refine SG.aE (l:=bkc y2) rfl rfl (ag rfl) (ag rfl) hB15 (ay _) rfl (cK _) (fun w14 hk14 hB15=>?_)
  have k1214:=hk13.ai hk14 (bf hb15)
  obtain⟨r15,-,p8,-,-⟩:=bh hB15
  have hC14:=hC12.kp0 k1214
  have sl14:=hS12.kp0 k1214
  have in14:∀y∈zs,y.In 0 w14:=fun y hy=>(hI12 y hy).kp0 k1214
  clear hrow
  by_cases hi0:i=0
  ·subst hi0
   repeat (first|apply gst|(apply gsv;rfl;(first|apply qmv|apply qlc|apply qfa|apply qpk|apply qni|apply qgt)<;>first|rfl|assumption|(apply dct;first|assumption|omega)|(apply dcf;first|assumption|omega)|exact List.not_mem_nil)|refine SG.skip rfl rfl ?_)
   refine gcf rfl ?_
   clear r15 p8
   repeat (first|apply gst|(apply gsv;rfl;(first|apply qmv|apply qad)<;>first|rfl|(apply Ar.mk;omega)))
   refine NG.round (0+1,o) (aX.of rfl) ⟨hilt,⟨hC14,oko.mono (by omega),hO⟩,⟨ecb,evb⟩,k712.trans k1214,⟨sl14,in14,Nat.le_trans s912 k1214.size⟩,hge12⟩ (by simp only;omega)
  ·have g4:0<(i:Int):=by omega
   have emx:max 1 i=i:=by omega
   rw[emx] at hO
   obtain⟨hz0,hstep⟩:=AF hi7 ok7.ch oko hwf.tip hO (by omega) (by omega) (b:=y2.b) (fun d' hd'=>by rw[ed] at hd';obtain rfl:=Option.some.inj hd';exact ebd)
   have h14:=h7.kp0 (k712.trans k1214)
   have hN14:dL w14 n o.vb q1.pm q1.vN q1.nb:=by rw[evb];exact h14.nb
   have hlt14:∀a∈[oc.tm,oc.nm,q1.pm],a<w14.heap.size:=fun a ha=>by
    have s1:=(hk9.trans k911).size
    have s2:=k1214.size
    have s3:=k712.size
    have s4:=k78.size
    simp only[List.mem_cons,List.mem_nil_iff,or_false] at ha
    have m1:=hC8.tree.map.lt
    have m2:=hC8.map.lt
    have s5:=hk9.size
    rcases ha with rfl|rfl|rfl
    ·omega
    ·omega
    ·rw[←hNe] at s3;omega
   have hcall:Calls Tryz.prog 27 #[.pointer (some ⟨oc.cb,0,none⟩),bkv y2] w14 (wR w14 N [oc.tm,oc.nm,q1.pm] (kV (acU m4 4)) o q1.nb y2.b):=by
    rw[←ecb]
    exact ky hC14 oko (by omega) (by omega) hlt14 hN14 ((hY.kp0 k1214).mono (Nat.zero_le _))
   repeat (first|apply gst|(apply gsv;rfl;(first|apply qmv|apply qlc|apply qla|apply qfa|apply qni|apply qgt)<;>first|rfl|assumption|(apply dct;first|assumption|omega)|exact List.not_mem_nil|apply ay))
   refine SG.call rfl rfl rfl (vs:=[.pointer (some ⟨oc.cb,0,none⟩),bkv y2]) (Evs.of rfl) (hcall.mono (fun e w15 hh=>?_))
   obtain⟨rfl,hh⟩:=hh
   refine⟨_,rfl,?_⟩
   obtain⟨-,hA⟩:=hh.elim (fun g=>absurd hz0 g.1) id
   obtain⟨pv',ps',z,qn',hC15,hqb,hr,hps,hk15,hpv,hfr⟩:=hA
   have oko':=oko.added hz0 (pv:=pv') hqb hr hps
   rw[hz0]
   clear r15 p8
   obtain⟨o',ho'⟩:∃o',({o with pv:=pv',ps:=ps',tr:=o.tr.add (aH y2.b) y2.b.par,ns:=cp o.ns (aH y2.b) (z,qn')}:Cm)=o':=⟨_,rfl⟩
   have hO':=hstep z qn' o' hqb hr (by rw[←ho']) (by rw[←ho'])
   have e1:o'.cb=o.cb∧o'.vb=o.vb:=by rw[←ho'];exact⟨rfl,rfl⟩
   have hcn:Cnd N CT [o.tm,o.nm] w14 (chS o):=hC14.Be
   have hcn0:Cnd 0 CT [o.tm,o.nm] w14 (chS o):=hcn.sub (fun _ h=>h) (fun _ h=>h)
   have s14:w9.heap.size≤w14.heap.size:=Nat.le_trans s912 k1214.size
   have hge15:∀x∈chS o',x<w8.heap.size∨w9.heap.size≤x:=fun x hx=>by
    rw[←ho'] at hx
    unfold chS at hx hge12
    simp only[List.mem_cons] at hx hge12
    rcases hx with h|h|h|h|h
    ·exact hge12 x (Or.inl h)
    ·exact hge12 x (Or.inr (Or.inl h))
    ·exact hge12 x (Or.inr (Or.inr (Or.inl h)))
    ·exact hge12 x (Or.inr (Or.inr (Or.inr (Or.inl h))))
    ·rcases jT hpv h with g|g
     ·exact hge12 x (Or.inr (Or.inr (Or.inr (Or.inr g))))
     ·exact Or.inr (by omega)
   have hnb:bl∉chS o:=fun hm=>by have:=hge12 bl hm;omega
   have sl15:Sl bkc 18 w15 (some ⟨bl,ofl,none⟩) zs:=sl14.kp hk15 (fun b off e=>by cases e;exact hnb)
   have in15:∀y∈zs,y.In 0 w15:=fun y hy=>(in14 y hy).FG hk15 hcn0 (by decide) (fun hne b off e hm=>by
    have h1:=hge12 b hm
    have h2:=hL.nw y hy b off e
    have h3:=(hL.ins y hy).lt hne e
    omega)
   rw[ho'] at hC15 oko'
   have k715:Kp [] w7 w15:=(k712.trans k1214).ai hk15 (fun x hx=>Or.inr (by rw[←hNe];exact(hcn x hx).1))
   have ej:((i+1:Nat):Int)=(i:Int)+1:=by omega
   repeat (first|apply gst|(apply gsv;rfl;(first|apply qpk|apply qni)<;>first|rfl|(apply dct;first|assumption|omega)))
   refine gcf rfl ?_
   repeat (first|apply gst|(apply gsv;rfl;(first|apply qmv|apply qad)<;>first|rfl|(apply Ar.mk;omega)))
   refine NG.round (i+1,o') (aX.of rfl) ⟨hilt,⟨hC15,by simp only;rw[ej];exact oko',by show OcI q1.c o' _ (max 1 (i+1));rw[Nat.max_eq_right (by omega)];exact hO'⟩,⟨e1.1.trans ecb,e1.2.trans evb⟩,k715,⟨sl15,in15,Nat.le_trans s14 hk15.size⟩,hge15⟩ (by simp only;omega)
 ·have g3:¬(i:Int)<(zs.length:Int):=by omega
  have ei:max 1 i=T+1:=by omega
  rw[ei] at hO
  have eot:o.tr.tip=q1.c.tr.tip:=by
   have e1:=hO.tip
   have e3:(q1.c.tr.line q1.c.tr.tip)[T]?=some q1.c.tr.tip:=by rw[←hT];exact hwf.ik hwf.tip
   rw[show T+1-1=T from rfl,e3] at e1
   exact(Option.some.inj e1).symm
  obtain⟨qa,qo,e1,hqo,hne⟩:=hO.ns T q1.c.tr.tip (Nat.lt_succ_self T) (by rw[←hT];exact hwf.ik hwf.tip)
  rw[hqn] at e1
  obtain rfl:=Option.some.inj e1
  rw[←eot] at hqo
  have eoh:qo.2.x.ht=(T:Int):=hne.ht.trans eht
  have eol:o.tr.line o.tr.tip=q1.c.tr.line q1.c.tr.tip:=by rw[hO.line,←hlen,List.take_length]
  have hfnd:∀x,cJ o.ns x (o.tr.line o.tr.tip)=cJ q1.c.ns x (q1.c.tr.line q1.c.tr.tip):=fun x=>by
   rw[eol]
   refine kh (fun d hd=>?_)
   obtain⟨j,hj,ej⟩:=List.getElem_of_mem hd
   obtain⟨q,q',f1,f2,f3⟩:=hO.ns j d (by omega) (by rw[List.getElem?_eq_getElem hj,ej])
   exact⟨q,q',f1,f2,f3⟩
  have hlno:∀d∈o.tr.line o.tr.tip,∃q,ar o.ns d=some q:=fun d hd=>oko.get (qO oko.wf oko.wf.tip hd)
  have hleno:(o.tr.line o.tr.tip).length≤100000:=by rw[eol];omega
  have h12:=h7.kp0 k712
  obtain⟨z0,-,-,-⟩:=bS h12.blk
  repeat (first|apply gst|(apply gsv;rfl;apply qls<;>first|rfl|(apply dcf;first|assumption|omega)))
  refine gcf rfl ?_
  repeat (first|apply gst|(apply gsv;rfl;(first|apply qnc|apply qmv|apply qlc|apply qfa)<;>first|rfl|assumption|exact List.not_mem_nil))
  refine SG.call rfl rfl rfl (vs:=[.pointer (some ⟨q1.c.cb,0,none⟩)]) (Evs.of rfl) ((gG h12.ch hqn).mono (fun e w13 hh=>?_))
  obtain⟨bt1,bm1,mk1,rfl,hb1,hi1,-,-,hk13⟩:=hh
  refine⟨_,rfl,?_⟩
  have hC13:=hC12.kp0 hk13
  repeat (apply gsv;rfl;apply qmv<;>rfl)
  have hcm:=gG hC13 hqo
  rw[ecb] at hcm
  refine SG.call rfl rfl rfl (vs:=[.pointer (some ⟨oc.cb,0,none⟩)]) (Evs.of rfl) (hcm.mono (fun e w14 hh=>?_))
  obtain⟨bt2,bm2,mk2,rfl,hb2,hi2,-,-,hk14⟩:=hh
  refine⟨_,rfl,?_⟩
  have hb1:=hb1.kp0 hk14
  have k1214:=hk13.trans hk14
  have h14:=h12.kp0 k1214
  have z0:=z0.kp0 k1214
  repeat (first|apply gst|(apply gsv;rfl;(first|apply qnc|apply qmv|apply qas|apply qlc|apply qfa)<;>first|rfl|assumption|exact List.not_mem_nil))
  refine SG.call rfl rfl rfl (vs:=[.pointer (some ⟨q1.c.cb,0,none⟩)]) (Evs.of rfl) ((oV h14.ch hqn).mono (fun e w15 hh=>?_))
  obtain⟨ba1,rfl,ha1,-,hk15⟩:=hh
  refine⟨_,rfl,?_⟩
  repeat (apply gsv;rfl;apply qmv<;>rfl)
  have hca:=oV ((hC13.kp0 hk14).kp0 hk15) hqo
  rw[ecb] at hca
  refine SG.call rfl rfl rfl (vs:=[.pointer (some ⟨oc.cb,0,none⟩)]) (Evs.of rfl) (hca.mono (fun e w16 hh=>?_))
  obtain⟨ba2,rfl,ha2,-,hk16⟩:=hh
  refine⟨_,rfl,?_⟩
  rw[hne.2.2.1] at ha2
  have ha1:=ha1.kp0 hk16
  have k1416:=hk15.trans hk16
  have hb1:=hb1.kp0 k1416
  have hb2:=hb2.kp0 k1416
  have k1216:=k1214.trans k1416
  have h16:=h12.kp0 k1216
  have hC16:=hC12.kp0 k1216
  have z0:=z0.kp0 k1416
  have hsm:jL mk1 mk2=true:=(xE hi1.ok hi2.ok).2 (fun k=>by rw[hi1.eq,hi2.eq,hne.2.1])
  have hg1:=hi1.zC (by omega)
  have hg2:=hi2.zC (by omega)
  have cho:∀{W:World},Kp [] w16 W→Ret Tryz.prog 22 #[.pointer (some ⟨oc.cb,0,none⟩)] W (.int .i64 (T:Int)):=fun hk=>by
   have:=fD (hC16.kp0 hk) hqo
   rw[eoh,ecb] at this
   exact this
  have chc:∀{W:World},Kp [] w16 W→Ret Tryz.prog 22 #[.pointer (some ⟨q1.c.cb,0,none⟩)] W (.int .i64 (T:Int)):=fun hk=>by
   have:=fD (h16.kp0 hk).ch hqn
   rw[eht] at this
   exact this
  repeat (first|apply gst|(apply gsv;rfl;apply qas<;>rfl))
  refine CG.tail mixed 33 [0,1,2,3,4,5,6,7,8,9,10,11,12,13,14,15,16,17,18,19,20,21,22,23,24,25,26,27,28,29,30,31,32] (by kernel_rfl) ?_
  repeat (apply gdv;rfl;rfl;(first|apply Dz|apply qep|apply qmv|apply qpk)<;>rfl)
  refine Der.call rfl rfl rfl (vs:=[.pointer (some ⟨bt1,0,none⟩),.pointer (some ⟨bt2,0,none⟩)]) (Evs.of rfl) (fun W hk _=>by
   have:=qc (hb1.kp0 hk) (hb2.kp0 hk) hg1 hg2
   rw[hsm] at this
   exact this) ?_
  repeat (apply gdv;rfl;rfl;(first|apply qmv|apply qpk|apply qnt)<;>rfl)
  refine Der.sV (t:=74) (v:= .pointer (some ⟨ba1,0,none⟩)) rfl rfl rfl (vs:=[.iface 74 (.pointer (some ⟨ba2,0,none⟩))]) (ag rfl) (Evs.of rfl) (fun W hk _=>px (ha1.kp0 hk) (ha2.kp0 hk)) ?_
  repeat (apply gdv;rfl;rfl;(first|apply qmv|apply qpk|apply qnt)<;>rfl)
  refine Der.call rfl rfl rfl (vs:=[.pointer (some ⟨oc.cb,0,none⟩)]) (Evs.of rfl) (fun W hk _=>cho hk) ?_
  repeat (apply gdv;rfl;rfl;(first|apply qnc|apply qmv|apply qlc|apply qfa)<;>first|rfl|assumption|exact List.not_mem_nil)
  refine Der.tl (fun w17 hk17 _ _=>?_)
  refine SG.ret rfl rfl rfl (vs:=[.pointer (some ⟨q1.c.cb,0,none⟩)]) (Evs.of rfl) (chc hk17) (fun w18 hk18=>?_)
  clear z0
  have k1618:=hk17.trans hk18
  have h18:=h16.kp0 k1618
  have hC18:=hC16.kp0 k1618
  repeat (first|apply gst|(apply gsv;rfl;(first|apply qpk|apply qni)<;>first|rfl|(apply dct;first|assumption|omega)))
  refine gcf rfl ?_
  obtain⟨as4,cs4,ev4,hcs4,hS4⟩:=Sl.own aj h18.sg rfl
  obtain⟨-,-,z2,-⟩:=bS h18.blk
  rw[ev4] at z2
  have hsl:(q1.ss.length:Int)≤1000:=by have:=ok7.sl;omega
  repeat (first|apply gst|(apply gsv;rfl;(first|apply qnc|apply qmv|apply qlc|apply qfa|apply qln)<;>first|rfl|assumption|exact List.not_mem_nil))
  refine CG.loop (X:=Nat) (fun i=>[(6,.bool false),(8,.pointer (some ⟨bw,0,none⟩)),(11,.pointer (some ⟨oc.cb,0,none⟩)),(181,.slice as4 q1.ss.length cs4),(182,.int .i64 (q1.ss.length:Int)),(183,.int .i64 (i:Int))])
   (fun i w'=>i≤q1.ss.length∧Kp [] w18 w') (fun i=>q1.ss.length-i) 0 ⟨Nat.zero_le _,Kp.refl _ _⟩ (aX.of rfl) ?_
  clear z2
  rintro i2 w19 ⟨hi2',k19⟩
  refine CG.to [(6,.bool false),(8,.pointer (some ⟨bw,0,none⟩)),(11,.pointer (some ⟨oc.cb,0,none⟩)),(181,.slice as4 q1.ss.length cs4),(182,.int .i64 (q1.ss.length:Int)),(183,.int .i64 (i2:Int))] (aX.of rfl) ?_
  by_cases hl2:i2<q1.ss.length
  ·have g4:(i2:Int)<(q1.ss.length:Int):=by omega
   obtain⟨bd,ofd,rfl,hrow⟩:=(hS4.kp0 k19).at hl2
   have hX:=(h18.si _ (List.getElem_mem hl2)).kp0 k19
   generalize q1.ss[i2]=x at*
   repeat (first|apply gst|(apply gsv;rfl;apply qls<;>first|rfl|(apply dct;first|assumption|omega)))
   refine gct rfl ?_
   repeat (first|apply gst|(apply gsv;rfl;(first|apply qla|apply qix)<;>first|rfl|(apply Ar.mk;omega)|assumption|exact List.not_mem_nil|apply aj))
   refine SG.alloc rfl rfl rfl (fun b21 w20 hk20 hb21 hB21=>?_)
   refine SG.aE (l:=txc x) rfl rfl (ag rfl) (ag rfl) hB21 (aj _) rfl (bB _) (fun w21 hk21 hB21=>?_)
   have k1921:=hk20.ai hk21 (bf hb21)
   have rx:Row w21 b21 0 (txc x):=Row.all hB21 rfl
   have hX21:=hX.kp0 k1921
   have h21:=h18.kp0 (k19.trans k1921)
   have hC21:=hC18.kp0 (k19.trans k1921)
   obtain⟨z0,-,-,-⟩:=bS h21.blk
   obtain⟨pp,bb,hfit,hval⟩:=yz (x:=aK x.t) (l:=q1.c.tr.line q1.c.tr.tip) (fun p hp=>vC hi7 ok7.ch (by omega) hp)
   have cf1:∀{W:World},Kp [] w21 W→Ret Tryz.prog 17 #[.pointer (some ⟨q1.c.cb,0,none⟩),dv (aK x.t)] W (.tuple #[.agg (dnc pp).toArray,.bool bb]):=fun hk=>by
    have:=iN (h21.kp0 hk).ch hwf (by omega) hln (aK x.t)
    rcases hval with⟨h,rfl⟩|⟨h,rfl,rfl⟩<;>(rw[h] at this;exact this)
   have cf2:∀{W:World},Kp [] w21 W→Ret Tryz.prog 17 #[.pointer (some ⟨oc.cb,0,none⟩),dv (aK x.t)] W (.tuple #[.agg (dnc pp).toArray,.bool bb]):=fun hk=>by
    have:=iN (hC21.kp0 hk) oko.wf hleno hlno (aK x.t)
    rw[hfnd,ecb] at this
    rcases hval with⟨h,rfl⟩|⟨h,rfl,rfl⟩<;>(rw[h] at this;exact this)
   clear hrow
   repeat apply gst
   refine CG.gF mixed [0,1,2,3,4,5,6,7,8,9,12] [(10,11,22,.tmp 195)] (by kernel_rfl) (by kernel_rfl) ?_
   repeat (apply gdv;rfl;rfl;(first|apply qnc|apply qmv|apply qlc|apply qla|apply qfa)<;>first|rfl|assumption|exact List.not_mem_nil|apply aj)
   refine Der.call rfl rfl rfl (vs:=[txv x]) (Evs.of rfl) (fun W hk _=>dR (hX21.kp0 hk)) ?_
   refine Der.call rfl rfl rfl (vs:=[.pointer (some ⟨q1.c.cb,0,none⟩),dv (aK x.t)]) (Evs.of rfl) (fun W hk _=>cf1 hk) ?_
   repeat (apply gdv;rfl;rfl;(first|apply qmv|apply qas|apply qxt)<;>rfl)
   refine Der.one (iA.of (by rfl) rfl rfl rfl (ag rfl) (by rfl) (by rfl) (by rfl)) (fun b22 w22 hk22 hb22 hB22=>?_)
   have rx:=rx.kp0 hk22
   clear z0
   repeat (first|apply gst|(apply gsv;rfl;(first|apply qmv|apply qla)<;>first|rfl|assumption|exact List.not_mem_nil|apply aj))
   refine SG.ret rfl rfl rfl (vs:=[txv x]) (Evs.of rfl) (dR (hX21.kp0 hk22)) (fun w23 hk23=>?_)
   skip
   refine SG.ret rfl rfl rfl (vs:=[.pointer (some ⟨oc.cb,0,none⟩),dv (aK x.t)]) (Evs.of rfl) (cf2 (hk22.trans hk23)) (fun w24 hk24=>?_)
   clear rx
   repeat (apply gsv;rfl;(first|apply qmv|apply qxt)<;>rfl)
   refine SG.alloc rfl rfl rfl (fun b24 w25 hk25 hb24 hB24=>?_)
   refine SG.aE (l:=dnc pp) rfl rfl (ag rfl) (ag rfl) hB24 rfl rfl rfl (fun w26 hk26 hB24=>?_)
   have k2226:=(hk23.trans hk24).trans (hk25.ai hk26 (bf hb24))
   have s1:Row w26 b22 0 (dnc pp):=Row.all (hB22.kp0 k2226) rfl
   have s2:Row w26 b24 0 (dnc pp):=Row.all hB24 rfl
   have hdl:(dnc pp).length=2:=rfl
   repeat (first|apply gst|(apply gsv;rfl;(first|apply KA|apply qdn|apply qmv|apply qas|apply qla|apply qpk)<;>first|rfl|assumption|exact List.not_mem_nil))
   refine gcf rfl ?_
   repeat (first|apply gst|(apply gsv;rfl;(first|apply qmv|apply qad)<;>first|rfl|(apply Ar.mk;omega)))
   refine NG.round (i2+1) (aX.of rfl) ⟨hl2,((k19.trans k1921).trans hk22).trans k2226⟩ (by omega)
  ·have g4:¬(i2:Int)<(q1.ss.length:Int):=by omega
   repeat (first|apply gst|(apply gsv;rfl;apply qls<;>first|rfl|(apply dcf;first|assumption|omega)))
   refine gcf rfl ?_
   repeat (first|apply gst|(apply gsv;rfl;apply qas<;>rfl))
   refine aR (Or.inl rfl) Tryz.results7 (aC.tmp rfl) ?_
   exact⟨rfl,(((k5.trans k57).trans k712).trans k1216).trans (k1618.trans k19)⟩
end
section
open Go.ChangeShapes Go.WideShapes Go.ChangeAt Go.RowKit
theorem yp(os:Os):laidMet Tryz.prog Rows.chainLineUptoRow.laid ((j5 os).forCall (fun _ _=>0) ⟨#[],#[DH,DG,.slice none 0 0],[]⟩).memory:=
 laidMet_of_run' 8 (by kernel_rfl) (by kernel_rfl)
theorem reads(os:Os){H:Type}(enc:TypeId×Value→H):∃places,DataW.whole enc Tryz.prog ((j5 os).forCall (fun _ _=>0) ⟨#[],#[DH,DG,.slice none 0 0],[]⟩).memory Tryz.f7.params.toList Rows.chainLineSpec.vars false #[DH,DG,.slice none 0 0].toList 8=some ([.agg [.lit (.int .u8 0),.lit (.int .u8 0),.lit (.int .u8 0)],.agg [.lit (.int .u16 0),.lit (.int .u16 0),.lit (.int .u16 0),.lit (.int .u16 0)],.nil],[],places):=
 ⟨[],by kernel_rfl⟩
set_option maxRecDepth 100000 in
theorem jn(os:Os)(started:os.Started)(H:Type)(enc:TypeId×Value→H)(F:Stop.Interp):
  ReturnsInHanded {} Tryz.checked os 7 .any ((Rows.OpenSpec.upto Rows.chainLineSpec).preRow enc Tryz.prog Tryz.f7 Rows.chainLineUptoRow.domain false Rows.chainLineUptoRow.laid) (((Rows.OpenSpec.upto Rows.chainLineSpec).at F).post enc Tryz.prog Tryz.f7 false true false false):=by
 obtain⟨places,hx⟩:=reads os enc
 refine returnsInHanded_of_row (C:=Tryz.checked) (s:=Rows.OpenSpec.upto Rows.chainLineSpec) own started (by kernel_rfl) Tryz.func7
  (witness_row_at (enc:=enc) (C:=Tryz.checked) false (j5 os) #[DH,DG,.slice none 0 0] rfl (by kernel_rfl) (by kernel_rfl) (by kernel_rfl)
   (OpenSpec.preRow_of_cond 8 hx (by kernel_rfl) (fun k hk=>by cases hk;kernel_rfl) (by kernel_rfl) (yp os))) ?_
 intro W base args ds gs before hval0 hW0 _ hcond _ _ _ _
 have hval:∀(j:Nat) t v,Tryz.f7.params[j]?=some t→args[j]?=some v→Value.okWide Tryz.prog W .any base t v:=hval0
 have hW':DataW.Whole enc Tryz.prog Tryz.f7.params.toList Rows.chainLineSpec.vars false W args.toList ds gs before:=hW0
 have hW:=hW'
 obtain⟨p,q,hA0,hV,rfl,hfz,hnd⟩:=hW
 have hA:DataW.TrodAll enc Tryz.prog W 0 (fun _=>true) true Tryz.f7.params.toList args.toList ds p:=hA0
 rw[Tryz.params7] at hA hval
 obtain⟨v0,v1,v2,d0,d1,d2,p0,p1,p2,rfl,rfl,rfl,h0,h1,h2⟩:=trodAll_three hA
 have hk:Rows.uptoBulkAll ([d0,d1,d2]++gs)≤1048576:=of_decide_eq_true (hcond _ rfl)
 have hb:Rows.uptoBulk d2≤1048576:=Nat.le_trans (uB (List.mem_append_left _ (by simp))) hk
 obtain⟨f,l,s,rfl⟩:=EE (hval 0 22 v0 rfl rfl) h0
 obtain⟨m4,rfl,hm⟩:=DO (hval 1 24 v1 rfl rfl) h1
 obtain⟨a,c,acts,rfl,hS,hI,hbd⟩:=BC (hval 2 25 v2 rfl rfl) h2 hb
 refine(uU f l s hm hS hI hbd).mono fun e W' ⟨he,hk⟩=>⟨_,he,?_⟩
 exact yo laidOut (by rw[Tryz.params7];exact of_decide_eq_true (by kernel_rfl)) rfl hW' rfl (by kernel_rfl) Tryz.underlying4 hk
theorem lr:Rows.ChainLineUptoSaid:=
 OpenClaim.holds_of_cond 7 Tryz.f7 rfl rfl rfl rfl rfl rfl rfl ⟨rfl,rfl,rfl,rfl,rfl⟩ rfl rfl rfl rfl rfl (by kernel_rfl) Tryz.func7 (by kernel_rfl)
  (of_decide_eq_true (by kernel_rfl)) (by unfold Func.isWrapper;first|(rw[if_pos (by decide+kernel)];kernel_rfl)|(rw[if_neg (by decide+kernel)];exact⟨rfl,rfl⟩))
  (fun os started H enc _ F=>by rw[OpenClaim.pre_eq_preRow];exact jn os started H enc F)
theorem ku(f:FuncId)(fn:Func)(hf:Tryz.pinned.checked.prog.funcNamed "baize/baizelaw30.ChainLine"=some f)(hfn:Tryz.pinned.checked.prog.funcs[f]?=some fn):
  true=Tryz.pinned.checked.prog.looks []∧∀(j:Nat) t,fn.params[j]?=some t→Tryz.pinned.checked.prog.wantsStandIn t=false:=by
 obtain rfl:f=7:=Option.some.inj ((show Tryz.prog.funcNamed "baize/baizelaw30.ChainLine"=some 7 by kernel_rfl).symm.trans hf)|>.symm
 obtain rfl:fn=Tryz.f7:=(Option.some.inj (Tryz.func7.symm.trans hfn)).symm
 refine⟨by kernel_rfl,fun j t ht=>?_⟩
 rw[Tryz.params7] at ht
 have ht:=Array.mem_of_getElem? ht
 simp only[List.mem_toArray,List.mem_cons,List.mem_nil_iff,or_false] at ht
 rcases ht with rfl|rfl|rfl
 ·exact(show Tryz.prog.wantsStandIn 22=false by kernel_rfl)
 ·exact(show Tryz.prog.wantsStandIn 24=false by kernel_rfl)
 ·exact(show Tryz.prog.wantsStandIn 25=false by kernel_rfl)
theorem chainLine_holds:Rows.ChainLineUptoCardSaid:=
 Claim7.holds_tied_plain_at .later [] _ _ _ _ lr (fun _ h=>by cases h) (by kernel_rfl) (fun _ h=>by cases h) chainLineUpto_row_tie rfl ⟨rfl,rfl⟩ (by kernel_rfl) rfl ku (by kernel_rfl)
end
end Go.Proofs.YtpnjgjddabeapaaGreatDoor
