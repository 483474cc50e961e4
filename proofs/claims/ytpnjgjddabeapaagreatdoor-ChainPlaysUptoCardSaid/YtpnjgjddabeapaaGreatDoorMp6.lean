/-
  ChainPlays answers true for every input of a bulk of at most 1048576, and leaves its arguments as they were. The second form's card; no other conditions.
-/
import Derived.Test.YtpnjgjddabeapaaGreatDoorMp5
namespace Go.Proofs.YtpnjgjddabeapaaGreatDoor
set_option linter.all false
set_option maxHeartbeats 400000000
open List Or Go.Proofs.Tryz
section
variable{w:World}
theorem RT{L:Env}{d:Option Nat}{ty:TypeId}{pos:String}{af:Array Edge}{g:Option (Nat×Bool)}{S:List Nat}{F:World->Prop}{x:Operand}{y:Bm}(b:bH L x=eL y):aP prog S w F L ⟨d,.field 50 x 1,ty,pos,af,g⟩ (.int .i64 y.ht):=
 eS (dc y.par) (dc y.mkr++[.slice y.a y.xs.length y.c]) b rfl (by simp[cR]) (by simp[ai])
attribute [local irreducible] CG NG SG aP aM Row aG aF aQ aJ eJ dC dU gu fV gI jJ dot kL fU sV BG AJ D3 yX
theorem BJ{n mb:Nat}{m:Md}(hM:eW w n mb m){c:Cm}{nb:dW}{cN:Int}(R:Ck m c nb cN){n0:Nat}{x:Bm}(hx:x.In n0 w){d:Dg}{q:Nat×Nm}(hq:aC c.ns d=some q){a:Ax}(ha:a.In n w){aw:Option Addr}{cw:Nat}{u:List Dg}(hW:Sl dc 8 w aw u)(eH:u.length<=1000000)
  (aX:x.b=⟨d,q.2.x.ht+1,d1 (yX a.who),rq (d1 (yX a.who)) q.2.f [] (sV (c.ps.map Em.en) (D3 u a.lv))⟩):
  dq prog 47 #[.pointer (some ⟨mb,0,none⟩),eL x,dv d,Jx a,.slice aw u.length cw] w (.bool true):=by
 refine IJ func47 rfl ntmps47 rfl ?_
 obtain⟨eA,eB,eC⟩:=R.ok.nd _ _ hq
 have el:=R.hH
 have cd:=R.inv
 obtain⟨y0,eK,d5⟩:=R.eq.get hq
 have cH:y0.ht=q.2.x.ht:=congrArg Bl.ht d5
 have cA:=ha.l.sl
 have ez:=ha.l2
 rw[<-R.eq.ps,qv _ _ _ _ (H3 cd _) (by simp)] at aX
 repeat apply ar
 refine SG.box rfl rfl rfl (ag rfl) (fun L w1 dI ep bu=>?_)
 have bu:aG w1 L (.cells (cR x).toArray 50):=bu
 refine SG.box rfl rfl rfl (ag rfl) (fun b7 w2 ct er bv=>?_)
 have bv:aG w2 b7 (.cells (dc d).toArray 47):=bv
 refine SG.box rfl rfl rfl (ag rfl) (fun b8 w3 bG es a5=>?_)
 have a5:aG w3 b8 (.cells (tX a).toArray 35):=a5
 have k3:=(dI.trans ct).trans bG
 obtain⟨-,-,-,-,-,-,-,-,-,rl⟩:=eQ a5
 obtain⟨bo,cU⟩:∃bo,a.la=bo:=⟨_,rfl⟩
 rw[cU] at rl cA
 repeat (first|apply ar|refine qa6 ?_)
 refine CG.loop (X:=Nat×Value×List Dg) (fun E=>[(0,.pointer (some ⟨mb,0,none⟩)),(4,.slice aw u.length cw),(6,.pointer (some ⟨L,0,none⟩)),(7,.pointer (some ⟨b7,0,none⟩)),(8,.pointer (some ⟨b8,0,none⟩)),(11,E.2.1),(23,.slice bo a.lv.length a.lc),(24,.int .i64 (a.lv.length:Int)),(25,.int .i64 (E.1:Int))])
  (fun E w'=>E.1<=a.lv.length/\Kp [] w3 w'/\w'.ownsRow w3.heap.size 47 8 E.2.1 E.2.2.length (bX dc E.2.2)/\E.2.2.length<=E.1/\E.2.2=D3 u (a.lv.take E.1))
  (fun E=>a.lv.length-E.1) (0,.slice none 0 0,[]) ⟨Nat.zero_le _,Kp.refl _ _,⟨rfl,Or.inl ⟨rfl,rfl⟩⟩,Nat.le_refl _,(xe _ _).symm⟩ (aS.of rfl) ?_
 clear rl
 rintro⟨i,cM,ls⟩ w4 ⟨hi,O,bh,dQ,aP⟩
 simp only at hi bh dQ aP
 refine CG.to [(0,.pointer (some ⟨mb,0,none⟩)),(4,.slice aw u.length cw),(6,.pointer (some ⟨L,0,none⟩)),(7,.pointer (some ⟨b7,0,none⟩)),(8,.pointer (some ⟨b8,0,none⟩)),(11,cM),(23,.slice bo a.lv.length a.lc),(24,.int .i64 (a.lv.length:Int)),(25,.int .i64 (i:Int))] (aS.of rfl) ?_
 by_cases be:i<a.lv.length
 ·have g1:(i:Int)<(a.lv.length:Int):=by omega
  obtain⟨ba,bp,rfl,cD⟩:=(cA.az (k3.trans O)).at be
  repeat (first|apply ar|refine ul ?_)
  refine bO rfl ?_
  repeat (first|apply ar|(apply au;rfl;(first|apply aB|apply aE|apply aZ|apply fa|apply dg|apply ij)<;>first|rfl|exact zc|assumption|exact wn|exact B4))
  by_cases d0:0<u.length
  ·refine CG.ju rfl (ag rfl) (decide_eq_true (by omega:(0:Int)<(u.length:Int))) ?_
   obtain⟨j2,bF⟩:∃j2,j2=a.lv[i].toNat%u.length:=⟨_,rfl⟩
   have cq:j2<u.length:=by rw[bF];exact Nat.mod_lt _ d0
   have dH:(a.lv[i].toNat:Int)%(u.length:Int)=(j2:Int):=by rw[bF];rfl
   have eI:0<=(a.lv[i].toNat:Int)/\0<(u.length:Int):=by omega
   obtain⟨ek,ow,rfl,eD⟩:=(hW.az (k3.trans O)).at cq
   repeat (first|apply ar|(apply au;rfl;(first|apply Fw|apply Jr|apply aB|apply dg)<;>first|rfl|exact zc))
   rw[dH]
   repeat refine qb4 ?_
   refine SG.buildSlice rfl rfl rfl rfl (B8 _) (fun ej w9 ad et c9=>?_)
   have s8:=O.size
   have s9:=ad.size
   have cC:=aV bh ad
   refine SG.jN (enc:=dc) (xs:=ls) (ys:=[u[j2]]) (base:=w3.heap.size) rfl rfl rfl (ag rfl) (ag rfl) rfl rfl rfl rfl ai bj cC (gy (enc:=dc) (sz:=8) (x:=u[j2]) ai c9) (by simp only[maxLen,length_singleton];omega) (by show(ls.length+1)*8<=_;omega) (by omega) (fun v8 e5 dJ dT eE=>?_)
   repeat (first|apply ar|refine us ?_)
   refine NG.round (i+1,v8,ls++[u[j2]]) (aS.of rfl) ⟨be,(O.trans ad).aj dJ (ff cC (Nat.le_refl _)),dT,by simp only[length_append,length_singleton];omega,by simp only;rw[aP];exact(xf be bF cq).symm⟩ (by simp only;omega)
  ·refine CG.jv rfl (ag rfl) (decide_eq_false (by omega:¬(0:Int)<(u.length:Int))) ?_
   repeat (first|apply ar|refine wz ?_)
   refine NG.round (i+1,cM,ls) (aS.of rfl) ⟨be,O,bh,by simp only;omega,by simp only;rw[aP,om (by omega),om (by omega)]⟩ (by simp only;omega)
 have g1:¬(i:Int)<(a.lv.length:Int):=by omega
 have ei:i=a.lv.length:=by omega
 rw[ei,take_length] at aP
 rw[<-aP] at aX
 obtain⟨cO,cl,rfl,ew,dl⟩:=Sl.own ai bh rfl
 have k4:=k3.trans O
 have ca:=(bv.az bG).az O
 have c7:=a5.az O
 have b6:=((bu.az ct).az bG).az O
 have r7:Row w4 b7 0 (dc d):=Row.all ca rfl
 repeat (first|apply ar|refine un ?_)
 refine bA rfl ?_
 repeat (first|apply ar|refine qa5 ?_)
 refine SG.call rfl rfl rfl (vs:=[.pointer (some ⟨mb,0,none⟩),dv d]) (bg.of rfl) ((ko (hM.az k4) R hq).mono (fun e w5 N=>?_))
 obtain⟨b0,A,tb,B,mm,bZ,rfl,cb,de,dm,cc,⟨eZ,e0,ee⟩,cu⟩:=N
 refine⟨_,rfl,?_⟩
 clear r7
 repeat refine qa7 ?_
 refine SG.alloc rfl rfl rfl (fun o w6 cv dF ac=>?_)
 refine SG.alloc rfl rfl rfl (fun r w7 bH ev a6=>?_)
 have eS:=ac.lt
 refine SG.fe rfl rfl (ag rfl) (ag rfl) (ac.az bH) rfl rfl (fun w8 cy ac=>?_)
 refine SG.fe rfl rfl (ag rfl) (ag rfl) (a6.kp cy (bQ (by omega))) rfl rfl (fun w9 ad a6=>?_)
 have s4:=k4.size
 have s5:=cu.size
 have s6:=cv.size
 have s7:=bH.size
 have bK:o≠r:=by omega
 have a0:Kp [] w5 w9:=((cv.trans bH).aj cy (aW dF)).aj ad (aW (by omega))
 have aY:=cu.trans a0
 have k9:=k4.trans aY
 have ac:=ac.kp ad (bQ bK)
 have c8:=c7.az aY
 obtain⟨-,-,ef,-⟩:=eQ c8
 repeat (first|apply ar|(apply au;rfl;(first|apply Fv|apply LB|apply aE|apply aZ|apply aU)<;>first|rfl|exact zc|assumption|exact wn))
 refine SG.val rfl rfl rfl rfl (aK rfl (E6 _)) ?_
 obtain⟨M,ci⟩:∃M:UInt8,UInt8.ofNat (5:Int).toNat+a.who%UInt8.ofNat (3:Int).toNat=M:=⟨_,rfl⟩
 have dj:yX a.who=M:=by unfold yX;exact ci
 rw[ci]
 rw[dj] at aX
 refine SG.alloc rfl rfl rfl (fun am wA cz dw an=>?_)
 refine SG.aN (l:=dc (d1 M)) rfl rfl (ag rfl) (ag rfl) an (ai _) rfl (bj _) (fun wB dK an=>?_)
 have a1:=cz.aj dK (aW dw)
 have kB:=k9.trans a1
 have ce:=hM.az kB
 obtain⟨-,-,r4,-,-⟩:=cX ce.blk
 have dR:=ce.map
 have r7:Row wB b7 0 (dc d):=Row.all ((ca.az aY).az a1) rfl
 have bT:Row wB am 0 (dc (d1 M)):=Row.all an rfl
 clear ef
 have d3: -9223372036854775808<=y0.ht+1/\y0.ht+1<=9223372036854775807:=by omega
 repeat apply ar
 refine CG.fA mixed [0,1,2,3,4,5,6,7,8,9,10] [(11,12,18,.tmp 66)] (by kernel_rfl) (by kernel_rfl) ?_
 repeat (apply bW;rfl;rfl;(first|apply aB|apply aZ|apply bf|apply aU|apply bR|apply oQ)<;>first|rfl|assumption|exact wn|apply ai|exact iX (by assumption)|fail)
 refine aM.val rfl rfl rfl (RT rfl) ?_
 rw[cH]
 rw[cH] at d3
 repeat (apply bW;rfl;rfl;(first|apply bf|apply dp)<;>first|rfl|exact zc|assumption|exact wn)
 refine aM.val rfl rfl rfl (aK rfl (RR d (d1 M) (q.2.x.ht+1))) ?_
 refine aM.one (fq.of (by rfl) rfl rfl rfl (ag rfl) (by exact gl _ _ _ _) (by rfl) (by exact oG _ _ _ _ rfl)) (fun p wC av eo a4=>?_)
 have a4:aG wC p (.cells (mS d (q.2.x.ht+1) (d1 M) (.slice none 0 0)).toArray 50):=a4
 clear r4 r7 bT dR
 have kC:=kB.trans av
 have cf:=hM.az kC
 obtain⟨-,-,-,-,r6⟩:=cX cf.blk
 have d6:=(aY.trans a1).trans av
 repeat (first|apply ar|refine qa4 ?_)
 refine SG.call rfl rfl rfl (vs:=[.pointer (some ⟨m.pb,0,none⟩),.int .i64 1024,.slice cO ls.length cl]) (bg.of rfl) ((qU cf.pool cd (by omega) (most:=1024) (by unfold iS;omega) (dl.az d6) (by omega)).mono (fun e I N=>?_))
 obtain⟨vx,s,rfl,a9,hX,bm⟩:=N
 obtain⟨ax,cx,rfl,ex,hS⟩:=hX.sl
 refine⟨_,rfl,?_⟩
 clear r6
 have bm:s.map (·.t)=sV (m.ps.map Em.en) ls:=bm.trans (C8 _ _)
 have eJ:s.length<=1024:=by
  have e1:=congrArg length bm
  unfold sV at e1
  rw[length_map,length_map,length_take] at e1
  omega
 have U:=(a1.trans av).trans a9
 have d7:=av.trans a9
 have kT:=k9.trans U
 have s9:=a0.size
 have e3:=U.size
 have sA:=cz.size
 have sB:=a1.size
 have eN:=a4.lt
 have eV:=a6.lt
 have eY:=cc.lt
 have eR:=cb.map.lt
 have sC:=av.size
 have sT:=a9.size
 have eM:=an.lt
 have eP:=b6.lt
 have c6:=((b6.az aY).az U)
 have c1:=an.az d7
 have Z:Ln I I o r B A p d (d1 M) (q.2.x.ht+1) (eU m.l) s b0 A tb bZ mm q.2.f q.2.t (AJ c.ns (c.tr.line d)) (.slice none 0 0) []:=
  ⟨Kp.refl _ _,Or.inl rfl,⟨Kp.refl _ _,ac.az U,a6.az U,ee,Or.inl rfl,(cb.az a0).az U,de,(dm.az a0).az U,(cc.az a0).az U⟩,a4.az a9,dY,fun _ cY=>(by cases cY),Nat.zero_le _⟩
 have bD:∀z∈[o,r,B,A,p],w.heap.size<=z/\z<wC.heap.size:=fun z v=>by
  simp only[mem_cons,mem_nil_iff,or_false] at v
  rcases v with e|e|e|e|e<;>omega
 have dt:∀ak bp,ax=some ⟨ak,bp,none⟩->ak∉[o,r,B,A,p]:=fun ak bp e C=>by
  have:=fY hX.own ak bp e
  have:=(bD ak C).2
  omega
 have n6:L∉[o,r,B,A,p]:=fun C=>by
  simp only[mem_cons,mem_nil_iff,or_false] at C
  omega
 have eb:am∉[o,r,B,A,p]:=fun C=>by
  simp only[mem_cons,mem_nil_iff,or_false] at C
  omega
 have hO:dD 0 I [o,r,B,A,p]:=dD.cons (Nat.zero_le _) (dD.cells Z.j.h1 (by decide)) (dD.cons (Nat.zero_le _) (dD.cells Z.j.h2 (by decide)) (dD.cons (Nat.zero_le _) (Z.j.dn.BB (Nat.zero_le _) B (mem_singleton.2 rfl)).2 (dD.cons (Nat.zero_le _) (Z.j.bk.map.BB (Nat.zero_le _) A (mem_singleton.2 rfl)).2 (dD.cons (Nat.zero_le _) (dD.cells Z.bl (by decide)) dD.nil))))
 have ds:=hX.ins
 have dP:∀{W:World},Kp [o,r,B,A,p] I W->Kp [] w W:=fun hk=>kT.aj hk (fun z v=>Or.inr (bD z v).1)
 obtain⟨br,hD⟩:∃br,AJ c.ns (c.tr.line d)=br:=⟨_,rfl⟩
 rw[hD] at Z
 obtain⟨af,hG⟩:∃af,BG (d1 M) q.2.f [] (sV (m.ps.map Em.en) ls)=af:=⟨_,rfl⟩
 rw[hG] at aX
 rw[<-bm] at hG
 repeat (first|apply ar|(apply au;rfl;(first|apply aB|apply dg)<;>rfl))
 refine CG.loop (X:=Nat×(Nat×Nat×Nat×Nat×Bk)×(Fb×Tl)×Value×List Tm) (fun z=>[(0,.pointer (some ⟨mb,0,none⟩)),(6,.pointer (some ⟨L,0,none⟩)),(14,gL o),(15,gL r),(17,.pointer (some ⟨am,0,none⟩)),(18,.pointer (some ⟨p,0,none⟩)),(72,.slice ax s.length cx),(73,.int .i64 (s.length:Int)),(74,.int .i64 (z.1:Int))])
  (fun z W=>z.1<=s.length/\Ln I W o r B A p d (d1 M) (q.2.x.ht+1) (eU m.l) s z.2.1.1 z.2.1.2.1 z.2.1.2.2.1 z.2.1.2.2.2.1 z.2.1.2.2.2.2 z.2.2.1.1 z.2.2.1.2 br z.2.2.2.1 z.2.2.2.2/\BG (d1 M) z.2.2.1.1 (z.2.2.2.2.map (·.t)) ((s.drop z.1).map (·.t))=af/\z.2.2.1.2.n<=100000+z.1)
  (fun z=>s.length-z.1) (0,(b0,A,tb,bZ,mm),(q.2.f,q.2.t),.slice none 0 0,[]) ⟨Nat.zero_le _,Z,hG,by simp only;omega⟩ (aS.of rfl) ?_
 rintro⟨S,⟨b2,cS,eg,N1,ea⟩,⟨f1,t1⟩,vt,h⟩ W ⟨dG,J,D,dZ⟩
 simp only at dG J D dZ
 refine CG.to [(0,.pointer (some ⟨mb,0,none⟩)),(6,.pointer (some ⟨L,0,none⟩)),(14,gL o),(15,gL r),(17,.pointer (some ⟨am,0,none⟩)),(18,.pointer (some ⟨p,0,none⟩)),(72,.slice ax s.length cx),(73,.int .i64 (s.length:Int)),(74,.int .i64 (S:Int))] (aS.of rfl) ?_
 have dk:Sl bV 13 W ax s:=hS.kp J.kp dt
 have ck:∀Y∈s,Y.In 0 W:=fun Y hy=>(ds Y hy).iD J.kp hO
 have b9:aG W L (.cells (cR x).toArray 50):=c6.kp J.kp n6
 have c2:=c1.kp J.kp eb
 obtain⟨F,H,rfl⟩:=ik J.ot
 have em:=J.al
 have kW:Kp [] w W:=dP J.kp
 have co:h.map (·.t)=af->∀{P:World},Kp [] W P->dq prog 23 #[eL x,.agg (mS d (q.2.x.ht+1) (d1 M) (.slice F h.length H)).toArray] P (.bool true):=fun bE {P} a8=>by
  have di:lh P 0 F h:=⟨(Sl.own ay (aV J.ot a8) rfl).elim (fun a=>by
   rintro⟨c,e,-,hs⟩
   cases e
   exact hs),Or.inl (Ty.own (aV J.ot a8)),fun Y hy=>(ck Y (J.sub Y hy)).az a8⟩
  have d4:Bm.In ⟨d,q.2.x.ht+1,d1 M,F,H,h⟩ 0 P:=⟨di,by show h.length<=_;omega⟩
  exact nv (y:=⟨d,q.2.x.ht+1,d1 M,F,H,h⟩) (hx.az (kW.trans a8)) d4 (by rw[aX,<-bE];rfl)
 by_cases aJ:S<s.length
 rotate_left
 ·have g2:¬(S:Int)<(s.length:Int):=by omega
  rw[drop_eq_nil_of_le (by omega)] at D
  have bE:h.map (·.t)=af:=by rw[<-D];unfold BG;rfl
  have r6:Row W L 0 (cR x):=Row.all b9 rfl
  obtain⟨u0,-,-⟩:=gj J.bl
  have dA:=gl d (d1 M) (q.2.x.ht+1) (.slice F h.length H)
  repeat (first|apply ar|refine un ?_)
  refine bA rfl ?_
  repeat (first|apply ar|refine qa9 ?_)
  refine SG.ret rfl rfl rfl (vs:=[eL x,.agg (mS d (q.2.x.ht+1) (d1 M) (.slice F h.length H)).toArray]) (bg.of rfl) (co bE (Kp.refl _ _)) (fun W1 bI=>?_)
  clear r6 u0
  repeat (first|apply ar|refine wt ?_)
  refine aO (Or.inl rfl) results47 (aD.tmp rfl) ?_
  exact⟨rfl,kW.trans bI⟩
 have g2:(S:Int)<(s.length:Int):=by omega
 rw[drop_eq_getElem_cons aJ,map_cons] at D
 have dS:∀(f:Fb) (h:List Tx) (x:Tx) (l:List Tx),BG (d1 M) f h (x::l)=if h.length=64 then h else if dC f x=0 then BG (d1 M) (jJ f (d1 M) x) (h++[x]) l else BG (d1 M) f h l:=fun _ _ _ _=>by conv=>lhs;unfold BG
 rw[dS,length_map] at D
 obtain⟨bx,e2,rfl,cD⟩:=dk.at aJ
 have cG:=getElem_mem aJ
 have cE:∀{P:World},Kp [] W P->s[S].In 0 P:=fun hk=>(ck _ cG).az hk
 generalize s[S]=k at*
 repeat (first|apply ar|refine ul ?_)
 refine bO rfl ?_
 repeat (first|apply ar|refine ut ?_)
 refine SG.alloc rfl rfl rfl (fun a3 Wa dL dx ab=>?_)
 refine SG.aN (l:=bV k) rfl rfl (ag rfl) (ag rfl) ab (ay _) rfl (bY _) (fun Wb dN ab=>?_)
 have ab:aG Wb a3 (.cells (bV k).toArray 52):=ab
 have aa:=dL.aj dN (aW dx)
 have Jb:=J.az aa
 obtain⟨-,-,bq⟩:=gj Jb.bl
 clear cD
 repeat (first|apply ar|(apply au;rfl;(first|apply aZ|apply aU|apply fE|apply dg)<;>first|rfl|assumption|exact wn|exact B4))
 by_cases b3:h.length=64
 ·have bt:(h.length:Int)=64:=by omega
  rw[if_pos b3] at D
  refine CG.ju rfl (ag rfl) (decide_eq_true bt) ?_
  have r6:Row Wb L 0 (cR x):=Row.all (b9.az aa) rfl
  obtain⟨u0,-,-⟩:=gj Jb.bl
  have dA:=gl d (d1 M) (q.2.x.ht+1) (.slice F h.length H)
  clear bq
  repeat (first|apply ar|refine NG.nj rfl ?_|refine qa9 ?_)
  refine SG.ret rfl rfl rfl (vs:=[eL x,.agg (mS d (q.2.x.ht+1) (d1 M) (.slice F h.length H)).toArray]) (bg.of rfl) (co D aa) (fun W1 bI=>?_)
  clear r6 u0
  repeat (first|apply ar|refine wt ?_)
  refine aO (Or.inl rfl) results47 (aD.tmp rfl) ?_
  exact⟨rfl,(kW.trans aa).trans bI⟩
 have bt:¬(h.length:Int)=64:=by omega
 rw[if_neg b3] at D
 refine CG.jv rfl (ag rfl) (decide_eq_false bt) ?_
 have q1:=nq Jb.j.h1
 clear bq
 repeat (first|apply ar|(apply au;rfl;apply aZ<;>first|rfl|assumption|exact wn))
 refine SG.call rfl rfl rfl (vs:=[gL b2]) (bg.of rfl) ((gn Jb.j.bk).mono (fun e Wc N=>?_))
 obtain⟨b1,cQ,m1,rfl,da,hp,gk,gm,aA⟩:=N
 refine⟨_,rfl,?_⟩
 have Jc:=Jb.az aA
 have dy:=Jc.j.bi.perm hp
 have cL:=aa.trans aA
 have c3:=ab.az aA
 have a2:Row Wc a3 0 (bV k):=Row.all c3 rfl
 have bT:Row Wc am 0 (dc (d1 M)):=Row.all (c2.az cL) rfl
 clear q1
 repeat (first|apply ar|(apply au;rfl;(first|apply aB|apply aE|apply bf)<;>first|rfl|assumption|exact wn|apply ay))
 refine SG.call rfl rfl rfl (vs:=[gL b1,eG k,dv (d1 M)]) (bg.of rfl) ((o9 da dy R.tot.2 (cE cL) (d1 M)).mono (fun e Wd N=>?_))
 obtain⟨m3,rfl,b5,dz,dO⟩:=N
 refine⟨_,rfl,?_⟩
 clear a2 bT
 have sW:=J.kp.size
 have e4:=aa.size
 have sc:=aA.size
 have bJ:Kp [] Wb Wd:=aA.aj dO (aW gm)
 have G:=Jb.az bJ
 have d9:=aa.trans bJ
 have c4:=ab.az bJ
 by_cases aT:dC f1 k.t=0
 rotate_left
 ·rw[if_neg aT] at D
  repeat (first|apply ar|(apply au;rfl;apply du<;>first|rfl|exact qr))
  refine bO rfl ?_
  repeat (first|apply ar|refine wz ?_)
  refine NG.round (S+1,(b2,cS,eg,N1,ea),(f1,t1),.slice F h.length H,h) (aS.of rfl) ⟨aJ,G,D,by simp only;omega⟩ (by simp only;omega)
 rw[if_pos aT] at D
 have cT:jJ f1 (d1 M) k.t=fV (dU f1 (d1 M) k.t) k.t:=by unfold jJ;rw[if_pos aT]
 rw[cT] at D
 rw[aT]
 repeat (first|apply ar|(apply au;rfl;apply du<;>first|rfl|exact qf))
 refine bA rfl ?_
 have ao:=G.j.h1
 repeat (first|apply ar|refine qa0 ?_)
 refine SG.fe rfl rfl (ag rfl) (ag rfl) ao rfl rfl (fun We K bz=>?_)
 have eT:o<Wb.heap.size:=by have:=J.j.h1.lt;omega
 have eX:r<Wb.heap.size:=by have:=J.j.h2.lt;omega
 have eO:p<Wb.heap.size:=by have:=J.bl.lt;omega
 have ec:p≠o:=by omega
 have cm:=G.bl.kp K (bQ ec)
 have bN:=dM G.ot K (cF G.ot (by decide) ao)
 have bB:=G.j.h2.kp K (bQ (fun e=>bK e.symm))
 have db:bS We b1 cQ m3:=⟨b5.blk.kp K (bQ (by omega)),b5.map.kp K (bQ (by omega))⟩
 have dr:=G.j.ap.kp K (bQ (fun e=>by
  subst e
  have:=G.j.ap.uniq ao
  simp only[Obj.cells.injEq] at this
  exact absurd this.2.1 (by decide)))
 have bC:=G.j.dn.kp K (bQ (cJ ao G.j.dn))
 have b4:=c4.kp K (bQ (by omega))
 have d2:k.In 0 We:=(cE d9).iD K (rh ao (by decide))
 have a2:Row We a3 0 (bV k):=Row.all b4 rfl
 obtain⟨-,u8,-⟩:=gj cm
 have cI:Kp [o,r,B,A,p] I We:=G.kp.trans (K.mono (fun z v=>by rw[mem_singleton] at v;simp[v]))
 repeat (first|apply ar|(apply au;rfl;(first|apply aZ|apply bf|apply aU)<;>first|rfl|assumption|exact wn|apply ay))
 refine SG.call rfl rfl rfl (vs:=[gL o,gL r,.int .i64 (q.2.x.ht+1),eG k]) (bg.of rfl) ((pa bz bB bK db (dz aT) R.tot.2 dr (by omega) d2 (q.2.x.ht+1)).mono (fun e Wf N=>?_))
 obtain⟨cP,bs,eh,m4,rfl,cV,cW,f3,f4,f5,aI,f7⟩:=N
 refine⟨_,rfl,?_⟩
 clear a2 u8
 have ed:p∉[o,r]:=gG (by omega) (by omega)
 have cn:=cm.kp aI ed
 have dX:∀g,(Value.slice F h.length H).ownBlock=some g->g∉[o,r]:=fun g Q C=>by
  simp only[mem_cons,mem_nil_iff,or_false] at C
  rcases C with e|e
  ·exact cF bN (by decide) bz g Q (mem_singleton.2 e)
  ·exact cF bN (by decide) bB g Q (mem_singleton.2 e)
 have dV:=dM bN aI dX
 have c5:=b4.kp aI (gG (by omega) (by omega))
 have a2:Row Wf a3 0 (bV k):=Row.all c5 rfl
 obtain⟨-,-,bq⟩:=gj cn
 have cK:Kp [o,r,B,A,p] I Wf:=cI.trans (aI.mono (fun z v=>by
  simp only[mem_cons,mem_nil_iff,or_false] at v
  rcases v with e|e<;>simp[e]))
 have sf:=cK.size
 repeat (first|apply ar|(apply au;rfl;(first|apply aZ|apply bf|apply aU)<;>first|rfl|assumption|exact wn|apply ay))
 refine SG.buildSlice rfl rfl rfl rfl (zF k) (fun bn Wg ae eu df=>?_)
 have aQ:=aV dV ae
 have dB:=cn.az ae
 clear a2 bq
 refine SG.jN (enc:=bV) (xs:=h) (ys:=[k]) (base:=I.heap.size) rfl rfl rfl (ag rfl) (ag rfl) rfl rfl rfl rfl ay bY aQ (gy (enc:=bV) (sz:=13) (x:=k) ay df) (by simp only[maxLen,length_singleton];omega) (by show(h.length+1)*80<=_;omega) (by have:=ae.size;omega) (fun vh Wh bb bL eF=>?_)
 obtain⟨ah,ch,rfl⟩:=ik bL
 have nT:∀{z:Nat},z<I.heap.size->z∉aR (.slice F h.length H):=fun v C=>by have:=cj aQ _ (aL C);omega
 have a7:=dB.kp bb (nT (by omega))
 repeat (apply au;rfl;apply aU<;>rfl)
 refine SG.cp (dc d++(.int .i64 (q.2.x.ht+1)::dc (d1 M))) [.slice F h.length H] [] rfl rfl (ag rfl) (ag rfl) a7 (uS _ _ _ _) rfl rfl (uR _ _ _) rfl (fun Wi bc bw=>?_)
 have bw:aG Wi p (.cells (mS d (q.2.x.ht+1) (d1 M) (.slice ah (h++[k]).length ch)).toArray 50):=by
  have e:=rS d (d1 M) (q.2.x.ht+1) (.slice ah (h++[k]).length ch)
  rw[<-e]
  exact bw
 repeat (first|apply ar|refine wz ?_)
 have bd:∀{z:Nat} {cs:Array Value} {T:TypeId},T≠52->T≠50->aG Wf z (.cells cs T)->aG Wi z (.cells cs T):=fun{z cs T} cZ c0 hB=>by
  have Q:=hB.az ae
  have aq:=Q.kp bb (fun C=>cF aQ cZ Q _ (aL C) (mem_singleton.2 rfl))
  refine aq.kp bc (bQ (fun e=>?_))
  subst e
  have:=aq.uniq a7
  simp only[Obj.cells.injEq] at this
  exact c0 this.2.1
 have cB:∀{z:Nat} {bU:Type} {V:bU->Value} {l:List (Dg×bU)},aF Wf z (dv (n:=8)) V l->aF Wi z (dv (n:=8)) V l:=fun{z bU V l} hB=>by
  have Q:=hB.az ae
  have aq:=Q.kp bb (fun C=>jZ aQ Q _ (aL C) (mem_singleton.2 rfl))
  exact aq.kp bc (bQ (fun e=>cJ a7 aq e))
 have dh:=bC.kp aI (gG (cJ bz bC) (cJ bB bC))
 have d8:Kp [o,r,B,A,p] I Wi:=((cK.trans ae.any).aj bb (fun z v=>Or.inr (cj aQ z (aL v)))).trans (bc.mono (fun z v=>by rw[mem_singleton] at v;simp[v]))
 have se:=cI.size
 have dE:I.heap.size<=bs:=by
  rcases f7 with e|e
  ·rw[e];omega
  ·omega
 have ey:=(bD B (by simp)).2
 refine NG.round (S+1,(cP,bs,eh,N1+4+2,m4),(fV (dU f1 (d1 M) k.t) k.t,gI t1 (dU f1 (d1 M) k.t) (q.2.x.ht+1) k.t),.slice ah (h++[k]).length ch,h++[k]) (aS.of rfl) ⟨aJ,⟨d8,Or.inr dE,⟨Kp.refl _ _,bd (by decide) (by decide) cV,bd (by decide) (by decide) cW,(show B≠bs by omega),Or.inl rfl,⟨bd (by decide) (by decide) f3.blk,cB f3.map⟩,f4,bd (by decide) (by decide) f5,cB dh⟩,bw,cr bL bc (cF bL (by decide) a7),fun Y hy=>?_,?_⟩,?_,?_⟩ (by simp only;omega)
 ·rcases mem_append.1 hy with g|g
  ·exact J.sub Y g
  ·rw[mem_singleton] at g
   rw[g]
   exact cG
 ·rw[length_append,length_singleton]
  omega
 ·simp only
  rw[map_append]
  exact D
 ·have:=rY t1 (dU f1 (d1 M) k.t) (q.2.x.ht+1) k.t
  simp only
  omega
end
section
structure Tr.V5(t t':Tr):Prop where
 first:t.first=t'.first
 tip:t.tip=t'.tip
 depth:t.depth=t'.depth
 len:t.nodes.length=t'.nodes.length
 nodes:∀x,aC t.nodes x=aC t'.nodes x
attribute [local irreducible] CG NG SG aP aM Row aG aF aQ
end
section
def Vv(b:Bd)(vb:Nat)(d:Dg)(tb pb:Nat)(m:Value):List Value:=iF b++(.iface 40 (.pointer (some ⟨vb,0,none⟩))::(dc d++[.pointer (some ⟨tb,0,none⟩),.pointer (some ⟨pb,0,none⟩),m]))
def Vu(b:Bd)(vb:Nat)(d:Dg)(tb pb:Nat):List Value:=iF b++(.iface 40 (.pointer (some ⟨vb,0,none⟩))::(dc d++[.pointer (some ⟨tb,0,none⟩),.pointer (some ⟨pb,0,none⟩)]))
structure Tp(w':World)(n:Nat)(A:List Nat)(tot:Int)(N:Nat)(c c':Cm):Prop where
 ch:∀A',(∀x∈A',x∈A\/N<=x)->c'.tm∈A'->c'.nm∈A'->cS w' n A' tot c'
 bd:c'.bd=c.bd
 vb:c'.vb=c.vb
 first:c'.first=c.first
 tr:c.tr.V5 c'.tr
 ps:c'.ps.map Em.en=c.ps.map Em.en
 ns:c'.ns.Perm c.ns
 new:∀x∈c'.cb::qG c',N<=x
attribute [local irreducible] CG NG SG aP aM Row aG aF aQ
end
section
instance:DecidableEq Kn:=fun a b=>decidable_of_iff (a.parent=b.parent/\a.height=b.height) (by cases a;cases b;simp)
def Tr.sameB(t t':Tr):Bool:=decide (t.first=t'.first)&&(decide (t.depth=t'.depth)&&(decide (t.tip=t'.tip)&&(decide (t.nodes.length=t'.nodes.length)&&t.nodes.all (fun p=>decide (aC t'.nodes p.1=some p.2)))))
attribute [local irreducible] CG NG SG aP aM Row aG aF aQ
end
section
def Lb(b:Bd):Prop:=(-1000000<=b.fork/\b.fork<=1000000)/\(-1000000<=b.leave/\b.leave<=1000000)/\(-1000000<=b.sleep/\b.sleep<=1000000)
class Xg(b:Bd):Prop where
 h:Lb b
abbrev Wq(z:Nat):Value:= .pointer (some ⟨z,0,none⟩)
attribute [local irreducible] CG NG SG aP aM Row aG aF aQ
end
section
variable{tot:Int}{A A' S:List Nat}{Ts:List TypeId}{b bw n:Nat}{q:Wl}{w w':World}
structure V1(w:World)(n:Nat)(tot:Int)(bw:Nat)(q:Wl)(c:Cm):Prop where
 ch:cS w n [c.tm,c.nm] tot c
 out:∀x∈c.cb::qG c,x∉mK bw q
 ob:∀p∈c.ns,p.2.2.bm∉mK bw q
 sn:∀p∈c.ns,p.2.2.x.xs≠[]->∀b off,p.2.2.x.a=some ⟨b,off,none⟩->b∉mK bw q
theorem mI.side{q:Nm}(h:mI w n A tot b q)(a:Kp S w w')(c:dt n Ts A' w S)(d:∀T∈IM,T∉Ts)(e:q.bm∉S)(i:q.x.In n w'):mI w' n A tot b q:=by
 obtain⟨m,f,g⟩:=h.book
 have t:∀{T:TypeId},T∈IM->eA T n w S:=fun e=>c.not (d _ e)
 exact⟨c.blk a h.blk (d _ (by decide)),⟨m,⟨c.blk a f.blk (d _ (by decide)),f.map.kp a e⟩,g⟩,h.nA,h.nb,c.blk a h.app (d _ (by decide)),(h.ans.Cs h.anT a (t (by decide))).1,(h.ans.Cs h.anT a (t (by decide))).2,i,(h.nam.Cs h.naT a (t (by decide))).1,(h.nam.Cs h.naT a (t (by decide))).2,h.el⟩
theorem cS.side{c:Cm}(h:cS w n A tot c)(d:Kp S w w')(g:dt n Ts A' w S)(i:∀T∈IM,T∉Ts)(a:∀k∈c.cb::qG c,k∉S)(e:∀p∈c.ns,p.2.2.bm∉S)(j:∀p∈c.ns,p.2.2.x.In n w'):cS w' n A tot c:=by
 unfold qG at a
 exact⟨h.blk.kp d (a _ (by simp)),h.tree.kp d (a _ (by simp)) (a _ (by simp)),h.pool.kp d (a _ (by simp)) (fun b e=>a b (by simp[gQ e])) (g.not (i _ (by decide))),h.map.kp d (a _ (by simp)),fun p f=>(h.nd p f).side d g i (e p f) (j p f),h.tA,h.nA,h.ne,h.tn,h.nn,h.bn,Nat.le_trans h.w0 d.size⟩
theorem dF.GX(h:dF w n tot bw q):dt n WT [q.c.tm,q.c.nm,q.pm] w (mK bw q):=fun b a=>⟨h.ge b a,(h.Rx b a).2⟩
theorem dF.UX(h:dF w n tot bw q){x:Bm}(r:x.In n w)(o:x.xs≠[]){off:Nat}(e:x.a=some ⟨b,off,none⟩)(p:b∉aR q.vs):b∉mK bw q:=fun k=>by
 have v:=h.ge b k
 rcases r.tx.tg with l|l
 ·obtain⟨i,f,j⟩:=l o b off e
  rw[eN] at k
  have m:eA 52 n w (q.c.vb::q.pm::aR q.vN):=eA.cons h.nb.bp (eA.cells h.nb.blk (by decide)) (eA.cons h.nb.pp (h.nb.map.Cr _) (eA.own h.nb.own (Nat.le_refl _) (by decide)))
  have t:eA 52 n w (qG q.c):=h.ch.nk.not (by decide)
  have u:eA 52 n w (aR q.vb):=eA.own h.bl (Nat.le_refl _) (by decide)
  have d:∀z∈qG q.c,b≠z:=fun z s e=>(t z s).2 i f (by rw[<-e];exact j)
  unfold qG at d
  rcases k with g|g|g|g|g|g|g|g|g|g|g
  ·exact eA.cells h.blk (T:=52) (by decide) i f (by rw[<-g];exact j)
  ·exact(m b (by simp[g])).2 i f j
  ·exact(m b (by simp[g])).2 i f j
  ·exact(m b (by simp[g])).2 i f j
  ·exact d _ (by simp) g
  ·exact d _ (by simp) g
  ·exact d _ (by simp) g
  ·exact d _ (by simp) g
  ·exact d b (by simp[g]) rfl
  ·exact p g
  ·exact(u b g).2 i f j
 ·have:=l b off e
  omega
end
section
variable{tot:Int}{m:Md}{bw mb n:Nat}{q:Wl}{w w':World}
theorem DV{j k l n:Type}{enc:j->Value}{o:k->Value}{V:l->Value}{g:n->Value}{m:List (j×l)}{d:List (k×n)}{b i:Nat}(h:aF w b enc V m)(p:aF w i o g d)(u:d≠[])(v:∀x y,V x≠g y):b≠i:=fun e=>by
 subst e
 obtain⟨B,c,q,-,s⟩:=h
 obtain⟨C,A,r,-,t⟩:=p
 have:=q.uniq r
 cases this
 have f:=s.symm.trans t
 cases d with
 |nil=>exact u rfl
 |cons a d=>
  cases m with
  |nil=>cases f
  |cons z D=>
   simp only[map_cons,List.cons.injEq,Prod.mk.injEq] at f
   exact v _ _ f.1.2
theorem Kl(x:Pu)(y:Kn):qV x≠Ct y:=fun e=>by
 simp only[qV,Ct,Value.agg.injEq] at e
 have:=congrArg Array.size e
 simp[ai,ti,kc] at this
theorem Km(x:Pu)(y:Bm):qV x≠eL y:=fun e=>by
 have e:Value.agg _=Value.agg _:=e
 simp only[Value.agg.injEq] at e
 have:=congrArg Array.size e
 simp[ai,cR,ti] at this
theorem eW.nk(h:eW w n mb m):dt n CT [m.tm,m.bm] w (jc m):=
 (dt.cells h.nt.2.2 h.tree.blk (by decide)).cons ((dt.map h.nt.1 h.tree.map (by simp)).cons ((dt.map h.nt.2.1 h.map (by simp)).cons h.pool.qi))
theorem eW.lt(h:eW w n mb m):∀x∈mb::jc m,x<w.heap.size:=fun x a=>by
 unfold jc at a
 simp only[mem_cons] at a
 rcases a with e|e|e|e|e|e
 ·rw[e];exact h.blk.lt
 ·rw[e];exact h.tree.blk.lt
 ·rw[e];exact h.tree.map.lt
 ·rw[e];exact h.map.lt
 ·rw[e];exact h.pool.blk.lt
 ·exact cK h.pool.own x (aL e)
structure ua(w:World)(n bw:Nat)(q:Wl)(mb:Nat)(m:Md):Prop where
 md:eW w n mb m
 out:∀x∈mb::jc m,x∉mK bw q
 la:∀b off,m.la=some ⟨b,off,none⟩->b∉mK bw q
 ob:∀p∈m.bl,p.2.xs≠[]->∀b off,p.2.a=some ⟨b,off,none⟩->b∉mK bw q
theorem ua.az(h:ua w n bw q mb m)(a:Kp [] w w'):ua w' n bw q mb m:=⟨h.md.az a,h.out,h.la,h.ob⟩
theorem ua.act{i:Wl}(h:ua w n bw q mb m)(t:0<m.l.length)(v:dF w n tot bw q)(a:xV w w' bw q i):ua w' n bw i mb m:=by
 have no:∀{x:Nat},x<w.heap.size->x∉mK bw q->x∉mK bw i:=fun y r u=>(a.sub _ u).elim r (fun g=>by omega)
 have j:=v.GX
 have o:∀{x:Nat},x∈mb::jc m->x∉mK bw q:=fun d=>h.out _ d
 unfold jc at o
 refine⟨⟨h.md.blk.kp a.kp (o (by simp)),h.md.mon.kp a.kp h.la,h.md.map.kp a.kp (o (by simp)),fun p c=>(h.md.ins p c).GX a.kp j (by decide) (h.ob p c),h.md.tree.kp a.kp (o (by simp)) (o (by simp)),h.md.pool.kp a.kp (o (by simp)) (fun b s=>o (by simp[gQ s])) (j.not (by decide)),h.md.tn,h.md.nbt,h.md.nt,h.md.lo⟩,fun x d=>no (h.md.lt x d) (h.out x d),fun b f e=>no (h.md.la t e) (h.la b f e),fun p c k b f e=>no ((h.md.ins p c).lt k e) (h.ob p c k b f e)⟩
theorem ua.Qz(h:ua w n bw q mb m){x:Nat}(b:x∈mK bw q):x∉jc m:=fun a=>h.out x (mem_cons_of_mem _ a) b
theorem dF.side(h:dF w n tot bw q)(f:ua w n bw q mb m)(k:m.tr.nodes≠[])(l:m.bl≠[])(d:Kp (jc m) w w'):dF w' n tot bw q:=by
 have b:=f.md.nk
 have o:∀{x},x∈mK bw q->x∉jc m:=fun a=>f.Qz a
 have s:∀{x:Nat},x∈qG q.c->x∉jc m:=fun a=>o (by unfold mK;simp[a])
 have j:∀{x:Bm},x.In n w->x.In n w':=fun a=>a.jq d b (by decide) (by decide)
 have t:q.pm∉[m.tm,m.bm]:=fun a=>by
  have:q.pm∉jc m:=o (eN.2 (by simp))
  simp only[mem_cons,mem_nil_iff,or_false] at a
  unfold jc at this
  rcases a with e|e<;>simp[e] at this
 refine⟨b.blk d h.blk (by decide),h.ch.side d b (by decide) (fun x a=>?_) (fun p i a=>?_) (fun p i=>j (h.ch.nd p i).x),h.nb.qi (Nat.le_refl _) d b (by decide) (by decide) t,dM h.sg d (dL h.sg (b.not (by decide))),fun x a=>(h.si x a).qi d b (by decide),dM h.bl d (dL h.bl (b.not (by decide))),fun x a=>j (h.bi x a),h.sn,h.sb,h.pn,h.bn⟩
 ·rcases mem_cons.1 a with e|a
  ·rw[e];exact b.no h.ch.blk (by show _∉_;decide)
  ·exact s a
 ·obtain⟨mk,g,-⟩:=(h.ch.nd p i).book
  obtain⟨v,u,r,-⟩:=g.map
  refine b.no r ?_ a
  show _∉[m.tm,m.bm]
  exact gG (DV g.map f.md.tree.map k Kl) (DV g.map f.md.map l Km)
theorem ua.step{d:Md}(h:ua w n bw q mb m)(s:dF w n tot bw q)(j:eW w' n mb d)(t:∀x∈jc d,x∈jc m\/w.heap.size<=x)(l:d.la=m.la)(k:∀p∈d.bl,p∈m.bl\/(p.2.xs≠[]->∀b c,p.2.a=some ⟨b,c,none⟩->b∉mK bw q)):ua w' n bw q mb d:=by
 refine⟨j,fun x f=>?_,fun b c e=>h.la b c (l▸e),fun p r i b c e=>(k p r).elim (fun g=>h.ob p g i b c e) (fun g=>g i b c e)⟩
 rcases mem_cons.1 f with e|f
 ·rw[e];exact h.out mb mem_cons_self
 ·rcases t x f with g|g
  ·exact h.out x (mem_cons_of_mem _ g)
  ·exact fun o=>by have:=s.lt x o;omega
end
section
variable{c:Cm}{n:Nat}{q:Wl}
structure Cv(w:World)(n bw mb:Nat)(tot:Int)(B:Bd)(l4:List Ac)(q:Wl)(m:Md)(H:Int):Prop where
 wl:dF w n tot bw q
 ok:sP q H
 mw:ua w n bw q mb m
 hi:Hi q.nb q.c (cC (gq [] l4))
 eq:FG m q.c
 bd:q.c.bd=B
 l:m.l=l4
section
variable {w w':World} {n bw mb:Nat} {tot:Int} {B:Bd} {l4:List Ac} {q:Wl} {m:Md} {H:Int}
theorem Cv.az(J:Cv w n bw mb tot B l4 q m H)(a:Kp [] w w'):Cv w' n bw mb tot B l4 q m H:=⟨J.wl.az a,J.ok,J.mw.az a,J.hi,J.eq,J.bd,J.l⟩
theorem Cv.mh(J:Cv w n bw mb tot B l4 q m H)(f:jH l4=0)(b:0<l4.length/\l4.length<=1000)(d:0<=eU l4/\eU l4<=1000000000)(a:H<=500):Ck m q.c q.nb H:=by
 have e:=J.l
 exact⟨J.eq,by rw[e];exact J.hi,J.ok.ch,a,by rw[e];exact f,by rw[e];exact b,by rw[e];exact d⟩
theorem FG.Sq{H:Int}(h:FG m c)(ok:fX c H):m.tr.nodes≠[]:=fun e=>by
 have:=ok.wf.tip
 rw[<-h.tr] at this
 unfold Tr.has at this
 rw[e] at this
 cases this
theorem FG.Sp{H:Int}(h:FG m c)(ok:fX c H):m.bl≠[]:=fun e=>by
 obtain⟨q,b⟩:=ok.tip
 obtain⟨y,a,-⟩:=h.get b
 rw[e] at a
 cases a
theorem Cv.sub(ok:sP q H)(D:Hi q.nb q.c (cC (gq [] l4)))(A:FG m q.c)(v:q.c.bd=B)(E:m.l=l4){a:Wl}(e:a.c=q.c){y:Tm}(C:a.ss=q.ss++[y])(j:a.bs=q.bs){nb':dW}(o:a.nb=nb')(F:qm q.nb nb')(I:(nb'.length:Int)<=100+(H+1)){i r:Value}{d h:List Em}{s:Nm}(k:d.map Em.en=lu a.nb s (a.c.ps.map Em.en) y.t)(z:h.map Em.en=lu a.nb s (m.ps.map Em.en) y.t)
  (J:dF w' n tot bw {a with c:={a.c with pv:=i,ps:=d}}) (G:ua w' n bw {a with c:={a.c with pv:=i,ps:=d}} mb {m with pv:=r,ps:=h}):
  Cv w' n bw mb tot B l4 {a with c:={a.c with pv:=i,ps:=d}} {m with pv:=r,ps:=h} (H+1):=by
 have g:Hi nb' a.c (cC (gq [] l4)):=by rw[e];exact D.le F
 have f:FG m a.c:=by rw[e];exact A
 have K:fX a.c H:=by rw[e];exact ok.ch
 refine⟨J,⟨(K.sub k).mono (by omega),?_,?_,?_,?_,?_⟩,G,?_,⟨f.bd,f.tr,?_,f.bl⟩,?_,E⟩
 ·show∀u∈a.bs,∃p,aC a.c.ns (aI u.b)=some p/\p.2.x.b=u.b
  rw[j,e]
  exact ok.bs
 ·show 0<a.bs.length
  rw[j]
  exact ok.ne
 ·show(a.nb.length:Int)<=100+(H+1)
  rw[o]
  exact I
 ·show(a.ss.length:Int)<=100+(H+1)
  have:=ok.sl
  rw[C,length_append,length_singleton]
  omega
 ·show(a.bs.length:Int)<=100+(H+1)
  have:=ok.bl
  rw[j]
  omega
 ·show Hi a.nb {a.c with pv:=i,ps:=d} _
  rw[o]
  exact⟨g.ht,g.fst,g.first,g.up⟩
 ·show h.map Em.en=d.map Em.en
  rw[k,z,f.ps]
 ·show a.c.bd=B
  rw[e]
  exact v
end
theorem B9(f l s:UInt8):iS (uU f l s).leave:=by
 have a:=l.toNat_lt
 unfold iS uU
 simp only
 omega
def LJ(n:Nat)(q:Wl)(a:Ax):GD:=⟨Bm×Bool,(il,false),fun x=> .tuple #[eL x.1,.bool x.2],fun x w=>x.1.In n w/\(x.1.xs≠[]->∀b off,x.1.a=some ⟨b,off,none⟩->b∉aR q.vs)/\(((a.dO%UInt8.ofNat (Int.toNat 4)).toNat:Int)=1->x.2=true->Sd q a x.1)⟩
theorem Es{a:Ax}(x:(LJ n q a).X):cH [] ((LJ n q a).phi x):=fun w c b h=>⟨h.1.az b,h.2⟩
theorem I8{w w2 w0:World}{bw f:Nat}{b:Bd}{l:List Nat}{y:Bm}{m:Md}{tot:Int}(c:Fp b l q y)(o:b.fork<=1000)(j:dF w0 n tot bw q)(h:dF w n tot bw q)(k:eW w n f m)(a:Lo w0 b (jA l 4) f m):Cv w n bw f tot b (jA l 4) q m 0:=by
 obtain⟨z,v,t,s,-⟩:=c.ns
 have no:∀{x:Nat},w0.heap.size<=x->x∉mK bw q:=fun B r=>by have:=j.lt _ r;omega
 refine⟨h,E3 c o,⟨k,fun x u=>no (a.nw x u),fun b A e=>no (a.la b A e),fun p i g=>?_⟩,I9 c q.nb,⟨a.bd.trans c.bd.symm,a.tr.trans c.tr.symm,by rw[a.ps,c.ps],fun d=>?_⟩,c.bd,a.l⟩
 ·rw[a.bl,mem_singleton] at i
  rw[i] at g
  exact absurd rfl g
 ·rw[a.bl,t]
  show(if bF=d then some (bZ cM) else none).map Bm.b=(if bF=d then some (z,v) else none).map (fun q=>q.2.x.b)
  by_cases e:bF=d
  ·rw[if_pos e,if_pos e]
   simp[s]
  ·rw[if_neg e,if_neg e]
   rfl
end
section
attribute [local irreducible] CG NG SG aP aM Row aG aF aQ bG jA uU mK o8 aJ aI bz nC oL gx lu
theorem yD{w:World}(f l s:UInt8){m4:List Nat}(L:∀C∈m4,C<65536){a:Option Addr}{c:Nat}{I:List Ax}(hS:Sl tX 9 w a I)(hI:∀C∈I,C.In w.heap.size w)(hb:∀C∈I,C.body.length<=10000000):
  Calls prog 9 #[.agg #[bv f,bv l,bv s],CX m4,.slice a I.length c] w (fun H w'=>H= .returned (.bool true)/\Kp [] w w'):=by
 refine dG func9 rfl ntmps9 rfl ?_
 obtain⟨D,d5,d6⟩:=Fj L
 obtain⟨u1,u2,u3⟩:=Jf f l s
 have c6:=B9 f l s
 have ee:(jA m4 4).length=4:=iz _ _
 repeat apply ar
 refine SG.box rfl rfl rfl (ag rfl) (fun b3 w1 ck eZ bb=>?_)
 have bb:aG w1 b3 (.cells #[bv f,bv l,bv s] 22):=bb
 refine SG.box rfl rfl rfl (ag rfl) (fun b4 dy cZ e0 b5=>?_)
 have b5:aG dy b4 (.cells (yk m4).toArray 24):=b5
 repeat (first|apply ar|refine wt ?_)
 refine SG.ret rfl rfl rfl (vs:=[]) (bg.of rfl) (rD dy) (fun w3 cl=>?_)
 have k3:=(ck.trans cZ).trans cl
 repeat refine qb2 ?_
 refine SG.ret rfl rfl rfl (vs:=[.slice a I.length c]) (bg.of rfl) (Ey w3 a c I.length) (fun w4 a1=>?_)
 have k4:=k3.trans a1
 by_cases fc:I.length<=40
 rotate_left
 ·have ce:¬(I.length:Int)<=40:=by omega
  rw[decide_eq_false ce]
  repeat (first|apply ar|(apply au;rfl;(first|apply cI|apply ig)<;>rfl))
  refine bO rfl ?_
  repeat apply ar
  refine SG.ret rfl rfl rfl (vs:=[]) (bg.of rfl) (rD w4) (fun w5 cm=>?_)
  repeat (first|apply ar|refine wt ?_)
  refine aO (Or.inl rfl) results9 (aD.tmp rfl) ?_
  exact⟨rfl,k4.trans cm⟩
 have ce:(I.length:Int)<=40:=by omega
 rw[decide_eq_true ce]
 repeat (first|apply ar|(apply au;rfl;(first|apply cI|apply ig)<;>rfl))
 refine bA rfl ?_
 have cB:=(cZ.trans cl).trans a1
 have eD:=cl.trans a1
 have dK:=b5.az eD
 have q0:Row w4 b3 0 [bv f]:=Row.of (bb.az cB) [] [bv l,bv s] rfl rfl
 have k:Row w4 b3 1 [bv l]:=Row.of (bb.az cB) [bv f] [bv s] rfl rfl
 have d:Row w4 b3 2 [bv s]:=Row.of (bb.az cB) [bv f,bv l] [] rfl rfl
 repeat (first|apply ar|(apply au;rfl;(first|apply ur|apply aZ)<;>first|rfl|exact zc|assumption|exact wn))
 refine SG.ret rfl rfl rfl (vs:=[bv f,bv l,bv s]) (bg.of rfl) (xM f l s w4) (fun w5 cm=>?_)
 clear q0 k d
 refine SG.alloc rfl rfl rfl (fun b7 w6 ea d2 bc=>?_)
 refine SG.aN (l:=iF (uU f l s)) rfl rfl (ag rfl) (ag rfl) bc rfl rfl rfl (fun Q eb bc=>?_)
 have bc:aG Q b7 (.cells (iF (uU f l s)).toArray 31):=bc
 have eE:=ea.aj eb (aW d2)
 have dn:=cm.trans eE
 have k7:=k4.trans dn
 have e8:(iF (uU f l s)).length=3:=rfl
 have r7:Row Q b7 0 (iF (uU f l s)):=Row.all bc rfl
 have r4:Row Q b4 0 (yk m4):=Row.all (dK.az dn) rfl
 repeat (first|apply ar|(apply au;rfl;apply bf<;>first|rfl|assumption|exact wn))
 refine SG.call rfl rfl rfl (vs:=[yc (uU f l s),CX m4]) (bg.of rfl) ((pV Q u1 (by omega) L).mono (fun H w8 O=>?_))
 obtain⟨bC,r,q,y,rfl,h8,hB⟩:=O
 refine⟨_,rfl,?_⟩
 have r7:=r7.az bC
 have r4:=r4.az bC
 have s8:=bC.size
 repeat (first|apply ar|(apply au;rfl;(first|apply aE|apply bf)<;>first|rfl|assumption|exact wn))
 refine SG.call rfl rfl rfl (vs:=[yc (uU f l s),CX m4]) (bg.of rfl) ((xc (n:=Q.heap.size) s8 (uU f l s) u1 (by omega) L).mono (fun H w9 O=>?_))
 obtain⟨M,m,rfl,cU,cT,c0⟩:=O
 refine⟨_,rfl,?_⟩
 clear r7 r4
 have J9:=I8 (w:=w9) (w2:=w9) hB (by omega) h8 (h8.az c0) cU cT
 clear hB cT h8 cU
 obtain⟨u,hn⟩:∃u,Q.heap.size=u:=⟨_,rfl⟩
 have eF:=bC.trans c0
 rw[hn] at J9
 obtain⟨aQ,cQ⟩:∃aQ,uU f l s=aQ:=⟨_,rfl⟩
 obtain⟨l4,co⟩:∃l4,jA m4 4=l4:=⟨_,rfl⟩
 obtain⟨S,cq⟩:∃S,eU (jA m4 4)=S:=⟨_,rfl⟩
 rw[cq,cQ,co] at J9
 rw[cQ] at c6
 rw[co] at D ee
 rw[cq] at d5 d6
 have fj:eU l4=S:=by rw[<-co];exact cq
 have cn:0<l4.length/\l4.length<=1000:=by omega
 have cr:0<=eU l4/\eU l4<=1000000000:=by omega
 have c5:∀{w':World} {q:Wl} {m:Md} {cJ:Int},Cv w' u r M S aQ l4 q m cJ->cJ<=200->dq prog 42 #[.pointer (some ⟨r,0,none⟩),.pointer (some ⟨M,0,none⟩)] w' (.bool true):=fun a6 eX=>zM a6.wl a6.ok a6.mw.md (a6.mh D cn cr (by omega)) (by omega) (by rw[a6.bd];exact c6)
 repeat (first|apply ar|(apply au;rfl;(first|apply jF|apply aB|apply aE|apply cI)<;>rfl))
 refine SG.ret rfl rfl rfl (vs:=[.pointer (some ⟨r,0,none⟩),.pointer (some ⟨M,0,none⟩)]) (bg.of rfl) (c5 J9 (by omega)) (fun wA c1=>?_)
 have eH:=eF.trans c1
 repeat (first|apply ar|(apply au;rfl;(first|apply cI|apply ig)<;>rfl))
 refine bA rfl ?_
 repeat (first|apply ar|(apply au;rfl;(first|apply aB|apply dg)<;>rfl))
 refine CG.loop (X:=Nat×Wl×Md) (fun p=>[(8,.pointer (some ⟨r,0,none⟩)),(9,.pointer (some ⟨M,0,none⟩)),(51,.slice a I.length c),(52,.int .i64 (I.length:Int)),(53,.int .i64 (p.1:Int))])
  (fun p w'=>p.1<=I.length/\Cv w' u r M S aQ l4 p.2.1 p.2.2 (p.1:Int)/\Kp [] Q w') (fun p=>I.length-p.1) (0,q,m) ⟨Nat.zero_le _,J9.az c1,eH⟩ (aS.of rfl) ?_
 clear J9
 rintro⟨j,k,J⟩ wB ⟨hj,JB,dr⟩
 simp only at hj JB
 refine CG.to [(8,.pointer (some ⟨r,0,none⟩)),(9,.pointer (some ⟨M,0,none⟩)),(51,.slice a I.length c),(52,.int .i64 (I.length:Int)),(53,.int .i64 (j:Int))] (aS.of rfl) ?_
 have kB:=k7.trans dr
 by_cases bE:j<I.length
 rotate_left
 ·have g1:¬(j:Int)<(I.length:Int):=by omega
  repeat (first|apply ar|refine un ?_)
  refine bA rfl ?_
  repeat (first|apply ar|refine wt ?_)
  refine aO (Or.inl rfl) results9 (aD.tmp rfl) ?_
  exact⟨rfl,kB⟩
 have g1:(j:Int)<(I.length:Int):=by omega
 obtain⟨ba,aa,rfl,el⟩:=(hS.az kB).at bE
 have et:=(hI _ (getElem_mem bE)).az kB
 have eu:=hb _ (getElem_mem bE)
 generalize I[j]=C at*
 have fe:=k7.size
 repeat (first|apply ar|refine ul ?_)
 refine bO rfl ?_
 repeat (first|apply ar|(apply au;rfl;(first|apply bf|apply fa)<;>first|rfl|exact zc|assumption|exact wn))
 refine SG.alloc rfl rfl rfl (fun bu wC ec dZ aA=>?_)
 refine SG.aN (l:=tX C) rfl rfl (ag rfl) (ag rfl) aA (zL _) rfl (Ha _) (fun wD ed aA=>?_)
 have aA:aG wD bu (.cells (tX C).toArray 35):=aA
 have cE:=ec.aj ed (aW dZ)
 have A:=JB.az cE
 have ds:=dr.trans cE
 have cu:C.In u wD:=Ax.In.up (et.az cE) (by omega)
 clear el JB
 refine SG.nil ?_
 refine NG.next ?_
 refine CG.uj (fun aT w'=>∃q' m',aS [(8,.pointer (some ⟨r,0,none⟩)),(9,.pointer (some ⟨M,0,none⟩)),(51,.slice (some ⟨ba,aa,none⟩) I.length c),(52,.int .i64 (I.length:Int)),(53,.int .i64 (j:Int))] aT/\Cv w' u r M S aQ l4 q' m' ((j:Int)+1)/\Kp [] Q w') ?_ ?_
 rotate_left
 ·rintro aT wE ⟨q',m',hL,JE,bp⟩
  refine CG.to _ hL ?_
  repeat (first|apply ar|refine qa0 ?_)
  refine SG.ret rfl rfl rfl (vs:=[.pointer (some ⟨r,0,none⟩),.pointer (some ⟨M,0,none⟩)]) (bg.of rfl) (c5 JE (by omega)) (fun wF ah=>?_)
  repeat (first|apply ar|(apply au;rfl;apply ig<;>rfl))
  refine bA rfl ?_
  repeat (first|apply ar|refine wz ?_)
  have ej:((j+1:Nat):Int)=(j:Int)+1:=by omega
  refine NG.round (j+1,q',m') (aS.of rfl) ⟨bE,?_,bp.trans ah⟩ (by simp only;omega)
  simp only
  rw[ej]
  exact JE.az ah
 have bT:Row wD bu 0 (tX C):=Row.all aA rfl
 obtain⟨-,r0,-⟩:=eQ aA
 obtain⟨bt,hK⟩:∃bt:UInt8,C.dO%UInt8.ofNat (Int.toNat 4)=bt:=⟨_,rfl⟩
 have ff:=A.ok.nl
 have j6:=A.ok.sl
 have e9:=A.ok.bl
 have er:=A.wl.ch.w0
 have a5:0<J.l.length:=by rw[A.l];omega
 repeat (first|apply ar|(apply au;rfl;(first|apply Fv|apply aZ|apply aU|apply fE)<;>first|rfl|exact zc|assumption|exact wn|exact B4))
 rw[hK]
 clear r0
 refine CG.to [(8,.pointer (some ⟨r,0,none⟩)),(9,.pointer (some ⟨M,0,none⟩)),(11,.pointer (some ⟨bu,0,none⟩)),(51,.slice (some ⟨ba,aa,none⟩) I.length c),(52,.int .i64 (I.length:Int)),(53,.int .i64 (j:Int)),(60,.bool (decide ((bt.toNat:Int)=0)))] (aS.of rfl) ?_
 by_cases cY:(bt.toNat:Int)=0
 ·refine CG.ju rfl (ag rfl) (decide_eq_true cY) ?_
  repeat (first|apply ar|(apply au;rfl;(first|apply aB|apply bf)<;>first|rfl|assumption|exact wn))
  refine SG.call rfl rfl rfl (vs:=[.pointer (some ⟨r,0,none⟩),Jx C]) (bg.of rfl) ((DK A.wl er (by omega) cu eu).mono (fun H wE O=>?_))
  obtain⟨y,v',bN,rfl,hy,dU,af,ep,fg,c4⟩:=O
  refine⟨_,rfl,?_⟩
  have h2:=A.wl.sgn af dU
  have U:=A.mw.act a5 A.wl (xV.sgn (nb':=bN) af ep)
  have bp:Kp [] Q wE:=ds.aj af (fun z D=>Or.inr (by rw[hn];exact A.wl.nb.ge z D))
  refine SG.alloc rfl rfl rfl (fun ax wF ah d0 aF=>?_)
  refine SG.aN (l:=bV y) rfl rfl (ag rfl) (ag rfl) aF (ay _) rfl (bY _) (fun wG ak aF=>?_)
  have aF:aG wG ax (.cells (bV y).toArray 52):=aF
  have bL:=ah.aj ak (aW d0)
  have Y:=h2.az bL
  have dx:=U.az bL
  have cC:=bp.trans bL
  have ex:=hy.az bL
  obtain⟨d,R⟩:∃d,({k with vN:=v',nb:=bN}:Wl)=d:=⟨_,rfl⟩
  have e1:d.c=k.c:=by rw[<-R]
  have e2:d.ss=k.ss:=by rw[<-R]
  have e3:d.bs=k.bs:=by rw[<-R]
  have e4:d.nb=bN:=by rw[<-R]
  rw[R] at Y dx
  obtain⟨-,-,z2,-⟩:=cP Y.blk
  have cH:Row wG ax 0 (bV y):=Row.all aF rfl
  clear bT
  have bk:∀z∈aR d.vs,z<wG.heap.size:=fun z D=>cK Y.sg z (aL D)
  have em:d.vs=k.vs:=by rw[<-R]
  have eK:ax∉aR d.vs:=fun L=>by
   rw[em] at L
   have h1:=cK A.wl.sg ax (aL L)
   have:=af.size
   omega
  have nw:r∉aR d.vs:=fun L=>cF Y.sg (by decide) Y.blk r (aL L) (mem_singleton.2 rfl)
  have fi:d.ss.length<=1000:=by rw[e2];omega
  have fh:=Y.ch.w0
  repeat apply ar
  refine CG.dS mixed 8 [0,1,2,3,4,5,6,7] [6,7] (aR d.vs) (fun W=>W.ownsRow u 52 13 d.vs d.ss.length (bX bV d.ss)) (by kernel_rfl) Y.sg (fun _ _ o h=>aV h o) ?_
  repeat (apply bW;rfl;rfl;(first|apply bR|apply aB|apply aZ|apply bf|apply aU)<;>first|rfl|assumption|apply ay)
  refine aM.lP (cs:=(bV y).toArray) (E:=52) rfl rfl rfl rfl rfl (fun W=>zF y W) bk (fun W W' o h=>trivial) (fun _ _ o h=>aV h o) (fun bZ=>?_)
  apply aM.mv (P:=prog) (t:=41) (base:=u) (e:=52) (i:=Tryz.t52) (f:=ty.i52) (v:=d.vs) (nn:=d.ss.length) (xs:=bX bV d.ss) (b:=bZ) (off:=0) (m:=1) (c:=1) (news:=bV y)
  iterate 4 exact rfl
  iterate 2 exact ag rfl
  iterate 3 exact rfl
  ·exact fun W o K=>Row.all K.2.2 rfl
  ·rw[ay];rfl
  ·exact bY _
  ·simp only[maxLen];omega
  ·show(d.ss.length+1)*80<=_;omega
  ·omega
  ·exact fun _ h=>h
  ·exact fun W W' o K=>⟨trivial,K.2.1,K.2.2.kp o (fun L=>by have:=bk _ L;have:=K.2.1;omega)⟩
  intro v7
  refine aM.tl (fun wH Z K am=>?_)
  obtain⟨-,bH⟩:=K
  have am:wH.ownsRow u 52 13 v7 (d.ss++[y]).length (bX bV (d.ss++[y])):=by
   rw[dP,ix,length_append]
   exact am
  obtain⟨a7,c7,rfl⟩:=ik am
  have cc:=Y.blk.kp Z nw
  clear z2 cH
  repeat (apply au;rfl;(first|apply bR|apply aU)<;>rfl)
  refine SG.cp [.pointer (some ⟨d.c.cb,0,none⟩),.pointer (some ⟨d.c.vb,0,none⟩)] [d.vs] [d.vb] rfl rfl (ag rfl) (ag rfl) cc rfl rfl rfl rfl rfl (fun wI ad dL=>?_)
  have h6:=Y.put Z am bH ex ad dL
  have m6:=dx.act a5 Y (xV.put (s':=d.ss++[y]) Z ad bH)
  have bq:Kp [] Q wI:=(cC.aj Z (fun z D=>Or.inr (by rw[hn];exact rf Y.sg z D))).aj ad (aW (by rw[hn];exact Y.bn))
  have eM:ax≠r:=fun H=>by
   subst H
   have:=aG.uniq aF Y.blk
   simp only[Obj.cells.injEq] at this
   exact absurd this.2.1 (by decide)
  have cN:=(aF.kp Z eK).kp ad (bQ eM)
  obtain⟨F,bm⟩:∃F,({d with vs:= .slice a7 (d.ss++[y]).length c7,ss:=d.ss++[y]}:Wl)=F:=⟨_,rfl⟩
  have f1:F.c=k.c:=by rw[<-bm];exact e1
  have f2:F.ss=k.ss++[y]:=by rw[<-bm,<-e2]
  have f3:F.bs=k.bs:=by rw[<-bm];exact e3
  have f4:F.nb=bN:=by rw[<-bm];exact e4
  rw[bm] at h6 m6
  obtain⟨z0,z1,-,-⟩:=cP h6.blk
  have cH:Row wI ax 0 (bV y):=Row.all cN rfl
  have eh:df 256 (F.c.ps.map Em.en):=by rw[f1];exact A.ok.ch.pool
  obtain⟨qn,di⟩:∃qn,aC F.c.ns F.c.tr.tip=some qn:=by rw[f1];exact A.ok.ch.tip
  have cy:∀{W:World},dF W u S r F->y.In u W:=fun h=>h.si y (by rw[f2];simp)
  have a0:Ck J F.c F.nb (j:Int):=by
   have h0:=A.mh D cn cr (by omega)
   rw[f1,f4]
   exact⟨h0.eq,h0.hi.le c4,h0.ok,h0.hH,h0.lz,h0.ll,h0.tot⟩
  obtain⟨aq,hZ⟩:∃aq,gx F.nb qn.2 (F.c.ps.map Em.en) y.t=aq:=⟨_,rfl⟩
  have dY:gx F.nb qn.2 (J.ps.map Em.en) y.t=aq:=by rw[a0.eq.ps];exact hZ
  obtain⟨aX,cV⟩:∃aX,F.c.pb::aR F.c.pv=aX:=⟨_,rfl⟩
  have cd:dt u CT [] wI aX:=by rw[<-cV];exact h6.ch.pool.qi
  have cX:r∉aX:=cd.no h6.blk (by show _∉_;decide)
  have eW:ax∉aX:=cd.no cN (by show _∉_;decide)
  repeat apply ar
  refine CG.dS mixed 13 [0,1,2,3,4,6,7,8,9,10,11,12,5] [5] aX (fun W=>dF W u S r F/\ua W u r F M J) (by kernel_rfl) ⟨h6,m6⟩ (fun _ _ o h=>⟨h.1.az o,h.2.az o⟩) ?_
  repeat (apply bW;rfl;rfl;(first|apply vS|apply bR|apply aB|apply aZ|apply bf|apply aU)<;>first|rfl|assumption|apply ay)
  refine aM.uP (X:=Value×List Em) (vs:=[.pointer (some ⟨F.c.cb,0,none⟩),eG y]) (fun _=> .int .i64 aq) (fun _ _=>True) (fun p W=>dF W u S r {F with c:={F.c with pv:=p.1,ps:=p.2}}/\ua W u r {F with c:={F.c with pv:=p.1,ps:=p.2}} M J/\p.2.map Em.en=lu F.nb qn.2 (F.c.ps.map Em.en) y.t/\y.In u W) rfl rfl rfl rfl (bg.of rfl) (fun _ _ _ _ h=>h) (fun p W W' o h=>⟨h.1.az o,h.2.1.az o,h.2.2.1,h.2.2.2.az o⟩) (fun _ _ _ h=>h) (fun W c3 _ G=>(pL G.1.ch G.1.nb eh (cy G.1) di).mono (fun H W' O=>?_)) (fun p=>?_)
  ·obtain⟨rfl,ao,an,dN,bx,bD,ek⟩:=O
   have dQ:xV W W' r F {F with c:={F.c with pv:=ao,ps:=an}}:=xV.GY bD (fun C hx=>by unfold qG;rcases mem_cons.1 hx with h|h<;>simp[h]) ⟨rfl,rfl,rfl,rfl,rfl⟩ ek
   have cW:=G.1.GY bD G.1.ch.pool.qi dN ⟨rfl,rfl,rfl,rfl⟩ (fun p N=>Or.inl N)
   rw[hZ]
   rw[cV] at bD
   exact⟨(ao,an),rfl,trivial,⟨cW,G.2.act a5 G.1 dQ,bx,cW.si y (by show y∈F.ss;rw[f2];simp)⟩,bD⟩
  obtain⟨ao,an⟩:=p
  refine aM.tl (fun wJ a2 _ G=>?_)
  obtain⟨bz,be,bx,ez⟩:=G
  simp only at bz be bx
  have eJ:Kp [] Q wJ:=bq.aj a2 (fun z D=>Or.inr (by rw[hn];exact(cd z D).1))
  clear z0 z1 cH
  refine SG.call rfl rfl rfl (vs:=[.pointer (some ⟨M,0,none⟩),.iface 40 (.pointer (some ⟨F.c.vb,0,none⟩)),eG y]) (bg.of rfl) ((uB be.md a0 bz.nb ez di).mono (fun H wK O=>?_))
  obtain⟨rfl,bS,br,dR,dz,a3,cf⟩:=O
  refine⟨_,rfl,?_⟩
  have c2:Kp (jc J) wJ wK:=a3.mono (fun z D=>by
   unfold jc
   rcases mem_cons.1 D with H|H<;>simp[H])
  have dX:=bz.side be (A.eq.Sq A.ok.ch) (A.eq.Sp A.ok.ch) c2
  have dT:=be.step bz dR (wZ a3.size cf) rfl (fun p N=>Or.inl N)
  have cD:Kp [] Q wK:=eJ.aj c2 (fun z D=>Or.inr (by rw[hn];exact(be.md.nk z D).1))
  rw[dY]
  repeat (first|apply ar|(apply au;rfl;apply du<;>first|rfl|exact qf))
  refine bA rfl ?_
  repeat apply ar
  exact NG.cut ⟨_,_,by(repeat' (first|exact True.intro|exact rfl|refine And.intro ?_ ?_)),Cv.sub A.ok A.hi A.eq A.bd A.l f1 f2 f3 f4 c4 (by omega) bx dz dX dT,cD⟩
 refine CG.jv rfl (ag rfl) (decide_eq_false cY) ?_
 obtain⟨z0,-,-,-⟩:=cP A.wl.blk
 have d3:∀z∈k.bs,0<=z.ht/\z.ht<=1000:=fun z D=>by have:=A.ok.ht D;omega
 repeat apply ar
 refine CG.free mixed 12 [0,1,2,3,4,5,6,7,8,9,10,11] [(6,LJ u k C),(10,gV wD.heap.size 50 18),(11,gP wD.heap.size 50)] (by kernel_rfl) ?_ ?_
 ·intro p N
  simp only[mem_cons,mem_nil_iff,or_false] at N
  rcases N with rfl|rfl|rfl
  ·exact Es
  ·exact qB
  ·exact qD
 repeat (apply xZ;rfl;rfl;(first|apply bR|apply aB|apply aZ|apply bf|apply aU)<;>first|rfl|assumption|exact wn)
 refine bG.xL (vs:=[.pointer (some ⟨r,0,none⟩),.pointer (some ⟨k.c.cb,0,none⟩),Jx C]) (LJ u k C) rfl rfl rfl rfl (bg.of rfl) (fun W o _=>(ye (A.wl.az o) A.ok.ch (by omega) (by omega) A.ok.ne (by omega) d3 (by omega) (cu.az o)).mono (fun H W' O=>?_)) (fun y=>?_)
 ·obtain⟨y,cG,he,hy,aP,hs,hq⟩:=O
  exact⟨(y,cG),he,⟨hy,hs,hq⟩,aP⟩
 repeat (apply xZ;rfl;rfl;(first|apply aB|apply dd)<;>rfl)
 refine bG.uX rfl rfl rfl rfl rfl (Nat.le_refl _) (fun T=>?_)
 refine bG.ui (l:=cR y.1) rfl rfl rfl rfl (by kernel_rfl) (ag rfl) (ag rfl) (aH _) (Nat.le_refl _) (fun W o K=>⟨K _ (.head _) (by kernel_rfl),dB _⟩) ?_ ?_
 ·intro p N al y w w' eT g0 g1 g2 g3 g4 g5
  simp only[mem_cons,not_mem_nil,or_false] at N
  rcases N with rfl|rfl|rfl
  ·exact⟨g5.1.wr g3 (by omega) g1,g5.2⟩
  ·exact qC (aH _) g3 g4 g5
  ·exact absurd rfl al
 refine bG.tl (fun wE af K=>?_)
 obtain⟨fl,b1⟩:wD.heap.size<=T/\aG wE T (.cells (cR y.1).toArray 50):=K _ (.head _)
 obtain⟨hy,cz,dm⟩:y.1.In u wE/\(y.1.xs≠[]->∀V aa,y.1.a=some ⟨V,aa,none⟩->V∉aR k.vs)/\(((C.dO%UInt8.ofNat (Int.toNat 4)).toNat:Int)=1->y.2=true->Sd k C y.1):=K _ (.tail _ (.tail _ (.head _)))
 obtain⟨y,cG⟩:=y
 simp only at b1 hy cz dm
 clear K z0 bT
 have d1:T∉aR k.vb:=fun L=>by
  have:=cK A.wl.bl T (aL L)
  omega
 have JE:=A.az af
 have a0:=JE.mh D cn cr (by omega)
 have bp:=ds.trans af
 have b0:=aA.az af
 have ew:=cu.az af
 refine SG.val rfl rfl rfl rfl (aE rfl) ?_
 refine SG.nil ?_
 refine NG.next ?_
 refine CG.uj (fun aT w'=>aS [(8,.pointer (some ⟨r,0,none⟩)),(9,.pointer (some ⟨M,0,none⟩)),(13,.pointer (some ⟨T,0,none⟩)),(51,.slice (some ⟨ba,aa,none⟩) I.length c),(52,.int .i64 (I.length:Int)),(53,.int .i64 (j:Int))] aT/\Kp [] wE w') ?_ ?_
 ·obtain⟨-,r0,-⟩:=eQ b0
  by_cases ck:((C.dO%UInt8.ofNat (Int.toNat 4)).toNat:Int)=1
  rotate_left
  ·repeat (first|apply ar|(apply au;rfl;(first|apply Fv|apply aB|apply aZ|apply aU|apply cI|apply fE)<;>first|rfl|exact zc|assumption|exact qr|exact wn)|refine SG.skip rfl rfl ?_)
   refine bA rfl ?_
   repeat apply ar
   exact NG.cut ⟨by(repeat' (first|exact True.intro|exact rfl|refine And.intro ?_ ?_)),Kp.refl _ _⟩
  cases cG with
  |false=>
   repeat (first|apply ar|(apply au;rfl;(first|apply Fv|apply aB|apply aZ|apply aU|apply cI|apply fE)<;>first|rfl|exact zc|assumption|exact qf|exact wn))
   refine bA rfl ?_
   repeat apply ar
   exact NG.cut ⟨by(repeat' (first|exact True.intro|exact rfl|refine And.intro ?_ ?_)),Kp.refl _ _⟩
  |true=>
  obtain⟨xb,z,bU,p,bB,ef,N,dl⟩:=dm ck rfl
  obtain⟨jj,ci⟩:∃jj,jj=C.wh.toNat%k.bs.length:=⟨_,rfl⟩
  have al:=A.ok.ne
  have cj:jj<k.bs.length:=by rw[ci];exact Nat.mod_lt _ al
  have d9:(C.wh.toNat:Int)%(k.bs.length:Int)=(jj:Int):=by rw[ci];rfl
  have fk:0<=(C.wh.toNat:Int)/\0<(k.bs.length:Int):=by omega
  rw[<-ci,getElem?_eq_getElem cj] at bB
  have bB:=Option.some.inj bB
  repeat (first|apply ar|(apply au;rfl;(first|apply Fv|apply aB|apply aZ|apply aU|apply cI|apply fE)<;>first|rfl|exact zc|assumption|exact qf|exact wn))
  refine bO rfl ?_
  clear r0
  obtain⟨av,cv,ev,fb,dV⟩:=Sl.own aH JE.wl.bl rfl
  obtain⟨eS,ov,rfl,dj⟩:=dV.at cj
  obtain⟨-,-,-,-,-,-,-,-,r7,-⟩:=eQ b0
  obtain⟨-,-,-,z3⟩:=cP JE.wl.blk
  rw[ev] at z3
  have dk:=JE.wl.bi _ (getElem_mem cj)
  rw[bB] at dj dk
  have da:=fun{W:World} (o:Kp [] wE W)=>eP (dk.az o)
  rw[ef] at da
  repeat apply ar
  refine CG.fA mixed [0,1,2,3,4,5,6,7,8,9,10,11,12,13,14,15,16,17,18,21] [(19,20,15,.tmp 123)] (by kernel_rfl) (by kernel_rfl) ?_
  repeat (apply bW;rfl;rfl;(first|apply Fw|apply Jr|apply bR|apply aB|apply aZ|apply aU|apply dg)<;>first|rfl|exact zc|assumption|exact wn)
  rw[d9]
  repeat (apply bW;rfl;rfl;(first|apply bf|apply fa)<;>first|rfl|exact zc|assumption|exact wn|apply aH)
  refine aM.call rfl rfl rfl (vs:=[eL xb]) (bg.of rfl) (fun W o _=>da o) ?_
  repeat (apply bW;rfl;rfl;(first|apply aB|apply aE|apply dd)<;>rfl)
  refine aM.one (fq.of (by rfl) rfl rfl rfl (ag rfl) (by exact ai _) (by rfl) (by exact bj _)) (fun cL wF ah eY b2=>?_)
  have b2:aG wF cL (.cells (dc bU).toArray 47):=b2
  clear r7 z3 dj
  have JF:=JE.az ah
  have ap:Row wF T 0 (cR y):=Row.all (b1.az ah) rfl
  have eR:Row wF cL 0 (dc bU):=Row.all b2 rfl
  have bT:Row wF bu 0 (tX C):=Row.all (b0.az ah) rfl
  obtain⟨z0,-,-,-⟩:=cP JF.wl.blk
  obtain⟨ws,ct⟩:∃ws,(fU (k.c.ps.map Em.en)).map (fun H=>aJ H.t)=ws:=⟨_,rfl⟩
  rw[ct] at dl
  have es:ws.length<=1000000:=by
   have:=A.ok.ch.pool.len
   rw[<-ct,length_map,gZ]
   omega
  repeat apply ar
  refine CG.dS mixed 9 [0,1,2,3,4,5,6,7,8] [8] [] (fun _=>True) (by kernel_rfl) trivial (fun _ _ _ _=>trivial) ?_
  repeat (apply bW;rfl;rfl;(first|apply bR|apply aB|apply aZ|apply bf|apply aU)<;>first|rfl|assumption|exact wn|apply ai|apply aH)
  refine aM.mR (enc:=dc) (sz:=8) ws rfl rfl rfl rfl (vs:=[.pointer (some ⟨k.c.cb,0,none⟩)]) (bg.of rfl) sX (fun W o _=>?_) (fun aw cw=>?_)
  ·have:=(mW (JF.wl.az o).ch A.ok.ch.pool).HZ ai
   rw[ct] at this
   exact this
  refine aM.tl (fun wG ak K _=>?_)
  have dW:=K.2.sl
  have cA:=ah.trans ak
  refine SG.ret rfl rfl rfl (vs:=[.pointer (some ⟨M,0,none⟩),eL y,dv bU,Jx C,.slice aw ws.length cw]) (bg.of rfl) (BJ (JF.az ak).mw.md a0 (hy.az cA) N (ew.az cA) dW es dl) (fun wH Z=>?_)
  clear ap eR bT z0
  repeat (first|apply ar|(apply au;rfl;apply ig<;>rfl))
  refine bA rfl ?_
  repeat apply ar
  exact NG.cut ⟨by(repeat' (first|exact True.intro|exact rfl|refine And.intro ?_ ?_)),cA.trans Z⟩
 rintro aT wF ⟨hL,bJ⟩
 refine CG.to _ hL ?_
 clear hL aT
 have JF:=JE.az bJ
 have ey:=hy.az bJ
 have cO:=b1.az bJ
 have eI:=bp.trans bJ
 clear JE A
 obtain⟨z0,-,-,-⟩:=cP JF.wl.blk
 have ap:Row wF T 0 (cR y):=Row.all cO rfl
 repeat apply ar
 refine CG.tail mixed 5 [0,1,2,3,4] (by kernel_rfl) ?_
 repeat (apply bW;rfl;rfl;(first|apply bR|apply aB|apply aZ|apply bf|apply aU)<;>first|rfl|assumption|exact wn|apply aH)
 refine aM.tl (fun wG ak _ _=>?_)
 have B:=JF.az ak
 have bI:=ey.az ak
 have dI:=cO.az ak
 have cC:=eI.trans ak
 clear JF z0 ap
 have l1:=B.wl.ch.tree.map.lt
 have l2:=B.wl.ch.map.lt
 have l3:=B.wl.nb.map.lt
 refine SG.call rfl rfl rfl (vs:=[.pointer (some ⟨k.c.cb,0,none⟩),eL y]) (bg.of rfl) ((tT B.wl.ch B.ok.ch (by omega) (by omega) (fun z D=>by
  simp only[mem_cons,mem_nil_iff,or_false] at D
  rcases D with rfl|rfl|rfl
  ·exact l1
  ·exact l2
  ·exact l3) B.wl.nb bI).mono (fun H wH O=>?_))
 obtain⟨rfl,O⟩:=O
 refine⟨_,rfl,?_⟩
 have bh:dt u CT [k.c.tm,k.c.nm] wG (qG k.c):=B.wl.ch.nk
 have Z:Kp (qG k.c) wG wH:=by
  rcases O with g|g
  ·exact g.2.2
  ·obtain⟨-,_,_,_,_,-,-,-,-,g,-⟩:=g
   exact g
 have cx:y.In u wH:=bI.jq Z bh (by decide) (by decide)
 have a9:aG wH T (.cells (cR y).toArray 50):=bh.blk Z dI (by decide)
 have dw:Kp [] Q wH:=cC.aj Z (fun z D=>Or.inr (by rw[hn];exact(bh z D).1))
 have c8:=B.eq.Sq B.ok.ch
 have c9:=B.eq.Sp B.ok.ch
 have db:Hp (ca J.bl (aI y.b) y) (ca k.c.ns (aI y.b) (0,{Kv with x:=y})):=Hp.put B.eq.bl _ rfl
 by_cases ae:oL k.nb k.c y.b=0
 rotate_left
 ·obtain⟨-,b6,-⟩:oL k.nb k.c y.b≠0/\cS wH u [k.c.tm,k.c.nm,k.pm] S k.c/\Kp (qG k.c) wG wH:=O.elim id (fun g=>absurd g.1 ae)
  have aY:dF wH u S r k:=B.wl.GY Z bh b6 ⟨rfl,rfl,rfl,rfl⟩ (fun p N=>Or.inl N)
  have ab:=B.mw.act a5 B.wl (xV.GY Z (fun _ h=>h) ⟨rfl,rfl,rfl,rfl,rfl⟩ (fun _ h=>Or.inl h))
  obtain⟨aq,hZ⟩:∃aq,oL k.nb k.c y.b=aq:=⟨_,rfl⟩
  rw[hZ] at ae⊢
  have cX:r∉jc J:=ab.Qz (eN.2 (by simp))
  have dH:T∉jc J:=ab.md.nk.no a9 (by show _∉_;decide)
  obtain⟨-,z1,-,-⟩:=cP aY.blk
  have ap:Row wH T 0 (cR y):=Row.all a9 rfl
  repeat (first|apply ar|refine wt ?_)
  refine CG.dS mixed 9 [0,1,2,3,4,5,6,7,8] [8] (jc J) (fun W=>dF W u S r k/\ua W u r k M J/\y.In u W) (by kernel_rfl) ⟨aY,ab,cx⟩ (fun _ _ o h=>⟨h.1.az o,h.2.1.az o,h.2.2.az o⟩) ?_
  repeat (apply bW;rfl;rfl;(first|apply vS|apply bR|apply aB|apply aZ|apply bf|apply aU)<;>first|rfl|assumption|apply aH)
  refine aM.uP (X:=Unit) (vs:=[.pointer (some ⟨M,0,none⟩),.iface 40 (.pointer (some ⟨k.c.vb,0,none⟩)),eL y]) (fun _=> .int .i64 aq) (fun _ _=>True) (fun _ W=>dF W u S r k/\ua W u r k M J) rfl rfl rfl rfl (bg.of rfl) (fun _ _ _ _ h=>h) (fun _ W W' o h=>⟨h.1.az o,h.2.az o⟩) (fun _ _ _ h=>h) (fun W c3 _ G=>(tD G.2.1.md a0 G.1.nb G.2.2 db).mono (fun H W' aK=>?_)) (fun _=>?_)
  ·obtain⟨rfl,aK⟩:=aK
   obtain⟨-,b8,aP⟩:=aK.elim id (fun g=>absurd (hZ.symm.trans g.1) ae)
   rw[hZ]
   exact⟨(),rfl,trivial,⟨G.1.side G.2.1 c8 c9 aP,G.2.1.step G.1 b8 (fun C hx=>Or.inl hx) rfl (fun p N=>Or.inl N)⟩,aP⟩
  skip
  refine aM.tl (fun wI ad _ G=>?_)
  clear z1 ap
  have bq:Kp [] Q wI:=dw.aj ad (fun z D=>Or.inr (by rw[hn];exact(ab.md.nk z D).1))
  repeat (first|apply ar|(apply au;rfl;apply du<;>first|rfl|exact qf))
  refine bA rfl ?_
  repeat (first|apply ar|(apply au;rfl;(first|apply aB|apply fE)<;>first|rfl|exact qr))
  refine bA rfl ?_
  repeat apply ar
  exact NG.cut ⟨k,J,by(repeat' (first|exact True.intro|exact rfl|refine And.intro ?_ ?_)),⟨G.1,B.ok.mono (by omega),G.2,B.hi,B.eq,B.bd,B.l⟩,bq⟩
 obtain⟨-,hA⟩:=O.elim (fun g=>absurd ae g.1) id
 obtain⟨ao,an,z,qn,b6,bo,hr,dh,a1,ei,d7⟩:=hA
 have K4:=xV.GY (bw:=r) (c':={k.c with pv:=ao,ps:=an,tr:=k.c.tr.add (aI y.b) y.b.par,ns:=ca k.c.ns (aI y.b) (z,qn)}) a1 (fun _ h=>h) ⟨rfl,rfl,rfl,rfl,rfl⟩ ei
 have aY:=B.wl.GY a1 bh b6 ⟨rfl,rfl,rfl,rfl⟩ (fun p N=>(lV N).elim (fun H=>Or.inr (by rw[H];exact d7)) Or.inl)
 have ab:=B.mw.act a5 B.wl K4
 have eA:y.xs≠[]->∀V aa,y.a=some ⟨V,aa,none⟩->V∉mK r k:=fun al V aa H=>B.wl.UX bI al H (cz al V aa H)
 rw[ae]
 obtain⟨d,R⟩:∃d,({k with c:={k.c with pv:=ao,ps:=an,tr:=k.c.tr.add (aI y.b) y.b.par,ns:=ca k.c.ns (aI y.b) (z,qn)}}:Wl)=d:=⟨_,rfl⟩
 have e1:d.c={k.c with pv:=ao,ps:=an,tr:=k.c.tr.add (aI y.b) y.b.par,ns:=ca k.c.ns (aI y.b) (z,qn)}:=by rw[<-R]
 have e2:d.bs=k.bs:=by rw[<-R]
 have e3:d.vs=k.vs:=by rw[<-R]
 have e4:d.ss=k.ss:=by rw[<-R]
 have e5:d.nb=k.nb:=by rw[<-R]
 have e6:d.vb=k.vb:=by rw[<-R]
 have eV:d.c.vb=k.c.vb:=by rw[<-R]
 rw[R] at aY ab K4
 have eB:y.xs≠[]->∀V aa,y.a=some ⟨V,aa,none⟩->V∉mK r d:=fun al V aa H L=>(K4.sub V L).elim (eA al V aa H) (fun g=>by have:=bI.lt al H;omega)
 have cX:r∉jc J:=ab.Qz (eN.2 (by simp))
 have dH:T∉jc J:=ab.md.nk.no a9 (by show _∉_;decide)
 obtain⟨-,z1,-,-⟩:=cP aY.blk
 have ap:Row wH T 0 (cR y):=Row.all a9 rfl
 repeat (first|apply ar|refine wt ?_)
 refine CG.dS mixed 9 [0,1,2,3,4,5,6,7,8] [8] (jc J) (fun W=>dF W u S r d/\ua W u r d M J/\y.In u W) (by kernel_rfl) ⟨aY,ab,cx⟩ (fun _ _ o h=>⟨h.1.az o,h.2.1.az o,h.2.2.az o⟩) ?_
 repeat (apply bW;rfl;rfl;(first|apply vS|apply bR|apply aB|apply aZ|apply bf|apply aU)<;>first|rfl|assumption|apply aH)
 refine aM.uP (X:=Value×List Em) (vs:=[.pointer (some ⟨M,0,none⟩),.iface 40 (.pointer (some ⟨d.c.vb,0,none⟩)),eL y]) (fun _=> .int .i64 0) (fun _ _=>True) (fun p W=>dF W u S r d/\ua W u r d M {J with pv:=p.1,ps:=p.2,tr:=k.c.tr.add (aI y.b) y.par,bl:=ca J.bl (aI y.b) y}/\p.2.map Em.en=an.map Em.en) rfl rfl rfl rfl (bg.of rfl) (fun _ _ _ _ h=>h) (fun _ W W' o h=>⟨h.1.az o,h.2.1.az o,h.2.2⟩) (fun _ _ _ h=>h) (fun W c3 _ G=>(tD (nb:=k.nb) (vb:=d.c.vb) (v:=d.vN) (pm:=d.pm) (base:=u) G.2.1.md a0 (by have:=G.1.nb;rw[e5] at this;exact this) G.2.2 db).mono (fun H W' aK=>?_)) (fun p=>?_)
 ·obtain⟨rfl,aK⟩:=aK
  obtain⟨-,bS,br,b8,bF,aP,cf⟩:=aK.elim (fun g=>absurd ae g.1) id
  rw[ae]
  refine⟨(bS,br),rfl,trivial,⟨G.1.side G.2.1 c8 c9 aP,G.2.1.step G.1 b8 (fun C hx=>?_) rfl (fun p N=>?_),?_⟩,aP⟩
  ·simp only[jc,mem_cons] at hx⊢
   rcases hx with g|g|g|g|g
   ·exact Or.inl (by simp[g])
   ·exact Or.inl (by simp[g])
   ·exact Or.inl (by simp[g])
   ·exact Or.inl (by simp[g])
   ·exact(jm cf g).imp (fun g=>by simp[g]) id
  ·rcases lV N with g|g
   ·exact Or.inr (by rw[g];exact eB)
   ·exact Or.inl g
  ·rw[bF,dh,B.eq.tr,B.eq.ps]
   have eC:y.b.par=y.par:=rfl
   rw[eC]
   split
   ·rfl
   ·exact H4 (fun a8=>by
     rw[bK,bK]
     by_cases g:aI y.b=a8
     ·rw[if_pos g,if_pos g]
      simp[bo]
     ·rw[if_neg g,if_neg g]) _ _ _ _
 obtain⟨bS,br⟩:=p
 skip
 refine aM.tl (fun wI ad _ G=>?_)
 obtain⟨ac,b9,bF⟩:=G
 simp only at b9 bF
 clear z1 ap
 have bq:Kp [] Q wI:=dw.aj ad (fun z D=>Or.inr (by rw[hn];exact(ab.md.nk z D).1))
 have dJ:=ab.md.nk.blk ad a9 (by decide)
 have cy:y.In u wI:=cx.jq ad ab.md.nk (by decide) (by decide)
 obtain⟨U,a4⟩:∃U:Md,({J with pv:=bS,ps:=br,tr:=k.c.tr.add (aI y.b) y.par,bl:=ca J.bl (aI y.b) y}:Md)=U:=⟨_,rfl⟩
 have dA:U.bd=J.bd:=by rw[<-a4]
 have dC:U.tr=k.c.tr.add (aI y.b) y.par:=by rw[<-a4]
 have dD:U.ps=br:=by rw[<-a4]
 have dE:U.bl=ca J.bl (aI y.b) y:=by rw[<-a4]
 have cM:U.l=J.l:=by rw[<-a4]
 rw[a4] at b9
 repeat (first|apply ar|(apply au;rfl;apply du<;>first|rfl|exact qf))
 refine bA rfl ?_
 repeat (first|apply ar|(apply au;rfl;(first|apply aB|apply fE)<;>first|rfl|exact qf))
 refine bO rfl ?_
 have e7:d.bs.length<=1000:=by rw[e2];omega
 have bk:∀z∈aR d.vb,z<wI.heap.size:=fun z D=>cK ac.bl z (aL D)
 have nw:r∉aR d.vb:=fun L=>cF ac.bl (by decide) ac.blk r (aL L) (mem_singleton.2 rfl)
 have fd:=ac.ch.w0
 obtain⟨-,-,-,z3⟩:=cP ac.blk
 have ap:Row wI T 0 (cR y):=Row.all dJ rfl
 have fm:T∉aR d.vb:=fun L=>by
  rw[e6] at L
  exact d1 L
 skip
 refine CG.dS mixed 8 [0,1,2,3,4,5,6,7] [6,7] (aR d.vb) (fun W=>W.ownsRow u 50 18 d.vb d.bs.length (bX cR d.bs)) (by kernel_rfl) ac.bl (fun _ _ o h=>aV h o) ?_
 repeat (apply bW;rfl;rfl;(first|apply bR|apply aB|apply aZ|apply bf|apply aU)<;>first|rfl|assumption|apply aH)
 refine aM.lP (cs:=(cR y).toArray) (E:=50) rfl rfl rfl rfl rfl (fun W=>R4 y W) bk (fun W W' o h=>trivial) (fun _ _ o h=>aV h o) (fun bZ=>?_)
 apply aM.mv (P:=prog) (t:=42) (base:=u) (e:=50) (i:=Tryz.t50) (f:=ty.i50) (v:=d.vb) (nn:=d.bs.length) (xs:=bX cR d.bs) (b:=bZ) (off:=0) (m:=1) (c:=1) (news:=cR y)
 iterate 4 exact rfl
 iterate 2 exact ag rfl
 iterate 3 exact rfl
 ·exact fun W o K=>Row.all K.2.2 rfl
 ·rw[aH];rfl
 ·exact dB _
 ·simp only[maxLen];omega
 ·show(d.bs.length+1)*48<=_;omega
 ·omega
 ·exact fun _ h=>h
 ·exact fun W W' o K=>⟨trivial,K.2.1,K.2.2.kp o (fun L=>by have:=bk _ L;have:=K.2.1;omega)⟩
 intro v7
 refine aM.tl (fun wJ a2 K am=>?_)
 obtain⟨-,bH⟩:=K
 have am:wJ.ownsRow u 50 18 v7 (d.bs++[y]).length (bX cR (d.bs++[y])):=by
  rw[dP,ix,length_append]
  exact am
 obtain⟨a7,c7,rfl⟩:=ik am
 have cc:=ac.blk.kp a2 nw
 clear z3 ap
 repeat (apply au;rfl;(first|apply bR|apply aU)<;>rfl)
 refine SG.cp [.pointer (some ⟨d.c.cb,0,none⟩),.pointer (some ⟨d.c.vb,0,none⟩),d.vs] [d.vb] [] rfl rfl (ag rfl) (ag rfl) cc rfl rfl rfl rfl rfl (fun wK a3 dM=>?_)
 have h6:=ac.Ig a2 am cy (by rw[e3];exact cz) a3 dM
 have m6:=b9.act (by rw[cM];exact a5) ac (xV.Ig (s':=d.bs++[y]) a2 a3 bH)
 have cD:Kp [] Q wK:=(bq.aj a2 (fun z D=>Or.inr (by rw[hn];exact rf ac.bl z D))).aj a3 (aW (by rw[hn];exact ac.bn))
 repeat apply ar
 obtain⟨t1,t2,-⟩:=zP ae
 have eO:=B.ok.ch.added ae (pv:=ao) bo hr dh
 have eo:Jn k.nb k.c {k.c with pv:=ao,ps:=an,tr:=k.c.tr.add (aI y.b) y.b.par,ns:=ca k.c.ns (aI y.b) (z,qn)}:=⟨⟨rfl,rfl,rfl,rfl⟩,Or.inr ⟨y.b,z,qn,ae,rfl,rfl,bo,hr⟩⟩
 have d8:=B.hi.J1 B.ok.ch eo
 have d4:=B.ok.bs
 refine NG.cut ⟨_,U,by(repeat' (first|exact True.intro|exact rfl|refine And.intro ?_ ?_)),⟨h6,⟨?_,?_,?_,?_,?_,?_⟩,m6,?_,⟨?_,?_,?_,fun a8=>?_⟩,?_,cM.trans B.l⟩,cD⟩
 ·show fX d.c ((j:Int)+1)
  rw[e1]
  exact eO
 ·show∀C∈d.bs++[y],∃p,aC d.c.ns (aI C.b)=some p/\p.2.x.b=C.b
  rw[e1,e2]
  intro C hx
  show∃p,aC (ca k.c.ns (aI y.b) (z,qn)) (aI C.b)=some p/\p.2.x.b=C.b
  rcases mem_append.1 hx with hx|hx
  ·obtain⟨p,de,eg⟩:=d4 C hx
   refine⟨p,?_,eg⟩
   rw[bK,if_neg (fun H=>by rw[H,de] at t2;cases t2),de]
  ·rw[mem_singleton] at hx
   subst hx
   exact⟨(z,qn),by rw[bK,if_pos rfl],bo⟩
 ·show 0<(d.bs++[y]).length
  rw[length_append];simp
 ·show(d.nb.length:Int)<=100+((j:Int)+1)
  rw[e5];omega
 ·show(d.ss.length:Int)<=100+((j:Int)+1)
  rw[e4];omega
 ·show((d.bs++[y]).length:Int)<=100+((j:Int)+1)
  rw[e2,length_append,length_singleton];omega
 ·show Hi d.nb d.c _
  rw[e5,e1]
  exact d8
 ·show U.bd=d.c.bd
  rw[dA,e1]
  exact B.eq.bd
 ·show U.tr=d.c.tr
  rw[dC,e1]
  rfl
 ·show U.ps.map Em.en=d.c.ps.map Em.en
  rw[dD,e1]
  exact bF
 ·show(aC U.bl a8).map Bm.b=(aC d.c.ns a8).map (fun q=>q.2.x.b)
  rw[dE,e1]
  exact Hp.put B.eq.bl (aI y.b) bo a8
 ·show d.c.bd=aQ
  rw[e1]
  exact B.bd
end
section
open Go.ChangeShapes Go.WideShapes Go.ChangeAt Go.RowKit
theorem Ed(a:Os):laidMet prog Rows.chainPlaysUptoRow.laid ((pf a).forCall (fun _ _=>0) ⟨#[],#[Hd,Hc,.slice none 0 0],[]⟩).memory:=
 laidMet_of_run' 8 (by kernel_rfl) (by kernel_rfl)
theorem reads(a:Os){H:Type}(enc:TypeId×Value->H):∃b,DataW.whole enc prog ((pf a).forCall (fun _ _=>0) ⟨#[],#[Hd,Hc,.slice none 0 0],[]⟩).memory Tryz.f9.params.toList Rows.chainPlaysSpec.vars false #[Hd,Hc,.slice none 0 0].toList 8=some ([.agg [.lit (.int .u8 0),.lit (.int .u8 0),.lit (.int .u8 0)],.agg [.lit (.int .u16 0),.lit (.int .u16 0),.lit (.int .u16 0),.lit (.int .u16 0)],.nil],[],b):=
 ⟨[],by kernel_rfl⟩
set_option maxRecDepth 100000 in
theorem oF(d:Os)(Q:d.Started)(H:Type)(enc:TypeId×Value->H)(F:Stop.Interp):
  ReturnsInHanded {} checked d 9 .any ((Rows.OpenSpec.upto Rows.chainPlaysSpec).preRow enc prog Tryz.f9 Rows.chainPlaysUptoRow.domain false Rows.chainPlaysUptoRow.laid) (((Rows.OpenSpec.upto Rows.chainPlaysSpec).at F).post enc prog Tryz.f9 false true false false):=by
 obtain⟨aa,O⟩:=reads d enc
 refine returnsInHanded_of_row (C:=checked) (s:=Rows.OpenSpec.upto Rows.chainPlaysSpec) own Q (by kernel_rfl) func9
  (witness_row_at (enc:=enc) (C:=checked) false (pf d) #[Hd,Hc,.slice none 0 0] rfl (by kernel_rfl) (by kernel_rfl) (by kernel_rfl)
   (OpenSpec.preRow_of_cond 8 O (by kernel_rfl) (fun k b=>by cases b;kernel_rfl) (by kernel_rfl) (Ed d))) ?_
 intro W r h m n u N G _ K _ _ _ _
 have g:∀(j:Nat) t v,Tryz.f9.params[j]?=some t->h[j]?=some v->Value.okWide prog W .any r t v:=N
 have q:DataW.Whole enc prog Tryz.f9.params.toList Rows.chainPlaysSpec.vars false W h.toList m n u:=G
 have E:=q
 obtain⟨p,ab,A,X,rfl,Y,Z⟩:=E
 have o:DataW.TrodAll enc prog W 0 (fun _=>true) true Tryz.f9.params.toList h.toList m p:=A
 rw[params9] at o g
 obtain⟨R,S,T,w,d1,i,p0,p1,p2,rfl,rfl,rfl,x,y,z⟩:=trodAll_three o
 have b:Rows.uptoBulkAll ([w,d1,i]++n)<=1048576:=of_decide_eq_true (K _ rfl)
 have I:Rows.uptoBulk i<=1048576:=Nat.le_trans (Aj (mem_append_left _ (by simp))) b
 obtain⟨f,l,P,rfl⟩:=Lf (g 0 22 R rfl rfl) x
 obtain⟨m4,rfl,M⟩:=JS (g 1 24 S rfl rfl) y
 obtain⟨a,c,V,rfl,D,B,J⟩:=Hk (g 2 25 T rfl rfl) z I
 refine(yD f l P M D B J).mono fun e U ⟨L,b⟩=>⟨_,L,?_⟩
 exact Ec laidOut (by rw[params9];exact of_decide_eq_true (by kernel_rfl)) rfl q rfl (by kernel_rfl) underlying4 b
theorem qj:Rows.ChainPlaysUptoSaid:=
 OpenClaim.holds_of_cond 9 Tryz.f9 rfl rfl rfl rfl rfl rfl rfl ⟨rfl,rfl,rfl,rfl,rfl⟩ rfl rfl rfl rfl rfl (by kernel_rfl) func9 (by kernel_rfl)
  (of_decide_eq_true (by kernel_rfl)) (by unfold Func.isWrapper;first|(rw[if_pos (by decide+kernel)];kernel_rfl)|(rw[if_neg (by decide+kernel)];exact⟨rfl,rfl⟩))
  (fun b c H a _ F=>by rw[OpenClaim.pre_eq_preRow];exact oF b c H a F)
theorem py(f:FuncId)(fn:Func)(b:Tryz.pinned.checked.prog.funcNamed "baize/baizelaw30.ChainPlays"=some f)(c:Tryz.pinned.checked.prog.funcs[f]?=some fn):
  true=Tryz.pinned.checked.prog.looks []/\∀(j:Nat) t,fn.params[j]?=some t->Tryz.pinned.checked.prog.wantsStandIn t=false:=by
 obtain rfl:f=9:=Option.some.inj ((show prog.funcNamed "baize/baizelaw30.ChainPlays"=some 9 by kernel_rfl).symm.trans b)|>.symm
 obtain rfl:fn=Tryz.f9:=(Option.some.inj (func9.symm.trans c)).symm
 refine⟨by kernel_rfl,fun j t a=>?_⟩
 rw[params9] at a
 have a:=Array.mem_of_getElem? a
 simp only[mem_toArray,mem_cons,mem_nil_iff,or_false] at a
 rcases a with rfl|rfl|rfl
 ·exact(show prog.wantsStandIn 22=false by kernel_rfl)
 ·exact(show prog.wantsStandIn 24=false by kernel_rfl)
 ·exact(show prog.wantsStandIn 25=false by kernel_rfl)
theorem chainPlays_holds:Rows.ChainPlaysUptoCardSaid:=
 Claim7.holds_tied_plain_at .later [] _ _ _ _ qj (fun _ h=>by cases h) (by kernel_rfl) (fun _ h=>by cases h) chainPlaysUpto_row_tie rfl ⟨rfl,rfl⟩ (by kernel_rfl) rfl py (by kernel_rfl)
end
end Go.Proofs.YtpnjgjddabeapaaGreatDoor
