import Derived.Test.YtpnjgjddabeapaaGreatDoorMa4
namespace Go.Proofs.YtpnjgjddabeapaaGreatDoor
set_option linter.all false
set_option maxHeartbeats 400000000
section
structure yC(wT:World)(b12 b13 hG:Nat)(p mk:Dg)(ht:Int)(tot:Int)(N:Nat)(i:Nat)(xs:List Tm)(bk bm tb:Nat)(m:Bk)(f:Fb)(t:Tl)(va:Value)(es:List Int)(vt:Value)(acc:List Tm)(W:World):Prop where
 kp:Kp [b13,hG,b12] wT W
 st:fu W 116 [] b13 bk bm tb m t va
 bm:bm=hG∨wT.heap.size≤bm
 bi:jM tot (N+6*i) m f
 tn:t.n≤N+i
 oa:W.ownsRow wT.heap.size 36 1 va es.length (bO tt es)
 el:es.length≤i
 ot:W.ownsRow wT.heap.size 52 13 vt acc.length (bO bV acc)
 al:acc.length≤i
 sub:∀x∈acc,x∈xs
 blk:aF W b12 (.cells (oO p ht mk vt).toArray 50)
theorem yC.ay{wT:World}{b12 b13 hG:Nat}{p mk:Dg}{ht:Int}{tot:Int}{N i:Nat}{xs:List Tm}{bk bm tb:Nat}{m:Bk}{f:Fb}{t:Tl}{va:Value}{es:List Int}{vt:Value}{acc:List Tm}{W W':World}(J:yC wT b12 b13 hG p mk ht tot N i xs bk bm tb m f t va es vt acc W)(hk:Kp [] W W'):yC wT b12 b13 hG p mk ht tot N i xs bk bm tb m f t va es vt acc W':=
 ⟨J.kp.trans hk.any,J.st.ay hk,J.bm,J.bi,J.tn,aT J.oa hk,J.el,aT J.ot hk,J.al,J.sub,J.blk.ay hk⟩
theorem yC.next{wT:World}{b12 b13 hG:Nat}{p mk:Dg}{ht:Int}{tot:Int}{N i:Nat}{xs:List Tm}{bk bm tb:Nat}{m:Bk}{f:Fb}{t:Tl}{va:Value}{es:List Int}{vt:Value}{acc:List Tm}{W W':World}(J:yC wT b12 b13 hG p mk ht tot N i xs bk bm tb m f t va es vt acc W)(hk:Kp [] W W'):yC wT b12 b13 hG p mk ht tot N (i+1) xs bk bm tb m f t va es vt acc W':=
 ⟨J.kp.trans hk.any,J.st.ay hk,J.bm,J.bi.mono (by omega),by have:=J.tn;omega,aT J.oa hk,by have:=J.el;omega,aT J.ot hk,by have:=J.al;omega,J.sub,J.blk.ay hk⟩
theorem yC.did{wT:World}{b12 b13 hG:Nat}{p mk:Dg}{ht:Int}{tot:Int}{N i:Nat}{xs:List Tm}{bk bm tb:Nat}{m:Bk}{f:Fb}{t:Tl}{va:Value}{es:List Int}{vt:Value}{acc:List Tm}{W W':World}(J:yC wT b12 b13 hG p mk ht tot N i xs bk bm tb m f t va es vt acc W)(x:Tx){bk' bm' tb':Nat}{m':Bk}{va':Value}
  (hst:fu W' 116 [] b13 bk' bm' tb' m' (dot t f ht mk x) va') (hbi:jM tot (N+6*i+6) m' (oM f mk x)) (hoa:W'.ownsRow wT.heap.size 36 1 va' (mc es f mk x).length (bO tt (mc es f mk x))) (hk:Kp (b13::bm::aP va) W W') (hbm:bm'=bm∨W.heap.size≤bm'):yC wT b12 b13 hG p mk ht tot N (i+1) xs bk' bm' tb' m' (oM f mk x) (dot t f ht mk x) va' (mc es f mk x) vt acc W':=by
 have no:∀{T:TypeId},116≠T→36≠T→dX T 0 W (b13::bm::aP va):=fun h1 h2=>dX.cons (Nat.zero_le _) (dX.cells J.st.blk h1) (dX.cons (Nat.zero_le _) (J.st.book.map.BL _) (dX.own J.oa (Nat.zero_le _) h2))
 refine⟨J.kp.st hk (fun z hz=>?_),hst,?_,hbi.mono (by omega),by have:=J.tn;have:=Cy t f ht mk x;omega,hoa,by have:=J.el;have:=EU es f mk x;omega,bW J.ot hk (dN J.ot (no (by decide) (by decide))),by have:=J.al;omega,J.sub,J.blk.kp hk (fun hm=>(no (by decide) (by decide) b12 hm).2 _ _ J.blk)⟩
 ·rcases List.mem_cons.1 hz with rfl|hz
  ·exact Or.inl (by simp)
  rcases List.mem_cons.1 hz with rfl|hz
  ·exact J.bm.elim (fun e=>Or.inl (by simp[e])) Or.inr
  ·exact Or.inr (cp J.oa z (aH hz))
 ·rcases hbm with rfl|g
  ·exact J.bm
  ·exact Or.inr (Nat.le_trans J.kp.size g)
theorem yC.app{wT:World}{b12 b13 hG:Nat}{p mk:Dg}{ht:Int}{tot:Int}{N i:Nat}{xs:List Tm}{bk bm tb:Nat}{m:Bk}{f:Fb}{t:Tl}{va:Value}{es:List Int}{vt vt':Value}{acc acc':List Tm}{W W':World}(J:yC wT b12 b13 hG p mk ht tot N i xs bk bm tb m f t va es vt acc W)(hk:Kp (b12::aP vt) W W')
  (ho:W'.ownsRow wT.heap.size 52 13 vt' acc'.length (bO bV acc')) (hl:acc'.length≤i) (hs:∀x∈acc',x∈xs) (hB:aF W' b12 (.cells (oO p ht mk vt').toArray 50)):yC wT b12 b13 hG p mk ht tot N i xs bk bm tb m f t va es vt' acc' W':=by
 have no:∀{T:TypeId},50≠T→52≠T→dX T 0 W (b12::aP vt):=fun h1 h2=>dX.cons (Nat.zero_le _) (dX.cells J.blk h1) (dX.own J.ot (Nat.zero_le _) h2)
 have nb:∀{T:TypeId} {b:Nat} {cs:Array Value},50≠T→52≠T→aF W b (.cells cs T)→b∉b12::aP vt:=fun h1 h2 hb hm=>(no h1 h2 _ hm).2 _ _ hb
 refine⟨J.kp.st hk (fun z hz=>?_),⟨J.st.blk.kp hk (nb (by decide) (by decide) J.st.blk),⟨J.st.book.blk.kp hk (nb (by decide) (by decide) J.st.book.blk),J.st.book.map.kp hk (fun hm=>?_)⟩,J.st.app.kp hk (nb (by decide) (by decide) J.st.app)⟩,J.bm,J.bi,J.tn,bW J.oa hk (dN J.oa (no (by decide) (by decide))),J.el,ho,hl,hs,hB⟩
 ·rcases List.mem_cons.1 hz with rfl|hz
  ·exact Or.inl (by simp)
  ·exact Or.inr (cp J.ot z (aH hz))
 ·rcases List.mem_cons.1 hm with e|hm
  ·exact eB J.blk J.st.book.map e
  ·exact kF J.ot J.st.book.map _ (aH hm) (List.mem_singleton.2 rfl)
theorem yp(p mk:Dg)(h:Int)(v:Value):(oO p h mk v).toArray.toList=(dc p++(.int .i64 h::dc mk))++([v]++[]):=by simp[oO]
theorem uY(p mk:Dg)(h:Int)(v:Value):(dc p++(.int .i64 h::dc mk))++([v]++[])=oO p h mk v:=by simp[oO]
theorem yo(p mk:Dg)(h:Int):(dc p++(.int .i64 h::dc mk)).length=17:=by simp[ah]
attribute [local irreducible] CG NG SG aK aI Row aF aE aM aR fl oM dot mc fq kq jZ A1
theorem rm{w:World}{n:Nat}{A:List Nat}{tot:Int}{c:Cm}(h:cL w n A tot c)(ht:tot≤1000000000)(hI:dF 256 (c.ps.map Em.en))(p mk:Dg){q:Nat×Nm}(hp:aB c.ns p=some q)(hqh:0≤q.2.x.ht∧q.2.x.ht≤1000)(hqn:q.2.t.n≤100000){a0:Option Addr}{c0:Nat}{ls:List Dg}(hL:Sl dc 8 w a0 ls)(hll:ls.length≤10000000):
  Calls Tryz.prog 36 #[.pointer (some ⟨c.cb,0,none⟩),dv p,dv mk,.slice a0 ls.length c0] w (fun e w'=>∃y:Bm,e= .returned (.tuple #[iH y,.int .i64 0])∧y.b=⟨p,q.2.x.ht+1,mk,sB mk q.2.f [] (A1 (c.ps.map Em.en) ls)⟩∧y.In 0 w'∧(∀b off,y.a=some ⟨b,off,none⟩→w.heap.size≤b)∧Kp [] w w'):=by
 refine nV Tryz.func36 rfl Tryz.ntmps36 rfl ?_
 repeat apply aj
 refine SG.box rfl rfl rfl (ag rfl) (fun b5 w1 hk1 hb5 hB5=>?_)
 have hB5:aF w1 b5 (.cells (dc p).toArray 47):=hB5
 refine SG.box rfl rfl rfl (ag rfl) (fun b6 w2 hk2 hb6 hB6=>?_)
 have hB6:aF w2 b6 (.cells (dc mk).toArray 47):=hB6
 refine SG.alloc rfl rfl rfl (fun b8 w3 hk3 hb8 hB8=>?_)
 have k3:=(hk1.trans hk2).trans hk3
 have q5:Row w3 b5 0 (dc p):=Row.all ((hB5.ay hk2).ay hk3) rfl
 have h3:=h.ay k3
 obtain⟨-,-,-,-,-,-,r6⟩:=cM h3
 have hM:=h3.map
 repeat (first|apply aj|(apply ar;rfl;(first|apply iC|apply az|apply aD)<;>rfl))
 refine bG rfl ?_
 repeat apply aj
 refine CG.eQ mixed [0,1,2,3,4,5,6,7,8,9,10] [] (by kernel_rfl) ?_
 repeat (apply bZ;rfl;rfl;(first|apply az|apply aD|apply bf|apply bj|apply aW|apply bM|apply lL|apply dA)<;>first|rfl|assumption|exact List.not_mem_nil|apply ah|exact kX (by assumption)|fail)
 refine aI.fin (fun w4 hk4 _ _=>?_)
 repeat (first|apply aj|(apply ar;rfl;(first|apply az|apply fZ)<;>rfl))
 refine bG rfl ?_
 have k4:=k3.trans hk4
 have hN4:=(h.Ak hp).ay k4
 have q5:=q5.ay hk4
 have q6:Row w4 b6 0 (dc mk):=Row.all ((hB6.ay hk3).ay hk4) rfl
 obtain⟨-,-,-,t11,-⟩:=eY hN4.blk
 clear hM r6
 repeat apply aj
 refine CG.gZ mixed [0,1,2,3,4,5,6,7,8] [(9,10,12,.tmp 39)] (by kernel_rfl) (by kernel_rfl) ?_
 repeat (apply bZ;rfl;rfl;(first|apply az|apply bf|apply bj|apply aW|apply bM|apply dG)<;>first|rfl|(apply Ar.mk;omega)|assumption|exact List.not_mem_nil|apply ah)
 refine aI.val rfl rfl rfl (aG rfl (QO p mk (q.2.x.ht+1))) ?_
 refine aI.one (fC.of (by rfl) rfl rfl rfl (ag rfl) (by exact iz _ _ _ _) (by rfl) (by exact pf _ _ _ _ rfl)) (fun b12 w5 hk5 hb12 hB12=>?_)
 have hB12:aF w5 b12 (.cells (oO p (q.2.x.ht+1) mk (.slice none 0 0)).toArray 50):=hB12
 have k5:=k4.trans hk5
 have hN5:=(h.Ak hp).ay k5
 obtain⟨m,hm,hi⟩:=hN5.book
 obtain⟨t0,-⟩:=eY hN5.blk
 clear t11 q5 q6
 repeat (first|apply aj|(apply ar;rfl;(first|apply az|apply bj|apply aW|apply bM)<;>first|rfl|assumption|exact List.not_mem_nil))
 refine SG.call rfl rfl rfl (vs:=[DD q.2.bk q.2.tb (.slice q.2.ae q.2.es.length q.2.ce)]) (bz.of rfl) ((ri hm hN5.app).mono (fun e w6 hh=>?_))
 obtain⟨bk',bm',tb',m',rfl,hB',hpm,hT',g1,g2,g3,hk6⟩:=hh
 refine⟨_,rfl,?_⟩
 refine SG.alloc rfl rfl rfl (fun b13 w7 hk7 hb13 hB13=>?_)
 refine SG.aN (l:=rK bk' tb' (.slice none 0 0)) rfl rfl (ag rfl) (ag rfl) hB13 rfl rfl rfl (fun w8 hk8 hB13=>?_)
 have k78:=hk7.ai hk8 (aV hb13)
 have k8:=(k5.trans hk6).trans k78
 obtain⟨-,-,-,-,-,r5,-⟩:=cM (h.ay k8)
 clear t0
 repeat (first|apply aj|(apply ar;rfl;(first|apply az|apply bf|apply aW|apply bM)<;>first|rfl|assumption|exact List.not_mem_nil))
 refine SG.call rfl rfl rfl (vs:=[.pointer (some ⟨c.pb,0,none⟩),.int .i64 1024,.slice a0 ls.length c0]) (bz.of rfl) ((vU (h.ay k8).pool hI (by omega) (most:=1024) (by unfold yh;omega) (hL.ay k8) hll).mono (fun e wT hh=>?_))
 obtain⟨vx,xs,rfl,hkT,hX,hxe⟩:=hh
 obtain⟨ax,cx,rfl,hcx,hS⟩:=hX.sl
 refine⟨_,rfl,?_⟩
 clear r5
 have s1:=hk1.size
 have s2:=hk2.size
 have s4:=k4.size
 have s5:=hk5.size
 have s6:=hk6.size
 have s78:=k78.size
 have sT:=hkT.size
 have l12:=hB12.lt
 have l6:=hB6.lt
 have l8:=hB8.lt
 have s3:=hk3.size
 have s44:=hk4.size
 have lm:=hB'.map.lt
 have l13:=hB13.lt
 have hBT:bS wT bk' bm' m':=(hB'.ay k78).ay hkT
 have hTT:=(hT'.ay k78).ay hkT
 have h13T:=hB13.ay hkT
 have h12T:=((hB12.ay hk6).ay k78).ay hkT
 have kT:=k8.trans hkT
 have hxl:xs.length≤256:=by
  have e1:=congrArg List.length hxe
  have e2:=hI.len
  rw[List.length_map,List.length_map,List.length_take] at e1
  have e3:=List.length_filter_le (fun e=> !tw (jY (c.ps.map Em.en) ls) e) (jZ (c.ps.map Em.en))
  rw[oE] at e3
  omega
 have hxe:xs.map (·.t)=A1 (c.ps.map Em.en) ls:=hxe.trans (F4 _ _)
 have hO:dh 0 wT [b13,bm',b12]:=dh.cons (Nat.zero_le _) (dh.cells h13T (by decide)) (dh.cons (Nat.zero_le _) (hBT.map.Er (Nat.zero_le _) bm' (List.mem_singleton.2 rfl)).2 (dh.cons (Nat.zero_le _) (dh.cells h12T (by decide)) dh.nil))
 have hax:∀b off,ax=some ⟨b,off,none⟩→b∉[b13,bm',b12]:=fun b off e hm=>by
  have:=fN hX.own b off e
  simp only[List.mem_cons,List.mem_nil_iff,or_false] at hm
  omega
 have n6:b6∉[b13,bm',b12]:=fun hm=>by
  simp only[List.mem_cons,List.mem_nil_iff,or_false] at hm
  omega
 have n8:b8∉[b13,bm',b12]:=fun hm=>by
  simp only[List.mem_cons,List.mem_nil_iff,or_false] at hm
  omega
 have hB6T:aF wT b6 (.cells (dc mk).toArray 47):=((((hB6.ay hk3).ay hk4).ay hk5).ay hk6).ay (k78.trans hkT)
 have hB8T:=(((hB8.ay hk4).ay hk5).ay hk6).ay (k78.trans hkT)
 have hNT:=(h.Ak hp).ay kT
 have hb0:jM tot (xV q.2) m' q.2.f:=hi.perm hpm
 have hN0:xV q.2≤500000:=by unfold xV;omega
 have J0:yC wT b12 b13 bm' p mk (q.2.x.ht+1) tot (xV q.2+100000) 0 xs bk' bm' tb' m' q.2.f q.2.t (.slice none 0 0) [] (.slice none 0 0) [] wT:=
  ⟨Kp.refl _ _,⟨h13T,hBT,hTT⟩,Or.inl rfl,hb0.mono (by omega),by omega,dR,Nat.zero_le _,dR,Nat.zero_le _,fun _ h=>(by cases h),h12T⟩
 have hlp:=k8.size
 generalize hN:xV q.2+100000=N at*
 have hN1:N≤600000:=by omega
 have hXin:=hX.ins
 clear hB' hT' hB13 hB12 hB6 hB8
 repeat (first|apply aj|(apply ar;rfl;(first|apply az|apply dy)<;>rfl))
 refine CG.loop (X:=Nat×(Nat×Nat×Nat×Bk)×(Fb×Tl×List Int)×(Value×Value)×List Tm) (fun z=>[(6,.pointer (some ⟨b6,0,none⟩)),(8,.pointer (some ⟨b8,0,none⟩)),(12,.pointer (some ⟨b12,0,none⟩)),(13,.pointer (some ⟨b13,0,none⟩)),(50,.slice ax xs.length cx),(51,.int .i64 (xs.length:Int)),(52,.int .i64 (z.1:Int))])
  (fun z W=>z.1≤xs.length∧yC wT b12 b13 bm' p mk (q.2.x.ht+1) tot N z.1 xs z.2.1.1 z.2.1.2.1 z.2.1.2.2.1 z.2.1.2.2.2 z.2.2.1.1 z.2.2.1.2.1 z.2.2.2.1.1 z.2.2.1.2.2 z.2.2.2.1.2 z.2.2.2.2 W∧sB mk q.2.f [] (xs.map (·.t))=sB mk z.2.2.1.1 (z.2.2.2.2.map (·.t)) ((xs.drop z.1).map (·.t)))
  (fun z=>xs.length-z.1) (0,(bk',bm',tb',m'),(q.2.f,q.2.t,[]),(.slice none 0 0,.slice none 0 0),[]) ⟨Nat.zero_le _,J0,rfl⟩ (aS.of rfl) ?_
 rintro⟨i,⟨bk,bm,tb,mm⟩,⟨f,t,es⟩,⟨va,vt⟩,acc⟩ W ⟨hi,J,hmk⟩
 simp only at hi J hmk
 refine CG.to [(6,.pointer (some ⟨b6,0,none⟩)),(8,.pointer (some ⟨b8,0,none⟩)),(12,.pointer (some ⟨b12,0,none⟩)),(13,.pointer (some ⟨b13,0,none⟩)),(50,.slice ax xs.length cx),(51,.int .i64 (xs.length:Int)),(52,.int .i64 (i:Int))] (aS.of rfl) ?_
 have sW:=J.kp.size
 have hSW:Sl bV 13 W ax xs:=hS.kp J.kp hax
 have hXW:∀x∈xs,x.In 0 W:=fun x hx=>(hXin x hx).gd J.kp hO
 have hB6W:aF W b6 (.cells (dc mk).toArray 47):=hB6T.kp J.kp n6
 have hB8W:=hB8T.kp J.kp n8
 obtain⟨at_,ct_,rfl⟩:=gF J.ot
 obtain⟨u0,u8,u17⟩:=mZ J.blk
 have hal:=J.al
 have hend:∀{W':World} (hk':Kp [] W W') (hac:acc.map (·.t)=sB mk q.2.f [] (A1 (c.ps.map Em.en) ls)) {W2:World} (hk2:Kp [b8] W' W2),∃y:Bm,(Ending.returned (.tuple #[.agg (oO p (q.2.x.ht+1) mk (.slice at_ acc.length ct_)).toArray,.int .i64 0]):Ending)= .returned (.tuple #[iH y,.int .i64 0])∧y.b=⟨p,q.2.x.ht+1,mk,sB mk q.2.f [] (A1 (c.ps.map Em.en) ls)⟩∧y.In 0 W2∧(∀b off,y.a=some ⟨b,off,none⟩→w.heap.size≤b)∧Kp [] w W2:=by
  intro W' hk' hac W2 hk2
  have hB8':=hB8W.ay hk'
  have hO2:dh 0 W' [b8]:=qG hB8' (by decide)
  have hI':l4 W' 0 at_ acc:=⟨(Sl.own au (aT J.ot hk') rfl).elim (fun a=>by
   rintro⟨c,e,-,hs⟩
   cases e
   exact hs),Or.inl (Ty.own (aT J.ot hk')),fun x hx=>(hXW x (J.sub x hx)).ay hk'⟩
  refine⟨⟨p,q.2.x.ht+1,mk,at_,ct_,acc⟩,rfl,by rw[←hac];rfl,⟨hI'.kp hk2 hO2 (dX.cons (Nat.zero_le _) (dX.cells hB8' (by decide)) dX.nil),by show acc.length≤_;omega⟩,fun b off e=>?_,?_⟩
  ·have:=fN J.ot b off e
   omega
  ·refine((kT.ai J.kp (fun z hz=>?_)).trans hk').ai hk2 (aV (by omega))
   simp only[List.mem_cons,List.mem_nil_iff,or_false] at hz
   exact Or.inr (by omega)
 by_cases hlt:i<xs.length
 rotate_left
 ·have g1:¬(i:Int)<(xs.length:Int):=by omega
  have hac:acc.map (·.t)=sB mk q.2.f [] (A1 (c.ps.map Em.en) ls):=by
   rw[←hxe,hmk,List.drop_eq_nil_of_le (by omega)]
   rfl
  repeat (first|apply aj|(apply ar;rfl;apply cG<;>first|rfl|(apply bN;first|assumption|omega)))
  refine bG rfl ?_
  repeat (first|apply aj|(apply ar;rfl;apply bj<;>first|rfl|assumption|exact List.not_mem_nil|apply iz))
  refine SG.aN (l:=oO p (q.2.x.ht+1) mk (.slice at_ acc.length ct_)) rfl rfl (ag rfl) (ag rfl) hB8W (iz _ _ _ _) rfl (pf _ _ _ _ rfl) (fun W2 hk2 hB82=>?_)
  have hr:Row W2 b8 0 (oO p (q.2.x.ht+1) mk (.slice at_ acc.length ct_)):=Row.all hB82 rfl
  repeat (first|apply aj|(apply ar;rfl;apply aD<;>rfl))
  refine dJ (Or.inl rfl) Tryz.results36 (aC.agg rfl rfl hr (iz _ _ _ _)) (aC.tmp rfl) ?_
  exact hend (Kp.refl _ _) hac hk2
 have g1:(i:Int)<(xs.length:Int):=by omega
 obtain⟨ba,off,rfl,hrow⟩:=hSW.at hlt
 rw[List.drop_eq_getElem_cons hlt,List.map_cons] at hmk
 repeat (first|apply aj|(apply ar;rfl;apply cG<;>first|rfl|(apply bK;first|assumption|omega)))
 refine bL rfl ?_
 repeat (first|apply aj|(apply ar;rfl;(first|apply bj|apply fv)<;>first|rfl|(apply Ar.mk;omega)|assumption|exact List.not_mem_nil|apply au))
 refine SG.alloc rfl rfl rfl (fun b15 W1 hk1' hb15 hB15=>?_)
 refine SG.aN (l:=bV xs[i]) rfl rfl (ag rfl) (ag rfl) hB15 (au _) rfl (cC _) (fun W2 hk2' hB15=>?_)
 have kW2:=hk1'.ai hk2' (aV hb15)
 have u17:=u17.ay kW2
 clear hrow
 by_cases hfull:64≤acc.length
 ·have g2:(64:Int)≤(acc.length:Int):=by omega
  have hac:acc.map (·.t)=sB mk q.2.f [] (A1 (c.ps.map Em.en) ls):=by
   rw[←hxe,hmk,BU (by rw[List.length_map];exact hfull)]
  have u0:=u0.ay kW2
  clear u8
  repeat (first|apply aj|(apply ar;rfl;(first|apply bf|apply aW|apply dy|apply jN)<;>first|rfl|assumption|(apply bK;first|assumption|omega)|exact List.not_mem_nil))
  refine bL rfl ?_
  clear u17
  repeat (first|apply aj|refine NG.pW rfl ?_|(apply ar;rfl;apply bj<;>first|rfl|assumption|exact List.not_mem_nil|apply iz))
  refine SG.aN (l:=oO p (q.2.x.ht+1) mk (.slice at_ acc.length ct_)) rfl rfl (ag rfl) (ag rfl) (hB8W.ay kW2) (iz _ _ _ _) rfl (pf _ _ _ _ rfl) (fun W3 hk3' hB82=>?_)
  have hr:Row W3 b8 0 (oO p (q.2.x.ht+1) mk (.slice at_ acc.length ct_)):=Row.all hB82 rfl
  repeat (first|apply aj|(apply ar;rfl;apply aD<;>rfl))
  refine dJ (Or.inl rfl) Tryz.results36 (aC.agg rfl rfl hr (iz _ _ _ _)) (aC.tmp rfl) ?_
  exact hend kW2 hac hk3'
 have g2:¬(64:Int)≤(acc.length:Int):=by omega
 have hfull':¬64≤(acc.map (·.t)).length:=by rw[List.length_map];exact hfull
 repeat (first|apply aj|(apply ar;rfl;(first|apply bf|apply aW|apply dy|apply jN)<;>first|rfl|assumption|(apply bN;first|assumption|omega)|exact List.not_mem_nil))
 refine bG rfl ?_
 have q15:Row W2 b15 0 (bV xs[i]):=Row.all hB15 rfl
 have hst2:=J.st.ay kW2
 repeat (first|apply aj|(apply ar;rfl;apply bj<;>first|rfl|assumption|exact List.not_mem_nil|apply au))
 refine SG.ret rfl rfl rfl (vs:=[.pointer (some ⟨b13,0,none⟩),eR xs[i]]) (bz.of rfl) (xo hst2.blk hst2.book xs[i]) (fun W3 hk3'=>?_)
 have kW3:=kW2.trans hk3'
 rw[Ha,J.bi.eq]
 clear u17 u0
 cases hbr:kq f xs[i].t with
 |false=>
  clear u8 q15
  repeat (first|apply aj|(apply ar;rfl;(first|apply az|apply cu)<;>rfl)|refine SG.skip rfl rfl ?_)
  refine bG rfl ?_
  repeat (first|apply aj|(apply ar;rfl;(first|apply az|apply dG)<;>first|rfl|(apply Ar.mk;omega)))
  refine NG.round (i+1,(bk,bm,tb,mm),(f,t,es),(va,.slice at_ acc.length ct_),acc) (aS.of rfl) ⟨hlt,?_,?_⟩ (by simp only;omega)
  ·exact J.next kW3
  ·rw[hmk,Gt hfull' hbr]
 |true=>
  have u8:=u8.ay kW3
  have q15:=q15.ay hk3'
  have q6:Row W3 b6 0 (dc mk):=Row.all (hB6W.ay kW3) rfl
  have hst3:=J.st.ay kW3
  repeat (apply ar;rfl;(first|apply az|apply bf|apply bj|apply aW)<;>first|rfl|assumption|exact List.not_mem_nil|apply ah|apply au)
  refine SG.call rfl rfl rfl (vs:=[.pointer (some ⟨b13,0,none⟩),.int .i64 (q.2.x.ht+1),dv mk,eR xs[i]]) (bz.of rfl) ((yl (n0:=0) hst3 J.bi ht (aT J.oa kW3) (Nat.le_trans sW kW3.size) (Nat.zero_le _) (by have:=J.el;omega) (by decide) (by decide) (by decide) ((hXW _ (List.getElem_mem hlt)).ay kW3) (q.2.x.ht+1) mk (by have:=J.tn;omega)).mono (fun e W4 hh=>?_))
  obtain⟨bk2,bm2,tb2,va2,m2,rfl,hst4,hbi4,hoa4,hk4',hbm4,hva4⟩:=hh
  refine⟨_,rfl,?_⟩
  have J3:=J.ay kW3
  have J4:=J3.did xs[i].t hst4 hbi4 hoa4 hk4' hbm4
  clear u8 q15 q6
  by_cases hz:fq f xs[i].t=0
  rotate_left
  ·repeat (first|apply aj|(apply ar;rfl;(first|apply cu|apply fF)<;>first|rfl|(apply bN;first|assumption|omega)))
   refine bG rfl ?_
   repeat (first|apply aj|(apply ar;rfl;(first|apply az|apply dG)<;>first|rfl|(apply Ar.mk;omega)))
   refine NG.round (i+1,(bk2,bm2,tb2,m2),(oM f mk xs[i].t,dot t f (q.2.x.ht+1) mk xs[i].t,mc es f mk xs[i].t),(va2,.slice at_ acc.length ct_),acc) (aS.of rfl) ⟨hlt,J4,?_⟩ (by simp only;omega)
   rw[hmk,o7 hfull' hbr,if_neg hz]
  ·rw[hz]
   have hB15:aF W4 b15 (.cells (bV xs[i]).toArray 52):=(hB15.ay hk3').kp hk4' (fun hm=>by
    rcases List.mem_cons.1 hm with e|hm
    ·omega
    rcases List.mem_cons.1 hm with e|hm
    ·have:=hst3.book.map.lt;have:=J.st.book.map.lt;omega
    ·have:=cD J.oa b15 (aH hm);omega)
   have q15:Row W4 b15 0 (bV xs[i]):=Row.all hB15 rfl
   obtain⟨-,-,u17⟩:=mZ J4.blk
   repeat (first|apply aj|(apply ar;rfl;(first|apply cu|apply fF)<;>first|rfl|(apply bK;first|assumption|omega)))
   refine bL rfl ?_
   repeat (first|apply aj|(apply ar;rfl;(first|apply bf|apply bj|apply aW)<;>first|rfl|assumption|exact List.not_mem_nil|apply au))
   refine SG.buildSlice rfl rfl rfl rfl (zU _) (fun b18 W5 hk5' hb18 hB18=>?_)
   have ho5:=aT J4.ot hk5'
   have sT4:=J4.kp.size
   have s5':=hk5'.size
   clear q15 u17
   refine SG.kr (enc:=bV) (xs:=acc) (ys:=[xs[i]]) (base:=wT.heap.size) rfl rfl rfl (ag rfl) (ag rfl) rfl rfl rfl rfl au cC ho5 (iA (enc:=bV) (sz:=13) (x:=xs[i]) au hB18) (by simp only[maxLen,List.length_singleton];omega) (by show(acc.length+1)*80≤_;omega) (by omega) (fun v6 W6 hk6' ho6 hv6=>?_)
   obtain⟨a6,c6,rfl⟩:=gF ho6
   have hB12:=(J4.blk.ay hk5').kp hk6' (fun hm=>by have:=cp ho5 b12 (aH hm);omega)
   repeat (apply ar;rfl;apply aW<;>rfl)
   refine SG.cr (dc p++(.int .i64 (q.2.x.ht+1)::dc mk)) [.slice at_ acc.length ct_] [] rfl rfl (ag rfl) (ag rfl) hB12 (yp _ _ _ _) rfl rfl (yo _ _ _) rfl (fun W7 hk7' hB7=>?_)
   have hB7:aF W7 b12 (.cells (oO p (q.2.x.ht+1) mk (.slice a6 (acc++[xs[i]]).length c6)).toArray 50):=by
    have e:=uY p mk (q.2.x.ht+1) (.slice a6 (acc++[xs[i]]).length c6)
    rw[←e]
    exact hB7
   have hl1:(acc++[xs[i]]).length=acc.length+1:=by rw[List.length_append];rfl
   have J7:=(J4.ay hk5').app (vt':= .slice a6 (acc++[xs[i]]).length c6) (acc':=acc++[xs[i]]) ((hk6'.mono (fun z hz=>List.mem_cons_of_mem _ hz)).trans (hk7'.mono (fun z hz=>by rw[List.mem_singleton] at hz;rw[hz];exact List.mem_cons_self))) (bW ho6 hk7' (cK ho6 (by decide) hB12)) (by rw[hl1];omega) (fun x hx=>(List.mem_append.1 hx).elim (J.sub x) (fun e=>by rw[List.mem_singleton] at e;rw[e];exact List.getElem_mem hlt)) hB7
   repeat (first|apply aj|(apply ar;rfl;(first|apply az|apply dG)<;>first|rfl|(apply Ar.mk;omega)))
   refine NG.round (i+1,(bk2,bm2,tb2,m2),(oM f mk xs[i].t,dot t f (q.2.x.ht+1) mk xs[i].t,mc es f mk xs[i].t),(va2,.slice a6 (acc++[xs[i]]).length c6),acc++[xs[i]]) (aS.of rfl) ⟨hlt,J7,?_⟩ (by simp only;omega)
   rw[hmk,o7 hfull' hbr,if_pos hz,List.map_append]
   rfl
end
section
def Wf(F:Fence):Prop:=F=Fence.wide∨∃l,F=Fence.wide.inRound l
theorem Wf.wide:Wf Fence.wide:=Or.inl rfl
theorem Wf.round(l:Nat):Wf (Fence.wide.inRound l):=Or.inr ⟨l,rfl⟩
theorem Wf.fn{F:Fence}(h:Wf F)(f:FuncId):F.fn f:=by
 rcases h with rfl|⟨l,rfl⟩<;>exact trivial
theorem Wf.depth{F:Fence}(h:Wf F):¬F.depth.isSome=true:=by
 rcases h with rfl|⟨l,rfl⟩<;>exact fun h=>by cases h
theorem Wf.calls{F:Fence}(h:Wf F){n:Nat}{P:Program}{f:FuncId}{args:Array Value}{w:World}{R:Ending→World→Prop}(hc:Calls P f args w R):CallsIn F n P f args w R:=by
 rcases h with rfl|⟨l,rfl⟩
 ·exact callsIn_wide.2 hc
 ·exact(callsIn_wide (n:=n)).2 hc
theorem Wf.rows{F:Fence}(h:Wf F){n:Nat}{P:Program}{row:String}{args:Array Value}{w:World}{R:Value→World→Prop}(hc:Rows P row args w R):RowsIn F n P row args w R:=by
 have h1:RowsIn Fence.wide n P row args w R:=fun c cs _=>by
  obtain⟨v,w',r,s⟩:=hc c cs
  exact⟨v,w',r,stepsIn_wide.2 s⟩
 rcases h with rfl|⟨l,rfl⟩<;>exact h1
def gn:Op→Bool
 | .defer .. =>true
 |_=>false
theorem kG{o:Op}(h:gn o=false):∀c,o≠.defer c:=fun c e=>by
 rw[e] at h
 cases h
section
variable {P:Program} {n:Nat} {Q:Exit→Act→World→Prop} {L:Env} {w:World}
theorem qK{F:Fence}{m:Nat}(hF:Wf F)(hQ:¬LetsOut Q){ops:Array Oper}:∀{rest:List Oper} {a:Act} {w:World},rest.all (fun o=> !gn o.op)=true→wpList P ops Q rest a w→wpListIn F m P ops Q rest a w
 |[],a,w,_,h=>h
 |o::rest,a,w,hd,h=>by
  simp only[List.all_cons,Bool.and_eq_true,Bool.not_eq_true'] at hd
  obtain⟨hd1,hd2⟩:=hd
  have ih:∀{a:Act} {w:World},wpList P ops Q rest a w→wpListIn F m P ops Q rest a w:=fun h=>qK hF hQ hd2 h
  simp only[wpList] at h
  simp only[wpListIn]
  split
  ·rename_i hw
   rw[if_pos hw] at h
   rcases h with h|h
   ·refine⟨fun f _=>hF.fn f,?_⟩
    rw[Oper.semAt_eq _ _ _ (kG hd1)]
    unfold Oper.wp at h
    generalize (execOp a.eval o).run P w=r at*
    cases r with
    |ok x w'=>
     cases x<;>simp only[Oper.upon,Oper.uponIn] at h⊢<;>try exact h.elim
     case value v=>exact ih h
     case skip=>exact ih h
     case defer d=>exact ih h
     case enter f args=>exact⟨fun hh=>absurd hh hF.depth,hF.calls (Calls.mono h (fun e w'' hh=>by cases e<;>first|exact ih hh|exact hh))⟩
     case row row args=>exact⟨fun hh=>absurd hh hF.depth,hF.rows (Rows.mono h (fun v w'' hh=>ih hh))⟩
    |halt x w'=>cases x<;>exact h
   ·exact absurd h.2 hQ
  ·rename_i hw
   rw[if_neg hw] at h
   exact⟨fun f _=>hF.fn f,ih h⟩
def SY(P:Program)(n:Nat)(ops:List Oper)(Q:Exit→Act→World→Prop)(rest:List Oper)(L:Env)(w:World):Prop:=∀a,Fits n a L→wpListIn Fence.wide 0 P ops.toArray Q rest a w
theorem CG.D4{id:Nat}{ops:List Oper}(h:SY P n ops Q ops L w):CG P n (.region id ops.toArray false) Q L w:=fun a ha=>wpIn_wide.1 (wpIn_region_lit (h a ha))
theorem SY.nil{ops:List Oper}(h:NG n .normal Q L w):SY P n ops Q [] L w:=fun a ha=>h a ha
theorem SY.op{ops:List Oper}{o:Oper}{rest:List Oper}{R:Value→World→Prop}(hd:o.dst.all (fun d=>Nat.blt d n)=true)(hw:want ops L o=some true)(hk:o.op.operands.toList.all (known L)=true)
  (hr:∀a:Act,(∀x∈o.op.operands,bB L x=a.eval x)→∀K:Act→World→Prop,(∀v w',R v w'→K (a.put o.dst v) w')→o.wpIn Fence.wide 0 P a w K Q)
  (hn:∀v w',R v w'→SY P n ops Q rest (fY o.dst v L) w'):SY P n ops Q (o::rest) L w:=by
 intro a ha
 have hlk:∀t∈ur ops o,∀v,look L t=some v→a.tmps[t]?=some v:=fun t _ v hv=>ha.slot t v hv
 have hwn:=cZ hlk hw
 simp only[wpListIn]
 rw[if_pos hwn]
 refine hr a (fx hlk hk) _ (fun v w' hR=>hn v w' hR _ ?_)
 cases hdd:o.dst with
 |none=>exact ha
 |some d=>
  rw[hdd] at hd
  exact ha.put d v (by simpa[Nat.blt_eq] using hd)
theorem SY.val{ops:List Oper}{rest:List Oper}{d:Nat}{op:Op}{ty:TypeId}{pos:String}{af:Array Edge}{g:Option (Nat×Bool)}{v:Value}
  (hd:Nat.blt d n=true) (hs:eJ op=false) (hdf:gn op=false) (hw:want ops L ⟨some d,op,ty,pos,af,g⟩=some true) (hk:op.operands.toList.all (known L)=true) (hv:aK P [] w (fun _=>True) L ⟨some d,op,ty,pos,af,g⟩ v)
  (hr:SY P n ops Q rest ((d,v)::L) w):SY P n ops Q (⟨some d,op,ty,pos,af,g⟩::rest) L w:=by
 refine SY.op (R:=fun v' w'=>v'=v∧w'=w) (by simpa using hd) hw hk (fun a he K hK=>?_) (fun v' w' h=>by obtain⟨rfl,rfl⟩:=h;exact hr)
 refine⟨fun f _=>trivial,?_⟩
 rw[Oper.semAt_eq _ _ _ (kG hdf),←execOp_congr ⟨some d,op,ty,pos,af,g⟩ (fun cs b e=>by simp only at e;rw[e] at hs;cases hs) he,hv w (Kp.refl _ _) trivial]
 exact hK _ _ ⟨rfl,rfl⟩
end
end
open Go.RowKit
section
section
variable {P:Program} {n:Nat} {Q:Exit→Act→World→Prop} {L:Env} {w:World}
theorem GL{f:FuncId}{fn:Func}{c:Code}{args:List Value}{R:Ending→World→Prop}(hf:P.funcs[f]?=some fn)(hb:fn.body=some c)(hn:fn.ntmps=n)(hm:Nat.ble args.length n=true)
  (h:CG P n c (bodyPostM Fence.wide 0 P fn R) (l0 0 args) w):Calls P f args.toArray w R:=by
 refine callsIn_wide.1 (callsIn_of_wp_marks (n:=0) hf hb trivial (wpIn_wide.2 (h _ ⟨fun t v hv=>?_,?_,rfl⟩)))
 ·have:=(j5 args 0 t v hv).2
  have hlt:t<args.toArray.size:=by
   have h2:=(List.getElem?_eq_some_iff.1 this).1
   simpa using h2
  simp only[Array.getElem?_append_left hlt]
  simpa using this
 ·have:=hm
  rw[Nat.ble_eq] at this
  simp[hn]
  omega
def nK(a:Act)(fn:FuncId)(ps:Array Tmp)(assign body:Code)(D:Nat)(st:LoopState)(pe:Option Code):Loop:={state:=st,pending:=pe,fn:=fn,tmps:=a.tmps,params:=ps,assign:=assign,body:=body,defers:=D}
theorem CG.rangeFunc{g:Operand}{ps:Array Tmp}{assign body:Code}{gf:FuncId}[F:bQ P gf]{lb:Array Value}(hk:known L g=true)(hg:bB L g= .func (.func gf) #[] lb)
  (h:∀a,Fits n a L→∀(fn:FuncId) (rc:LoopState→Loop) (W1:World),rc=(fun st=>nK a fn ps assign body w.heap.size st none)→Kp [] w W1→W1.heap.size=w.heap.size+2→aF W1 w.heap.size (.deferred (some []))→aF W1 (w.heap.size+1) (.loop (rc .ready))→
   Calls P gf (#[.func (.yield (w.heap.size+1)) #[] #[]]++lb) W1 (fun e w3=>(∃v,e= .returned v)∧aF w3 (w.heap.size+1) (.loop (rc .ready))∧
    Q .normal {a with defers:=[{target:= .collected w.heap.size,args:= #[]}]} (w3.putObj (w.heap.size+1) (.loop (rc .exhausted))))):CG P n (.rangeFunc g ps assign body) Q L w:=by
 intro a ha
 refine(wpIn_wide (n:=0)).1 (wpIn_rangeFunc (fun fn hfn=>?_))
 have hev:a.eval g= .func (.func gf) #[] lb:=by rw[ha.eval hk,hg]
 obtain⟨W1,hW1⟩:∃W1,(w.alloc (.deferred (some []))).alloc (.loop (nK a fn ps assign body w.heap.size .ready none))=W1:=⟨_,rfl⟩
 have hk1:Kp [] w W1:=by
  rw[←hW1]
  exact(Kp.push w (.deferred (some [])) rfl).trans (Kp.push (w.alloc (.deferred (some []))) (.loop (nK a fn ps assign body w.heap.size .ready none)) rfl)
 have hs1:W1.heap.size=w.heap.size+2:=by rw[←hW1];simp
 have hD1:aF W1 w.heap.size (.deferred (some [])):=by
  rw[←hW1]
  exact(Below.heap_alloc _ _ _ (by simp)).trans (World.alloc_heap_new w _)
 have hL1:aF W1 (w.heap.size+1) (.loop (nK a fn ps assign body w.heap.size .ready none)):=by
  rw[←hW1]
  have:=World.alloc_heap_new (w.alloc (.deferred (some []))) (.loop (nK a fn ps assign body w.heap.size .ready none))
  rwa [World.size_alloc] at this
 refine⟨w.heap.size+1,[{target:= .collected w.heap.size,args:= #[]}],W1,{target:= .fn (.func gf) lb,args:= #[.func (.yield (w.heap.size+1)) #[] #[]]},W1,gf,#[.func (.yield (w.heap.size+1)) #[] #[]]++lb,W1,?_,?_,fun f' hf'=>trivial,?_,fun hh=>absurd hh Wf.wide.depth,?_⟩
 ·rw[←hW1]
  exact run_enterLoop_outer _ _ _ _ _
 ·simp only[resolve,hev]
  simp[go_sem]
 ·simp[invoke,go_sem,F.run]
 ·have h0:a.defers=[]:=ha.defers
  rw[h0]
  refine callsIn_wide.2 ((h a ha fn _ W1 rfl hk1 hs1 hD1 hL1).mono (fun e w3 hh=>?_))
  obtain⟨⟨v,rfl⟩,hL3,hQ⟩:=hh
  exact⟨none,_,run_endLoop (P:=P) hL3 (by simp[nK]),hQ⟩
theorem NG.xC{K:Act→World→Prop}(h:∀a,Fits n a L→K a w):NG n .normal (Exit.then K Q) L w:=fun a ha=>h a ha
structure nr(n:Nat)(ds:List Deferred)(a:Act)(L:Env):Prop where
 fit:Fits n {a with defers:=[]} L
 defers:a.defers=ds
theorem nr.mark{a:Act}{ds:List Deferred}(h:Fits n a L):nr n ds {a with defers:=ds} L:=⟨⟨h.slot,h.size,rfl⟩,rfl⟩
def CD(P:Program)(n:Nat)(ds:List Deferred)(c:Code)(Q:Exit→Act→World→Prop)(L:Env)(w:World):Prop:=∀a,nr n ds a L→c.wp P Q a w
def SD(P:Program)(n:Nat)(ds:List Deferred)(ops:List Oper)(Q:Exit→Act→World→Prop)(rest:List Oper)(L:Env)(w:World):Prop:=∀a,nr n ds a L→wpList P ops.toArray Q rest a w
end
end
open Go.RowKit
section
section
variable {P:Program} {n:Nat} {Q:Exit→Act→World→Prop} {L:Env} {w:World}
theorem HB{F:Fence}{m:Nat}(hF:Wf F){o:Oper}(hd:gn o.op=false){a:Act}{w:World}{K:Act→World→Prop}(h:o.wp P a w K Q):o.wpIn F m P a w K Q:=by
 refine⟨fun f _=>hF.fn f,?_⟩
 rw[Oper.semAt_eq _ _ _ (kG hd)]
 unfold Oper.wp at h
 generalize (execOp a.eval o).run P w=r at*
 cases r with
 |ok x w'=>
  cases x<;>simp only[Oper.upon,Oper.uponIn] at h⊢<;>try exact h.elim
  case value v=>exact h
  case skip=>exact h
  case defer d=>exact h
  case enter f args=>exact⟨fun hh=>absurd hh hF.depth,hF.calls h⟩
  case row row args=>exact⟨fun hh=>absurd hh hF.depth,hF.rows h⟩
 |halt x w'=>cases x<;>exact h
theorem tE{F:Fence}{m:Nat}(hF:Wf F)(hQ:¬LetsOut Q){md:Region.Mode}{ops:Array Oper}(hd:∀(i:Nat) (o:Oper),ops[i]?=some o→gn o.op=false):∀(fuel:Nat) (listed:Array Bool) (a:Act) (w:World),wpAny P md ops Q fuel listed a w→wpAnyIn F m P md ops Q fuel listed a w
 |0,_,_,_,h=>h
 |fuel+1,listed,a,w,h=>⟨h.1,fun i hi=>by
  have h1:=wpOp_mono (K':=wpAnyIn F m P md ops Q fuel (listed.setIfInBounds i true)) (fun a w=>tE hF hQ hd fuel (listed.setIfInBounds i true) a w) (h.2 i hi)
  unfold wpOp at h1
  unfold wpOpIn
  cases ho:ops[i]? with
  |none=>rw[ho] at h1;exact h1
  |some o=>
   rw[ho] at h1
   simp only at h1⊢
   split
   ·rename_i hw
    rw[if_pos hw] at h1
    rcases h1 with h1|h1
    ·exact HB hF (hd i o ho) h1
    ·exact absurd h1.2 hQ
   ·rename_i hw
    rw[if_neg hw] at h1
    exact⟨fun f _=>hF.fn f,h1⟩⟩
def kY(ds:List Deferred)(a:Act):Act:={a with defers:=a.defers++ds}
theorem DK{o:Oper}{ds:List Deferred}{a:Act}{w:World}{K:Act→World→Prop}(h:o.wp P a w (fun a' w'=>K (kY ds a') w') (fun e a' w'=>Q e (kY ds a') w')):o.wp P (kY ds a) w K Q:=by
 have he:(Act.eval (kY ds a))=Act.eval a:=rfl
 have hl:LetsOut (fun e a' w'=>Q e (kY ds a') w')→LetsOut Q:=fun⟨a,w,h⟩=>⟨_,_,h⟩
 have hp:∀{a:Act} {d:Option Nat} {v:Value},kY ds (a.put d v)=(kY ds a).put d v:=fun{a d v}=>by cases d<;>rfl
 unfold Oper.wp at*
 rw[he]
 generalize (execOp a.eval o).run P w=r at*
 cases r with
 |ok x w'=>
  cases x<;>simp only[Oper.upon,hp] at h⊢<;>try exact h.elim
  case value v=>exact h
  case skip=>exact h
  case defer d=>exact h
  case enter f args=>exact Calls.mono h (fun e w'' hh=>by cases e<;>first|exact hh|exact hl hh)
  case row row args=>exact Rows.mono h (fun v w'' hh=>hh)
 |halt x w'=>cases x<;>exact h
theorem tF{ds:List Deferred}{md:Region.Mode}{ops:Array Oper}:∀(fuel:Nat) (listed:Array Bool) (a:Act) (w:World),wpAny P md ops (fun e a' w'=>Q e (kY ds a') w') fuel listed a w→wpAny P md ops Q fuel listed (kY ds a) w
 |0,_,_,_,h=>h
 |fuel+1,listed,a,w,h=>⟨h.1,fun i hi=>by
  have h1:=wpOp_mono (K':=fun a w=>wpAny P md ops Q fuel (listed.setIfInBounds i true) (kY ds a) w) (fun a w=>tF fuel (listed.setIfInBounds i true) a w) (h.2 i hi)
  have hp:∀{a:Act} {d:Option Nat} {v:Value},kY ds (a.put d v)=(kY ds a).put d v:=fun{a d v}=>by cases d<;>rfl
  unfold wpOp at h1⊢
  cases ho:ops[i]? with
  |none=>rw[ho] at h1;exact h1
  |some o=>
   rw[ho] at h1
   simp only at h1⊢
   show(if Region.wanted o (yielded ops a.tmps) then _ else _)
   split
   ·rename_i hw
    rw[if_pos hw] at h1
    rcases h1 with h1|⟨h1,a',w',h2⟩
    ·exact Or.inl (DK h1)
    ·exact Or.inr ⟨h1,_,_,h2⟩
   ·rename_i hw
    rw[if_neg hw,hp] at h1
    exact h1⟩
theorem yn{b:Nat}{o:Obj}(h:aF w b o)(o':Obj):aF (w.putObj b o') b o':=World.putObj_heap_same h.lt
def CI(P:Program)(n l:Nat)(c:Code)(Q:Exit→Act→World→Prop)(L:Env)(w:World):Prop:=∀a,Fits n a L→c.wpIn (Fence.wide.inRound l) 0 P Q a w
theorem Hj{ops:List Oper}(hd:ops.all (fun o=> !gn o.op)=true):∀(i:Nat) (o:Oper),ops.toArray[i]?=some o→gn o.op=false:=fun i o ho=>by
 rw[List.getElem?_toArray] at ho
 have:=List.all_eq_true.1 hd o (List.mem_of_getElem? ho)
 simpa using this
theorem CI.dM{l id:Nat}{ops:List Oper}(hm:P.follows .mixedOrders=true)(hQ:¬LetsOut Q)(hd:ops.all (fun o=> !gn o.op)=true)(k:Nat)(ord gh:List Nat)(S:List Nat)(R:World→Prop)(hc:sQ n ops ord gh k=true)(hR0:R w)(hRs:cm [] R)
  (h:aI P S w ops gh (lD n S w P ops Q k) ord L (fun _=>True) R):CI P n l (.region id ops.toArray true) Q L w:=fun a ha=>
 wpIn_region_any hm (tE (Wf.round l) hQ (Hj hd) _ _ _ _ (jh k ord gh S (fun _=>True) R hc ha trivial (fun _ _ _ _=>trivial) hR0 hRs h))
theorem wo{K:Act→World→Prop}:¬LetsOut (Exit.then K (fun _ _ _=>False)):=fun h=>by
 obtain⟨a,w,h⟩:=h
 exact h
theorem qS{l D id:Nat}{ops1:List Oper}{i1:Nat}{body:Code}{fn:FuncId}{t u:Nat}{a:Act}{v x:Value}{R:Ending→World→Prop}{rc:LoopState→Loop}(hrc:rc=fun st=>nK a fn #[t,u] (.region i1 ops1.toArray false) (.block id body) D st none)(ha:Fits n a L)(ht:t<n)(hu:u<n)(hl:aF w l (.loop (rc .ready)))
  (hd1:ops1.all (fun o=> !gn o.op)=true)
  (h:SG P n ops1 (Exit.then (fun a1 w1=>∃L1,Fits n a1 L1∧aF w1 l (.loop (rc .ready))∧∀st,Kp [l] w1 st→aF st l (.loop (rc .busy))→
    CI P n l body (Exit.then (fun _ w2=>aF w2 l (.loop (rc .busy))∧∀w3,Kp [l] w2 w3→aF w3 l (.loop (rc .ready))→R (.returned (.bool true)) w3) (fun _ _ _=>False)) L1 st) (fun _ _ _=>False)) ops1 ((u,x)::(t,v)::L) w):
  YieldAt Fence.wide 0 P l #[v,x] w R:=by
 subst hrc
 refine⟨fn,_,_,_,run_yield hl rfl,roundIn_of_wpIn trivial ?_⟩
 have hfit:Fits n {tmps:=(a.tmps.setIfInBounds t v).setIfInBounds u x,defers:=[]} ((u,x)::(t,v)::L):=by
  have h2:=(ha.put t v ht).put u x hu
  exact⟨fun y z hy=>by simpa[Act.put] using h2.slot y z hy,by simpa[Act.put] using h2.size,rfl⟩
 have hz:(Array.foldl (fun tmps x=>match x with|(t,a)=>Array.setIfInBounds tmps t a) a.tmps (#[t,u].zip #[v,x]))=(a.tmps.setIfInBounds t v).setIfInBounds u x:=by simp
 show(Code.region i1 ops1.toArray false).wpIn _ _ _ _ {tmps:=Array.foldl (fun tmps x=>match x with|(t,a)=>Array.setIfInBounds tmps t a) a.tmps (#[t,u].zip #[v,x]),defers:=[]} w
 rw[hz]
 refine wpIn_mono (wpIn_region_lit (qK (Wf.round l) wo hd1 (h _ hfit))) (fun e a1 w1 hq=>?_)
 cases e<;>try exact False.elim hq
 obtain⟨L1,hf,hl1,h2⟩:=hq
 refine⟨_,run_beginRound hl1 rfl,wpIn_block (wpIn_mono (h2 _ (Kp.set w1 hl1 rfl rfl) (World.putObj_heap_same hl1.lt) a1 hf) (fun e a2 w2 hq=>?_))⟩
 cases e<;>try exact False.elim hq
 obtain⟨hl2,hR⟩:=hq
 exact⟨_,_,run_endRound none hl2,hR _ (Kp.set w2 hl2 rfl rfl) (World.putObj_heap_same hl2.lt)⟩
theorem SY.FX{ops:List Oper}{rest:List Oper}{d:Nat}{ty:TypeId}{pos:String}{af:Array Edge}{g:Option (Nat×Bool)}{x y z:Operand}{tys:Array TypeId}{l:Nat}{v u:Value}{R:Ending→World→Prop}
  (hd:Nat.blt d n=true) (hw:want ops L ⟨some d,.call ⟨.value x,#[y,z],tys⟩,ty,pos,af,g⟩=some true) (hk:(Op.call ⟨.value x,#[y,z],tys⟩).operands.toList.all (known L)=true)
  (hx:bB L x= .func (.yield l) #[] #[]) (hy:bB L y=v) (hz:bB L z=u) (h:YieldAt Fence.wide 0 P l #[v,u] w R) (hR:∀e w',R e w'→∃u,e= .returned u∧SY P n ops Q rest ((d,u)::L) w'):SY P n ops Q (⟨some d,.call ⟨.value x,#[y,z],tys⟩,ty,pos,af,g⟩::rest) L w:=by
 obtain⟨fn,tmps,assign,body,hrun,hround⟩:=h
 refine SY.op (R:=fun u w'=>R (.returned u) w') (by simpa using hd) hw hk (fun a he K hK=>?_) (fun u w' h=>?_)
 ·refine⟨fun f _=>trivial,?_⟩
  rw[Oper.semAt_eq _ _ _ (kG rfl),←execOp_congr ⟨some d,.call ⟨.value x,#[y,z],tys⟩,ty,pos,af,g⟩ (fun cs b e=>by cases e) he]
  have:(execOp (bB L) ⟨some d,.call ⟨.value x,#[y,z],tys⟩,ty,pos,af,g⟩).run P w= .ok (.round l fn tmps assign body) w:=by
   simp only[execOp,resolve,Deferred.ofValue,invoke,Sem.run_bind,Sem.run_pure,Result.andThen_ok,List.map_toArray,List.map_cons,List.map_nil,hx,hy,hz]
   simpa using hrun
  rw[this,Oper.uponIn_round]
  refine⟨fun hh=>absurd hh Wf.wide.depth,RoundIn.mono hround (fun e w' he=>?_)⟩
  obtain⟨u,rfl,_⟩:=hR e w' he
  exact hK _ _ he
 ·obtain⟨u',e1,e2⟩:=hR _ _ h
  cases e1
  exact e2
theorem nr.app{ds:List Deferred}{a:Act}(h:Fits n a L):nr n ds (kY ds a) L:=⟨⟨h.slot,h.size,rfl⟩,by show a.defers++ds=ds;rw[h.defers];rfl⟩
theorem CD.dM{ds:List Deferred}{id:Nat}{ops:List Oper}(hm:P.follows .mixedOrders=true)(k:Nat)(ord gh:List Nat)(S:List Nat)(R:World→Prop)(hc:sQ n ops ord gh k=true)(hR0:R w)(hRs:cm [] R)
  (h:aI P S w ops gh (lD n S w P ops (fun e a' w'=>Q e (kY ds a') w') k) ord L (fun _=>True) R):CD P n ds (.region id ops.toArray true) Q L w:=fun a ha=>by
 have e:a=kY ds {a with defers:=[]}:=by
  show a={a with defers:=[]++ds}
  rw[List.nil_append,←ha.defers]
 rw[e]
 exact wp_region_any hm (tF _ _ _ _ (jh k ord gh S (fun _=>True) R hc ha.fit trivial (fun _ _ _ _=>trivial) hR0 hRs h))
theorem CD.rangeFunc{ds:List Deferred}{g:Operand}{ps:Array Tmp}{assign body:Code}{gf:FuncId}[F:bQ P gf]{lb:Array Value}(hk:known L g=true)(hg:bB L g= .func (.func gf) #[] lb)
  (h:∀a,nr n ds a L→∀(fn:FuncId) (rc:LoopState→Loop) (W1:World),rc=(fun st=>nK a fn ps assign body w.heap.size st none)→Kp [] w W1→W1.heap.size=w.heap.size+2→aF W1 w.heap.size (.deferred (some []))→aF W1 (w.heap.size+1) (.loop (rc .ready))→
   Calls P gf (#[.func (.yield (w.heap.size+1)) #[] #[]]++lb) W1 (fun e w3=>(∃v,e= .returned v)∧aF w3 (w.heap.size+1) (.loop (rc .ready))∧
    Q .normal {a with defers:={target:= .collected w.heap.size,args:= #[]}::ds} (w3.putObj (w.heap.size+1) (.loop (rc .exhausted))))):CD P n ds (.rangeFunc g ps assign body) Q L w:=by
 intro a ha
 refine(wpIn_wide (n:=0)).1 (wpIn_rangeFunc (fun fn hfn=>?_))
 have hev:a.eval g= .func (.func gf) #[] lb:=by
  have:=ha.fit.eval hk
  rw[hg] at this
  exact this
 obtain⟨W1,hW1⟩:∃W1,(w.alloc (.deferred (some []))).alloc (.loop (nK a fn ps assign body w.heap.size .ready none))=W1:=⟨_,rfl⟩
 have hk1:Kp [] w W1:=by
  rw[←hW1]
  exact(Kp.push w (.deferred (some [])) rfl).trans (Kp.push (w.alloc (.deferred (some []))) (.loop (nK a fn ps assign body w.heap.size .ready none)) rfl)
 have hs1:W1.heap.size=w.heap.size+2:=by rw[←hW1];simp
 have hD1:aF W1 w.heap.size (.deferred (some [])):=by
  rw[←hW1]
  exact(Below.heap_alloc _ _ _ (by simp)).trans (World.alloc_heap_new w _)
 have hL1:aF W1 (w.heap.size+1) (.loop (nK a fn ps assign body w.heap.size .ready none)):=by
  rw[←hW1]
  have:=World.alloc_heap_new (w.alloc (.deferred (some []))) (.loop (nK a fn ps assign body w.heap.size .ready none))
  rwa [World.size_alloc] at this
 refine⟨w.heap.size+1,[{target:= .collected w.heap.size,args:= #[]}],W1,{target:= .fn (.func gf) lb,args:= #[.func (.yield (w.heap.size+1)) #[] #[]]},W1,gf,#[.func (.yield (w.heap.size+1)) #[] #[]]++lb,W1,?_,?_,fun f' hf'=>trivial,?_,fun hh=>absurd hh Wf.wide.depth,?_⟩
 ·rw[←hW1]
  exact run_enterLoop_outer _ _ _ _ _
 ·simp only[resolve,hev]
  simp[go_sem]
 ·simp[invoke,go_sem,F.run]
 ·refine callsIn_wide.2 ((h a ha fn _ W1 rfl hk1 hs1 hD1 hL1).mono (fun e w3 hh=>?_))
  obtain⟨⟨v,rfl⟩,hL3,hQ⟩:=hh
  refine⟨none,_,run_endLoop (P:=P) hL3 (by simp[nK]),?_⟩
  show Q .normal {a with defers:=[{target:= .collected w.heap.size,args:= #[]}]++a.defers} _
  rw[ha.defers]
  exact hQ
theorem CD.seq{ds:List Deferred}{x y:Code}(h:CD P n ds x (Exit.then (y.wp P Q) Q) L w):CD P n ds (.seq x y) Q L w:=fun a ha=>wp_seq (h a ha)
theorem CD.block{ds:List Deferred}{id:Nat}{c:Code}(h:CD P n ds c (Exit.inBlock id Q) L w):CD P n ds (.block id c) Q L w:=fun a ha=>wp_block (h a ha)
theorem NG.cd{ds:List Deferred}{y:Code}(h:CD P n ds y Q L w):NG n .normal (fun e a w=>Exit.then (y.wp P Q) Q e (kY ds a) w) L w:=fun a ha=>h _ (nr.app ha)
theorem Ey{D1 D2:Nat}{fn:Func}{R:Ending→World→Prop}{a:Act}{e:Exit}(he:e= .normal∨e= .ret)(hrs:fn.results= #[])(hd:a.defers=[{target:= .collected D2,args:= #[]},{target:= .collected D1,args:= #[]}])(h2:aF w D2 (.deferred (some [])))(hne:D1≠D2)(h1:aF w D1 (.deferred (some [])))(hR:R (.returned (.tuple #[])) ((w.putObj D2 (.deferred none)).putObj D1 (.deferred none))):bodyPostM Fence.wide 0 P fn R e a w:=by
 have key:LeavesInM Fence.wide 0 P fn a.tmps R a.defers .returning w:=by
  rw[hd]
  have hk:=Kp.set w (o':= .deferred none) h2 rfl rfl
  refine⟨by simp,.inl ⟨_,_,rfl,run_takeDeferred h2,by simp,.inl ⟨_,_,rfl,run_takeDeferred (h1.kp hk (by simp[hne])),?_⟩⟩⟩
  refine⟨.tuple #[],?_,hR⟩
  unfold results
  rw[hrs]
  simp only[List.mapM_toArray,←bind_pure_comp,Sem.run_bind,Result.andThen,Sem.run_pure]
  rfl
 rcases he with rfl|rfl
 ·exact key
 ·exact key
end
end
section
attribute [local irreducible] CG NG SG SY aK aI Row aF aE aM
theorem qe{w:World}{l bx:Nat}{a:Option Addr}{cc:Nat}{xs:List Dg}(hl:xs.length≤100000)(J:Nat→World→Prop)(hb:∀r W,J r W→Row W bx 0 [.slice a xs.length cc]∧Sl dc 8 W a xs)(hn:∀r W W',J r W→Kp [] W W'→J r W')
  (hy:∀r W (hr:r<xs.length),J (r+1) W→YieldAt Fence.wide 0 Tryz.prog l #[.int .i64 (r:Int),dv xs[r]] W (fun e W'=>e= .returned (.bool true)∧J r W')) (h0:J xs.length w):
  Calls Tryz.prog 158 #[.func (.yield l) #[] #[],.pointer (some ⟨bx,0,none⟩)] w (fun e w'=>(∃v,e= .returned v)∧J 0 w'):=by
 refine bJ Tryz.func158 rfl Tryz.ntmps158 rfl ?_
 obtain⟨r0,-⟩:=hb _ _ h0
 repeat (first|apply aj|(apply ar;rfl;(first|apply aD|apply bf|apply dy|apply xL)<;>first|rfl|(apply Ar.mk;omega)|assumption|exact List.not_mem_nil))
 refine CG.loop (X:=Nat) (fun r=>[(0,.func (.yield l) #[] #[]),(1,.pointer (some ⟨bx,0,none⟩)),(3,.int .i64 ((r:Int)-1))])
  (fun r w'=>r≤xs.length∧J r w') (fun r=>r) xs.length ⟨Nat.le_refl _,h0⟩ (aS.of rfl) ?_
 rintro r w3 ⟨hr,hJ⟩
 refine CG.to [(0,.func (.yield l) #[] #[]),(1,.pointer (some ⟨bx,0,none⟩)),(3,.int .i64 ((r:Int)-1))] (aS.of rfl) ?_
 clear r0
 cases r with
 |zero=>
  have g1:¬(0:Int)≤((0:Nat):Int)-1:=by omega
  repeat (first|apply aj|(apply ar;rfl;(first|apply az|apply jN)<;>first|rfl|(apply bN;first|assumption|omega)))
  refine bG rfl ?_
  repeat apply aj
  refine nF (Or.inr rfl) Tryz.results158 ?_
  exact⟨⟨_,rfl⟩,hJ⟩
 |succ r=>
  have e1:((r+1:Nat):Int)-1=(r:Int):=by omega
  rw[e1]
  have g1:(0:Int)≤(r:Int):=by omega
  obtain⟨r0,hS⟩:=hb _ _ hJ
  obtain⟨ba,off,rfl,hrow⟩:=hS.at (show r<xs.length by omega)
  repeat (first|apply aj|(apply ar;rfl;(first|apply az|apply jN)<;>first|rfl|(apply bK;first|assumption|omega)))
  refine bL rfl ?_
  repeat (first|refine CG.block ?_|refine CG.scope ?_|refine CG.seq ?_|apply CG.skip|refine NG.next ?_)
  refine CG.D4 ?_
  repeat (refine SY.val rfl rfl rfl rfl rfl (by first|((first|apply az|apply bf|apply bj|apply fv)<;>(first|exact rfl|exact Ar.mk (by omega)|assumption|exact List.not_mem_nil|apply ah|apply ah|fail))|fail) ?_)
  refine SY.FX rfl rfl rfl (ag rfl) (ag rfl) (ag rfl) (hy r w3 (by omega) hJ) (fun e w4 hh=>?_)
  obtain⟨rfl,hJ4⟩:=hh
  refine⟨_,rfl,?_⟩
  clear hrow r0
  repeat (refine SY.val rfl rfl rfl rfl rfl (by first|(apply fZ<;>(exact rfl))|fail) ?_)
  refine SY.nil ?_
  repeat apply aj
  refine bG rfl ?_
  repeat (first|apply aj|(apply ar;rfl;(first|apply az|apply aD|apply xL)<;>first|rfl|(apply Ar.mk;omega)))
  refine NG.round r (aS.of rfl) ⟨by omega,hJ4⟩ (by omega)
theorem qc(w:World)(v:Value):Calls Tryz.prog 123 #[v] w (fun e w'=>∃bx,e= .returned (j8 158 [.pointer (some ⟨bx,0,none⟩)])∧Kp [] w w'∧w.heap.size≤bx∧aF w' bx (.cells v.cells 93)):=by
 refine bA Tryz.func123 rfl Tryz.ntmps123 rfl ?_
 repeat apply aj
 refine SG.box rfl rfl rfl (ag rfl) (fun b1 w1 hk1 hb1 hB1=>?_)
 repeat (first|apply aj|(apply ar;rfl;apply aD<;>rfl))
 refine SG.val rfl rfl rfl rfl (Ht (vs:=[.pointer (some ⟨b1,0,none⟩)]) rfl) ?_
 repeat (first|apply aj|(apply ar;rfl;apply aD<;>rfl))
 refine aO (Or.inl rfl) Tryz.results123 (aC.tmp rfl) ?_
 exact⟨b1,rfl,hk1,hb1,hB1⟩
end
section
def ox(ns:List (Dg×Nat×Nm))(d:Dg):List Tx:=match aB ns d with
 |some q=>q.2.x.xs.map (·.t)
 |none=>[]
noncomputable def zW(ns:List (Dg×Nat×Nm))(h:Int)(ps:List En)(l:List Dg):List En:=l.foldr (fun d ps=>(qd 256 ps h (ox ns d)).1) ps
noncomputable def zN(ns:List (Dg×Nat×Nm))(ps:List En)(l:List Dg):List En:=l.foldr (fun d ps=>pY ps (ox ns d)) ps
noncomputable def HK(ns:List (Dg×Nat×Nm))(t:Tr)(ps:List En)(old now:Dg):List En:=zN ns (zW ns (t.height now) ps (t.fm old now)) (t.fm now old)
theorem na{ns:List (Dg×Nat×Nm)}{h:Int}{ps:List En}(hi:dF 256 ps):∀l,dF 256 (zW ns h ps l)
 |[]=>hi
 |d::l=>zZ (na hi l)
theorem pZ{ns:List (Dg×Nat×Nm)}{ps:List En}(hi:dF 256 ps):∀l,dF 256 (zN ns ps l)
 |[]=>hi
 |d::l=>zM (pZ hi l)
def Hl(W:World)(X:List (Nat×Obj)):Prop:=∀p∈X,aF W p.1 p.2
def Qa:Obj→Prop
 | .cells _ T _=>T∉CT
 |_=>True
def H2(X:List (Nat×Obj)):Prop:=∀p∈X,Qa p.2
theorem Pl.no{w:World}{n p b:Nat}{v:Value}{room:Int}{ms:List Em}{o:Obj}(h:Pl w n p v room ms)(hB:aF w b o)(ho:Qa o):b∉p::aP v:=fun hm=>by
 rcases List.mem_cons.1 hm with rfl|hm
 ·have e:=hB.uniq h.blk
  subst e
  exact ho (by decide)
 ·have hm:=aH hm
  rcases h.own.2 with⟨rfl,_⟩|⟨g,cap,cur,rfl,_,hg,_⟩
  ·cases hm
  ·simp only[Value.ownBlock,Option.some.injEq] at hm
   subst hm
   have e:=hB.uniq hg
   subst e
   exact ho (by decide)
theorem Hl.ay{W W':World}{X:List (Nat×Obj)}(h:Hl W X)(hk:Kp [] W W'):Hl W' X:=fun p hp=>(h p hp).ay hk
theorem Hl.kp{W W':World}{X:List (Nat×Obj)}{S:List Nat}(h:Hl W X)(hk:Kp S W W')(hn:∀p∈X,p.1∉S):Hl W' X:=fun p hp=>(h p hp).kp hk (hn p hp)
def th(w:World)(n:Nat)(A:List Nat)(tot:Int)(c:Cm)(X:List (Nat×Obj))(E:List En)(W:World):Prop:=
 ∃pv ps',cL W n A tot {c with pv:=pv,ps:=ps'}∧ps'.map Em.en=E∧Kp (c.pb::aP c.pv) w W∧(∀g,pv.ownBlock=some g→c.pv.ownBlock=some g∨w.heap.size≤g)∧Hl W X
theorem th.new{w:World}{n:Nat}{A:List Nat}{tot:Int}{c:Cm}{X:List (Nat×Obj)}{E:List En}{W W':World}(h:th w n A tot c X E W)(hk:Kp [] W W'):th w n A tot c X E W':=by
 obtain⟨pv,ps',h1,h2,h3,h4,h5⟩:=h
 exact⟨pv,ps',h1.ay hk,h2,h3.trans hk.any,h4,h5.ay hk⟩
theorem th.pool{w:World}{n:Nat}{A:List Nat}{tot:Int}{c:Cm}{X:List (Nat×Obj)}{E':List En}{W W':World}{pv pv':Value}{ps' ps2:List Em}(hX:H2 X)(h1:cL W n A tot {c with pv:=pv,ps:=ps'})(h3:Kp (c.pb::aP c.pv) w W)(h4:∀g,pv.ownBlock=some g→c.pv.ownBlock=some g∨w.heap.size≤g)(h5:Hl W X)
  (hk:Kp (c.pb::aP pv) W W') (hP:Pl W' n c.pb pv' 256 ps2) (hE:ps2.map Em.en=E') (hg:∀g,pv'.ownBlock=some g→pv.ownBlock=some g∨W.heap.size≤g):th w n A tot c X E' W':=by
 refine⟨pv',ps2,h1.FB hk hP,hE,h3.ai hk (fun z hz=>?_),fun g hg'=>?_,h5.kp hk (fun p hp=>Pl.no (p:=c.pb) (v:=pv) (room:=256) (ms:=ps') h1.pool (h5 p hp) (hX p hp))⟩
 ·rcases List.mem_cons.1 hz with rfl|hz
  ·exact Or.inl List.mem_cons_self
  ·rcases h4 z (aH hz) with g|g
   ·refine Or.inl (List.mem_cons_of_mem _ ?_)
    unfold aP
    rw[g]
    simp
   ·exact Or.inr g
 ·rcases hg g hg' with e|e
  ·exact h4 g e
  ·exact Or.inr (Nat.le_trans h3.size e)
theorem th.put{w:World}{n:Nat}{A:List Nat}{tot:Int}{c:Cm}{X X':List (Nat×Obj)}{E:List En}{W W':World}{l:Nat}{o:Obj}(h:th w n A tot c X E W)(hk:Kp [l] W W')(hl:aF W l o)(hn:n≤l)(ho:Je [] [] l o)(hw:w.heap.size≤l)(hX:∀p∈X',p∈X∧p.1≠l∨aF W' p.1 p.2):th w n A tot c X' E W':=by
 obtain⟨pv,ps',h1,h2,h3,h4,h5⟩:=h
 have hS:dt n [] [] W [l]:=dt.obj hn hl ho
 refine⟨pv,ps',h1.Ia hk hS (fun _ _ h=>by cases h) (fun p hp=>(h1.nd p hp).x.mn hk hS List.not_mem_nil List.not_mem_nil),h2,h3.ai hk (aV hw),h4,fun p hp=>?_⟩
 rcases hX p hp with⟨g1,g2⟩|g
 ·exact(h5 p g1).kp hk (bP g2)
 ·exact g
end
section
theorem xG{w:World}{b off:Nat}{l:List Dg}{pre post:List Value}{T:TypeId}(hB:aF w b (.cells (pre++(flat l++post)).toArray T))(hp:pre.length=off):Sl dc 8 w (some ⟨b,off,none⟩) l:=by
 rw[←hp]
 exact Sl.gH ah hB
attribute [local irreducible] CG NG SG SY CI aK aI Row aF aE aM
theorem qD{w:World}{n:Nat}{A:List Nat}{tot:Int}{c:Cm}(h:cL w n A tot c)(wf:c.tr.WF)(hI:dF 256 (c.ps.map Em.en)){old now:Dg}(ho:c.tr.has old=true)(hw:c.tr.has now=true)(hl1:c.tr.qO old now≤100000)(hl2:c.tr.qO now old≤100000)
  (h1:∀d∈c.tr.fm old now,∃q,aB c.ns d=some q) (h2:∀d∈c.tr.fm now old,∃q,aB c.ns d=some q):
  Calls Tryz.prog 75 #[.pointer (some ⟨c.cb,0,none⟩),dv old,dv now] w (fun e w'=>e= .returned (.tuple #[])∧th w n A tot c [] (HK c.ns c.tr (c.ps.map Em.en) old now) w'):=by
 refine GL (args:=[.pointer (some ⟨c.cb,0,none⟩),dv old,dv now]) Tryz.func75 rfl Tryz.ntmps75 rfl ?_
 repeat apply aj
 refine SG.box rfl rfl rfl (ag rfl) (fun b3 w1 hk1 hb3 hB3=>?_)
 have hB3:aF w1 b3 (.cells #[.pointer (some ⟨c.cb,0,none⟩)] 39):=hB3
 refine SG.box rfl rfl rfl (ag rfl) (fun b4 w2 hk2 hb4 hB4=>?_)
 have hB4:aF w2 b4 (.cells (dc old).toArray 47):=hB4
 refine SG.box rfl rfl rfl (ag rfl) (fun b5 w3 hk3 hb5 hB5=>?_)
 have hB5:aF w3 b5 (.cells (dc now).toArray 47):=hB5
 have k3:=(hk1.trans hk2).trans hk3
 have hB3:=(hB3.ay hk2).ay hk3
 have hB4:=hB4.ay hk3
 have h3:=h.ay k3
 have r3:Row w3 b3 0 [.pointer (some ⟨c.cb,0,none⟩)]:=Row.of hB3 [] [] rfl rfl
 have r4:Row w3 b4 0 (dc old):=Row.all hB4 rfl
 have r5:Row w3 b5 0 (dc now):=Row.all hB5 rfl
 obtain⟨-,-,-,-,q3,-,-⟩:=cM h3
 repeat apply aj
 refine CG.gZ mixed [0,1,2,3,4,5] [(6,7,6,.tmp 16)] (by kernel_rfl) (by kernel_rfl) ?_
 repeat (apply bZ;rfl;rfl;(first|apply bf|apply bj|apply aW|apply bM)<;>first|rfl|assumption|exact List.not_mem_nil|apply ah)
 refine aI.call rfl rfl rfl (vs:=[.pointer (some ⟨c.tb,0,none⟩),dv now]) (bz.of rfl) (fun W hk _=>gl (h3.tree.ay hk) now) ?_
 refine aI.one (fC.of (by rfl) rfl rfl rfl (ag rfl) (by rfl) (by rfl) (by rfl)) (fun b6 w4 hk4 hb6 hB6=>?_)
 have hB6:aF w4 b6 (.cells #[.int .i64 (c.tr.height now)] 3):=hB6
 have k4:=k3.trans hk4
 have h4:=h.ay k4
 have r3:=r3.ay hk4
 have r4:=r4.ay hk4
 have r5:=r5.ay hk4
 have q3:=q3.ay hk4
 repeat apply aj
 refine CG.tail mixed 6 [0,1,2,3,4,5] (by kernel_rfl) ?_
 repeat (apply bZ;rfl;rfl;(first|apply bf|apply bj|apply aW|apply bM)<;>first|rfl|assumption|exact List.not_mem_nil|apply ah)
 refine aI.tl (fun w5 hk5 _ _=>?_)
 refine SG.call rfl rfl rfl (vs:=[.pointer (some ⟨c.tb,0,none⟩),dv old,dv now]) (bz.of rfl) ((mO (h4.tree.ay hk5) wf ho hw).mono (fun e w6 hh=>?_))
 obtain⟨bs,off,cc,pre,post,rfl,hbs,hBs,⟨hpre,hcc⟩,hk6⟩:=hh
 refine⟨_,rfl,?_⟩
 refine SG.call rfl rfl rfl (vs:=[.slice (some ⟨bs,off,none⟩) (c.tr.qO old now) cc]) (bz.of rfl) ((qc w6 _).mono (fun e w7 hh=>?_))
 obtain⟨bx,rfl,hk7,hbx,hBx⟩:=hh
 refine⟨_,rfl,?_⟩
 repeat apply aj
 have s1:=hk1.size
 have s2:=hk2.size
 have s3:=hk3.size
 have s4:=hk4.size
 have s5:=hk5.size
 have s6:=hk6.size
 have s7:=hk7.size
 have lbx:=hBx.lt
 have k47:=(hk5.trans hk6).trans hk7
 have k7:=k4.trans k47
 have X0:Hl w7 [(b3,.cells #[.pointer (some ⟨c.cb,0,none⟩)] 39),(b4,.cells (dc old).toArray 47),(b5,.cells (dc now).toArray 47),(b6,.cells #[.int .i64 (c.tr.height now)] 3)]:=fun p hp=>by
  simp only[List.mem_cons,List.mem_nil_iff,or_false] at hp
  rcases hp with rfl|rfl|rfl|rfl
  ·exact(hB3.ay hk4).ay k47
  ·exact(hB4.ay hk4).ay k47
  ·exact(hB5.ay hk4).ay k47
  ·exact hB6.ay k47
 have l6:=hB6.lt
 have hbl:b3<w7.heap.size∧b4<w7.heap.size∧b5<w7.heap.size∧b6<w7.heap.size:=by
  have:=hB3.lt
  have:=hB4.lt
  have:=hB5.lt
  omega
 have hX0:H2 [(b3,.cells #[.pointer (some ⟨c.cb,0,none⟩)] 39),(b4,.cells (dc old).toArray 47),(b5,.cells (dc now).toArray 47),(b6,.cells #[.int .i64 (c.tr.height now)] 3)]:=fun p hp=>by
  simp only[List.mem_cons,List.mem_nil_iff,or_false] at hp
  rcases hp with rfl|rfl|rfl|rfl<;>(show _∉CT;decide)
 have hBs7:=hBs.ay hk7
 clear r3 r4 r5 q3
 generalize hXe:[(b3,Obj.cells #[.pointer (some ⟨c.cb,0,none⟩)] 39),(b4,.cells (dc old).toArray 47),(b5,.cells (dc now).toArray 47),(b6,.cells #[.int .i64 (c.tr.height now)] 3)]=X at*
 have hXl:∀p∈X,p.1<w7.heap.size:=fun p hp=>(X0 p hp).lt
 have m3:(b3,Obj.cells #[.pointer (some ⟨c.cb,0,none⟩)] 39)∈X:=by rw[←hXe];exact .head _
 have m4:(b4,Obj.cells (dc old).toArray 47)∈X:=by rw[←hXe];exact .tail _ (.head _)
 have m5:(b5,Obj.cells (dc now).toArray 47)∈X:=by rw[←hXe];exact .tail _ (.tail _ (.head _))
 have m6:(b6,Obj.cells #[.int .i64 (c.tr.height now)] 3)∈X:=by rw[←hXe];exact .tail _ (.tail _ (.tail _ (.head _)))
 have lbs:=hBs7.lt
 refine CG.rangeFunc rfl (ag rfl) (fun a ha fn rc W1 hrc hkW hsW hDW hLW=>?_)
 obtain⟨XL,hXL⟩:∃XL:LoopState→List (Nat×Obj),XL=fun st=>(bx,.cells #[.slice (some ⟨bs,off,none⟩) (c.tr.qO old now) cc] 93)::(bs,.cells (pre++(flat (c.tr.fm old now)++post)).toArray 47)::(w7.heap.size,.deferred (some []))::(w7.heap.size+1,.loop (rc st))::X:=⟨_,rfl⟩
 have mX:∀{st p},p∈X→p∈XL st:=fun hp=>by rw[hXL];exact .tail _ (.tail _ (.tail _ (.tail _ hp)))
 have ml:∀{st},(w7.heap.size+1,Obj.loop (rc st))∈XL st:=by rw[hXL];exact .tail _ (.tail _ (.tail _ (.head _)))
 have oXL:∀st,H2 (XL st):=fun st p hp=>by
  rw[hXL] at hp
  simp only[List.mem_cons] at hp
  rcases hp with rfl|rfl|rfl|rfl|hp
  ·show _∉CT;decide
  ·show _∉CT;decide
  ·trivial
  ·trivial
  ·exact hX0 p hp
 have hput:∀{st st' E W W'},th w n A tot c (XL st) E W→Kp [w7.heap.size+1] W W'→aF W' (w7.heap.size+1) (.loop (rc st'))→th w n A tot c (XL st') E W':=fun{st st' E W W'} hJ hk hB=>by
  have hl:aF W (w7.heap.size+1) (.loop (rc st)):=by
   obtain⟨_,_,-,-,-,-,hX⟩:=hJ
   exact hX _ ml
  refine hJ.put hk hl (by have:=h.w0;omega) trivial (by omega) (fun p hp=>?_)
  rw[hXL] at hp
  simp only[List.mem_cons] at hp
  rw[hXL]
  rcases hp with rfl|rfl|rfl|rfl|hp
  ·exact Or.inl ⟨.head _,by simp only;omega⟩
  ·exact Or.inl ⟨.tail _ (.head _),by simp only;omega⟩
  ·exact Or.inl ⟨.tail _ (.tail _ (.head _)),by simp only;omega⟩
  ·exact Or.inr hB
  ·exact Or.inl ⟨.tail _ (.tail _ (.tail _ (.tail _ hp))),by have:=hXl p hp;omega⟩
 refine(qe (xs:=c.tr.fm old now) (a:=some ⟨bs,off,none⟩) (cc:=cc) (by rw[im];exact hl1)
  (fun r W=>th w n A tot c (XL .ready) (zW c.ns (c.tr.height now) (c.ps.map Em.en) ((c.tr.fm old now).drop r)) W)
  (fun r W hJ=>?_) (fun r W W' hJ hk=>hJ.new hk) (fun r W hr hJ=>?_) ?_).mono (fun e W3 hh=>?_)
 ·obtain⟨_,_,-,-,-,-,hX⟩:=hJ
  rw[hXL] at hX
  rw[im]
  exact⟨Row.of (hX _ (.head _)) [] [] rfl rfl,xG (hX _ (.tail _ (.head _))) hpre⟩
 ·have hl:aF W (w7.heap.size+1) (.loop (rc .ready)):=by
   obtain⟨_,_,-,-,-,-,hX⟩:=hJ
   exact hX _ ml
  refine qS (t:=25) (u:=26) hrc ha (by decide) (by decide) hl rfl ?_
  clear hrc
  have ll:=hl.lt
  refine SG.alloc rfl rfl rfl (fun b8 W2 hk2' hb8 hB8=>?_)
  refine SG.aN (l:=dc (c.tr.fm old now)[r]) rfl rfl (ag rfl) (ag rfl) hB8 (ah _) rfl (bu _) (fun W3 hk3' hB8=>?_)
  have k3':Kp [] W W3:=hk2'.ai hk3' (aV (by omega))
  have hJ3:=hJ.new k3'
  refine SG.nil (NG.xC (fun a1 ha1=>⟨_,ha1,hl.ay k3',fun W4 hk4' hL4=>?_⟩))
  have hJ4:=hput hJ3 hk4' hL4
  have r8:Row W4 b8 0 (dc (c.tr.fm old now)[r]):=Row.all (hB8.kp hk4' (bP (by omega))) rfl
  clear ha1 a1 hJ hJ3
  obtain⟨pv,ps',hC,hE,hkp,hg,hX⟩:=hJ4
  have r3:Row W4 b3 0 [.pointer (some ⟨c.cb,0,none⟩)]:=Row.of (hX _ (mX m3)) [] [] rfl rfl
  have r6:Row W4 b6 0 [.int .i64 (c.tr.height now)]:=Row.of (hX _ (mX m6)) [] [] rfl rfl
  obtain⟨-,-,-,-,-,t4,t5⟩:=cM hC
  obtain⟨q,hq⟩:=h1 _ (List.getElem_mem hr)
  have hQ:=hC.Ak (c:={c with pv:=pv,ps:=ps'}) hq
  obtain⟨-,-,-,-,u20,-⟩:=eY hQ.blk
  have hM:=hC.map
  refine CI.dM mixed wo rfl 15 [0,1,2,3,4,5,6,7,8,9,10,11,12,13,14] [] [] (fun _=>True) (by kernel_rfl) trivial (fun _ _ _ _=>trivial) ?_
  repeat (apply bZ;rfl;rfl;(first|apply bf|apply bj|apply aW|apply bM|apply qu)<;>first|rfl|assumption|exact List.not_mem_nil|apply ah|exact kX (by assumption)|fail)
  refine aI.tl (fun W5 hk5' _ _=>?_)
  clear r3 r6 r8 t4 t5 u20 hM
  have hI5:dF 256 (ps'.map Em.en):=by rw[hE];exact na hI _
  refine SG.call rfl rfl rfl (vs:=[.pointer (some ⟨c.pb,0,none⟩),.int .i64 (c.tr.height now),.slice q.2.x.a q.2.x.xs.length q.2.x.c]) (bz.of rfl) ((zX (hC.ay hk5').pool hI5 (by omega) (hQ.ay hk5').x.tx (hQ.x.len)).mono (fun e W6 hh=>?_))
  obtain⟨rfl,pv2,ps2,hP2,hE2,hk6',hg2⟩:=hh
  refine⟨_,rfl,?_⟩
  have hkp5:=hkp.trans hk5'.any
  have hJ6:th w n A tot c (XL .busy) (zW c.ns (c.tr.height now) (c.ps.map Em.en) ((c.tr.fm old now).drop r)) W6:=by
   refine th.pool (oXL _) (hC.ay hk5') hkp5 hg (hX.ay hk5') hk6' hP2 ?_ hg2
   rw[List.drop_eq_getElem_cons hr]
   show _=(qd 256 (zW c.ns (c.tr.height now) (c.ps.map Em.en) ((c.tr.fm old now).drop (r+1))) (c.tr.height now) (ox c.ns (c.tr.fm old now)[r])).1
   have et:ox c.ns (c.tr.fm old now)[r]=q.2.x.xs.map (·.t):=by unfold ox;rw[hq]
   rw[hE2,hE,et]
  have hl6:aF W6 (w7.heap.size+1) (.loop (rc .busy)):=by
   obtain⟨_,_,-,-,-,-,hX⟩:=hJ6
   exact hX _ ml
  refine SG.nil (NG.xC (fun a1 ha1=>⟨hl6,fun W7 hk7' hL7=>⟨rfl,hput hJ6 hk7' hL7⟩⟩))
 ·refine⟨c.pv,c.ps,h.ay (k7.trans hkW),by rw[List.drop_length];rfl,(k7.trans hkW).any,fun g hg=>Or.inl hg,?_⟩
  rw[hXL]
  intro p hp
  simp only[List.mem_cons] at hp
  rcases hp with rfl|rfl|rfl|rfl|hp
  ·exact hBx.ay hkW
  ·exact hBs7.ay hkW
  ·exact hDW
  ·exact hLW
  ·exact(X0 p hp).ay hkW
 obtain⟨hv,hJ3⟩:=hh
 have hl3:aF W3 (w7.heap.size+1) (.loop (rc .ready)):=by
  obtain⟨_,_,-,-,-,-,hX⟩:=hJ3
  exact hX _ ml
 refine⟨hv,hl3,?_⟩
 obtain⟨W4,hW4⟩:∃W4,W3.putObj (w7.heap.size+1) (.loop (rc .exhausted))=W4:=⟨_,rfl⟩
 rw[hW4]
 have hk4':Kp [w7.heap.size+1] W3 W4:=by
  rw[←hW4]
  exact Kp.set W3 hl3 rfl rfl
 have hL4:aF W4 (w7.heap.size+1) (.loop (rc .exhausted)):=by
  rw[←hW4]
  exact yn hl3 _
 have hJ4:=hput hJ3 hk4' hL4
 rw[List.drop_zero] at hJ4
 clear hJ3 hl3 hk4' hput oXL ml
 generalize hE1:zW c.ns (c.tr.height now) (c.ps.map Em.en) (c.tr.fm old now)=E1 at hJ4
 have hI1:dF 256 E1:=by rw[←hE1];exact na hI _
 have mD:(w7.heap.size,Obj.deferred (some []))∈XL .exhausted:=by rw[hXL];exact .tail _ (.tail _ (.head _))
 refine CD.seq ?_ _ (nr.mark ha)
 have hJ40:=hJ4
 obtain⟨pv,ps',hC,hE,hkp,hg,hX⟩:=hJ4
 have r3:Row W4 b3 0 [.pointer (some ⟨c.cb,0,none⟩)]:=Row.of (hX _ (mX m3)) [] [] rfl rfl
 have r4:Row W4 b4 0 (dc old):=Row.all (hX _ (mX m4)) rfl
 have r5:Row W4 b5 0 (dc now):=Row.all (hX _ (mX m5)) rfl
 obtain⟨-,-,-,-,t3,-,-⟩:=cM hC
 refine CD.dM mixed 6 [0,1,2,3,4,5] [] [] (fun _=>True) (by kernel_rfl) trivial (fun _ _ _ _=>trivial) ?_
 repeat (apply bZ;rfl;rfl;(first|apply bf|apply bj|apply aW|apply bM)<;>first|rfl|assumption|exact List.not_mem_nil|apply ah)
 refine aI.tl (fun W5 hk5 _ _=>?_)
 refine SG.call rfl rfl rfl (vs:=[.pointer (some ⟨c.tb,0,none⟩),dv now,dv old]) (bz.of rfl) ((mO (hC.ay hk5).tree wf hw ho).mono (fun e W6 hh=>?_))
 obtain⟨bs2,off2,cc2,pre2,post2,rfl,hbs2,hBs2,⟨hpre2,hcc2⟩,hk6⟩:=hh
 refine⟨_,rfl,?_⟩
 refine SG.call rfl rfl rfl (vs:=[.slice (some ⟨bs2,off2,none⟩) (c.tr.qO now old) cc2]) (bz.of rfl) ((qc W6 _).mono (fun e W7 hh=>?_))
 obtain⟨bx2,rfl,hk7,hbx2,hBx2⟩:=hh
 refine⟨_,rfl,?_⟩
 refine SG.nil (NG.cd ?_)
 refine CD.block ?_
 clear r3 r4 r5 t3
 have k57:=(hk5.trans hk6).trans hk7
 have k7':=hk7.size
 have lbx2:=hBx2.lt
 have lbs2:=(hBs2.ay hk7).lt
 obtain⟨X2,hX2⟩:∃X2:List (Nat×Obj),X2=(w7.heap.size,.deferred (some []))::X:=⟨_,rfl⟩
 have X02:Hl W7 X2:=fun p hp=>by
  rw[hX2] at hp
  rcases List.mem_cons.1 hp with rfl|hp
  ·exact(hX _ mD).ay k57
  ·exact(hX _ (mX hp)).ay k57
 have hX02:H2 X2:=fun p hp=>by
  rw[hX2] at hp
  rcases List.mem_cons.1 hp with rfl|hp
  ·trivial
  ·exact hX0 p hp
 have hXl2:∀p∈X2,p.1<W7.heap.size:=fun p hp=>(X02 p hp).lt
 have h2':=h2
 have hw7:w.heap.size≤W7.heap.size:=Nat.le_trans hkp.size k57.size
 refine CD.rangeFunc rfl (ag rfl) (fun a2 ha2 fn2 rc2 W8 hrc2 hkW2 hsW2 hDW2 hLW2=>?_)
 obtain⟨XM,hXM⟩:∃XM:LoopState→List (Nat×Obj),XM=fun st=>(bx2,.cells #[.slice (some ⟨bs2,off2,none⟩) (c.tr.qO now old) cc2] 93)::(bs2,.cells (pre2++(flat (c.tr.fm now old)++post2)).toArray 47)::(W7.heap.size,.deferred (some []))::(W7.heap.size+1,.loop (rc2 st))::X2:=⟨_,rfl⟩
 have mY:∀{st p},p∈X2→p∈XM st:=fun hp=>by rw[hXM];exact .tail _ (.tail _ (.tail _ (.tail _ hp)))
 have ml:∀{st},(W7.heap.size+1,Obj.loop (rc2 st))∈XM st:=by rw[hXM];exact .tail _ (.tail _ (.tail _ (.head _)))
 have oXM:∀st,H2 (XM st):=fun st p hp=>by
  rw[hXM] at hp
  simp only[List.mem_cons] at hp
  rcases hp with rfl|rfl|rfl|rfl|hp
  ·show _∉CT;decide
  ·show _∉CT;decide
  ·trivial
  ·trivial
  ·exact hX02 p hp
 have hput:∀{st st' E W W'},th w n A tot c (XM st) E W→Kp [W7.heap.size+1] W W'→aF W' (W7.heap.size+1) (.loop (rc2 st'))→th w n A tot c (XM st') E W':=fun{st st' E W W'} hJ hk hB=>by
  have hl:aF W (W7.heap.size+1) (.loop (rc2 st)):=by
   obtain⟨_,_,-,-,-,-,hX⟩:=hJ
   exact hX _ ml
  refine hJ.put hk hl (by have:=h.w0;omega) trivial (by omega) (fun p hp=>?_)
  rw[hXM] at hp
  simp only[List.mem_cons] at hp
  rw[hXM]
  rcases hp with rfl|rfl|rfl|rfl|hp
  ·exact Or.inl ⟨.head _,by simp only;omega⟩
  ·exact Or.inl ⟨.tail _ (.head _),by simp only;omega⟩
  ·exact Or.inl ⟨.tail _ (.tail _ (.head _)),by simp only;omega⟩
  ·exact Or.inr hB
  ·exact Or.inl ⟨.tail _ (.tail _ (.tail _ (.tail _ hp))),by have:=hXl2 p hp;omega⟩
 refine(qe (xs:=c.tr.fm now old) (a:=some ⟨bs2,off2,none⟩) (cc:=cc2) (by rw[im];exact hl2)
  (fun r W=>th w n A tot c (XM .ready) (zN c.ns E1 ((c.tr.fm now old).drop r)) W)
  (fun r W hJ=>?_) (fun r W W' hJ hk=>hJ.new hk) (fun r W hr hJ=>?_) ?_).mono (fun e W3 hh=>?_)
 ·obtain⟨_,_,-,-,-,-,hX⟩:=hJ
  rw[hXM] at hX
  rw[im]
  exact⟨Row.of (hX _ (.head _)) [] [] rfl rfl,xG (hX _ (.tail _ (.head _))) hpre2⟩
 ·have hl:aF W (W7.heap.size+1) (.loop (rc2 .ready)):=by
   obtain⟨_,_,-,-,-,-,hX⟩:=hJ
   exact hX _ ml
  refine qS (t:=51) (u:=52) (a:={a2 with defers:=[]}) hrc2 ha2.fit (by decide) (by decide) hl rfl ?_
  clear hrc2
  have ll:=hl.lt
  refine SG.alloc rfl rfl rfl (fun b8 W2 hk2' hb8 hB8=>?_)
  refine SG.aN (l:=dc (c.tr.fm now old)[r]) rfl rfl (ag rfl) (ag rfl) hB8 (ah _) rfl (bu _) (fun W3 hk3' hB8=>?_)
  have k3':Kp [] W W3:=hk2'.ai hk3' (aV (by omega))
  have hJ3:=hJ.new k3'
  refine SG.nil (NG.xC (fun a1 ha1=>⟨_,ha1,hl.ay k3',fun W4 hk4' hL4=>?_⟩))
  have hJ4:=hput hJ3 hk4' hL4
  have r8:Row W4 b8 0 (dc (c.tr.fm now old)[r]):=Row.all (hB8.kp hk4' (bP (by omega))) rfl
  clear ha1 a1 hJ hJ3
  obtain⟨pv,ps',hC,hE,hkp,hg,hX⟩:=hJ4
  have r3:Row W4 b3 0 [.pointer (some ⟨c.cb,0,none⟩)]:=Row.of (hX _ (mY (by rw[hX2];exact .tail _ m3))) [] [] rfl rfl
  obtain⟨-,-,-,-,-,t4,t5⟩:=cM hC
  obtain⟨q,hq⟩:=h2' _ (List.getElem_mem hr)
  have hQ:=hC.Ak (c:={c with pv:=pv,ps:=ps'}) hq
  obtain⟨-,-,-,-,u20,-⟩:=eY hQ.blk
  have hM:=hC.map
  refine CI.dM mixed wo rfl 14 [0,1,2,3,4,5,6,7,8,9,10,11,12,13] [] [] (fun _=>True) (by kernel_rfl) trivial (fun _ _ _ _=>trivial) ?_
  repeat (apply bZ;rfl;rfl;(first|apply bf|apply bj|apply aW|apply bM|apply qu)<;>first|rfl|assumption|exact List.not_mem_nil|apply ah|exact kX (by assumption)|fail)
  refine aI.tl (fun W5 hk5' _ _=>?_)
  clear r3 r8 t4 t5 u20 hM
  have hI5:dF 256 (ps'.map Em.en):=by rw[hE];exact pZ hI1 _
  refine SG.call rfl rfl rfl (vs:=[.pointer (some ⟨c.pb,0,none⟩),.slice q.2.x.a q.2.x.xs.length q.2.x.c]) (bz.of rfl) ((zL (hC.ay hk5').pool hI5 (by omega) (hQ.ay hk5').x.tx.sl (hQ.x.len)).mono (fun e W6 hh=>?_))
  obtain⟨rfl,pv2,ps2,hP2,hE2,hk6',hg2⟩:=hh
  refine⟨_,rfl,?_⟩
  have hkp5:=hkp.trans hk5'.any
  have hJ6:th w n A tot c (XM .busy) (zN c.ns E1 ((c.tr.fm now old).drop r)) W6:=by
   refine th.pool (oXM _) (hC.ay hk5') hkp5 hg (hX.ay hk5') hk6' hP2 ?_ (fun g hg'=>Or.inl (hg2 g hg'))
   rw[List.drop_eq_getElem_cons hr]
   show _=pY (zN c.ns E1 ((c.tr.fm now old).drop (r+1))) (ox c.ns (c.tr.fm now old)[r])
   have et:ox c.ns (c.tr.fm now old)[r]=q.2.x.xs.map (·.t):=by unfold ox;rw[hq]
   rw[hE2,hE,et]
  have hl6:aF W6 (W7.heap.size+1) (.loop (rc2 .busy)):=by
   obtain⟨_,_,-,-,-,-,hX⟩:=hJ6
   exact hX _ ml
  refine SG.nil (NG.xC (fun a1 ha1=>⟨hl6,fun W7 hk7' hL7=>⟨rfl,hput hJ6 hk7' hL7⟩⟩))
 ·refine⟨pv,ps',hC.ay (k57.trans hkW2),by rw[List.drop_length];exact hE,hkp.trans (k57.trans hkW2).any,hg,?_⟩
  rw[hXM]
  intro p hp
  simp only[List.mem_cons] at hp
  rcases hp with rfl|rfl|rfl|rfl|hp
  ·exact hBx2.ay hkW2
  ·exact(hBs2.ay hk7).ay hkW2
  ·exact hDW2
  ·exact hLW2
  ·exact(X02 p hp).ay hkW2
 obtain⟨hv,hJ3⟩:=hh
 have hl3:aF W3 (W7.heap.size+1) (.loop (rc2 .ready)):=by
  obtain⟨_,_,-,-,-,-,hX⟩:=hJ3
  exact hX _ ml
 refine⟨hv,hl3,?_⟩
 obtain⟨W4,hW4⟩:∃W4,W3.putObj (W7.heap.size+1) (.loop (rc2 .exhausted))=W4:=⟨_,rfl⟩
 rw[hW4]
 have hk4':Kp [W7.heap.size+1] W3 W4:=by
  rw[←hW4]
  exact Kp.set W3 hl3 rfl rfl
 have hL4:aF W4 (W7.heap.size+1) (.loop (rc2 .exhausted)):=by
  rw[←hW4]
  exact yn hl3 _
 have hJ4:=hput hJ3 hk4' hL4
 rw[List.drop_zero] at hJ4
 have mE:(W7.heap.size,Obj.deferred (some []))∈XM .exhausted:=by rw[hXM];exact .tail _ (.tail _ (.head _))
 have mF:(w7.heap.size,Obj.deferred (some []))∈XM .exhausted:=mY (by rw[hX2];exact .head _)
 have hD:aF W4 W7.heap.size (.deferred (some []))∧aF W4 w7.heap.size (.deferred (some [])):=by
  obtain⟨_,_,-,-,-,-,hX⟩:=hJ4
  exact⟨hX _ mE,hX _ mF⟩
 have hlt:w7.heap.size<W7.heap.size:=hXl2 _ (by rw[hX2];exact .head _)
 have hes:zN c.ns E1 (c.tr.fm now old)=HK c.ns c.tr (c.ps.map Em.en) old now:=by unfold HK;rw[hE1]
 rw[hes] at hJ4
 have kA:=Kp.set W4 (o':= .deferred none) hD.1 rfl rfl
 have hD2:=hD.2.kp kA (bP (by omega))
 have hJ5:=hJ4.put (X':=[(w7.heap.size,Obj.deferred (some []))]) kA hD.1 (by have:=h.w0;omega) trivial (by omega) (fun p hp=>by
  rw[List.mem_singleton] at hp
  subst hp
  exact Or.inr hD2)
 refine Ey (Or.inl rfl) Tryz.results75 rfl hD.1 (by omega) hD.2 ⟨rfl,?_⟩
 exact hJ5.put (X':=[]) (Kp.set _ hD2 rfl rfl) hD2 (by have:=h.w0;omega) trivial (by omega) (fun p hp=>by cases hp)
end
section
open Classical in
noncomputable def eS(nb:eA)(h:Int)(mk:Dg):Fb→Tl→List Int→List Tx→Int×Fb×Tl×List Int
 |f,t,es,[]=>(0,f,t,es)
 |f,t,es,x::l=>if fl nb x≠0 then(fl nb x,f,t,es) else if fq f x≠0 then(fq f x,f,t,es) else eS nb h mk (oM f mk x) (dot t f h mk x) (mc es f mk x) l
open Classical in
noncomputable def qy(nb:eA)(c:Cm)(b:Bl):Int:=
 if bD b≠0 then bD b else if(aB c.ns (aQ b)).isSome then 7 else
 match aB c.ns b.par with
 |none=>24
 |some q=>if jr b q.2.x.b≠0 then jr b q.2.x.b else if(eS nb b.ht b.mkr q.2.f q.2.t [] b.txs).1≠0 then(eS nb b.ht b.mkr q.2.f q.2.t [] b.txs).1 else c.tr.addE (aQ b) b.par
theorem Bf{nb:eA}{h:Int}{mk:Dg}{f:Fb}{t:Tl}{es:List Int}:eS nb h mk f t es []=(0,f,t,es):=rfl
theorem tW{nb:eA}{h:Int}{mk:Dg}{f:Fb}{t:Tl}{es:List Int}{x:Tx}{l:List Tx}(hz:fl nb x≠0):(eS nb h mk f t es (x::l)).1=fl nb x:=by
 unfold eS
 rw[if_pos hz]
theorem tX{nb:eA}{h:Int}{mk:Dg}{f:Fb}{t:Tl}{es:List Int}{x:Tx}{l:List Tx}(hz:fl nb x=0)(hp:fq f x≠0):(eS nb h mk f t es (x::l)).1=fq f x:=by
 unfold eS
 rw[if_neg (fun g=>g hz),if_pos hp]
theorem rZ{nb:eA}{h:Int}{mk:Dg}{f:Fb}{t:Tl}{es:List Int}{x:Tx}{l:List Tx}(hz:fl nb x=0)(hp:fq f x=0):eS nb h mk f t es (x::l)=eS nb h mk (oM f mk x) (dot t f h mk x) (mc es f mk x) l:=by
 show(if fl nb x≠0 then _ else if fq f x≠0 then _ else _)=_
 rw[if_neg (fun g=>g hz),if_neg (fun g=>g hp)]
theorem xg{b p:Bl}(h:jr b p=0):b.ht=p.ht+1:=by
 unfold jr at h
 split at h
 ·rename_i g
  exact absurd h g
 ·split at h
  ·cases h
  ·rename_i g
   exact Classical.byContradiction (fun e=>g (Or.inr (Or.inr e)))
def xW(bk tb:Nat)(va:Value)(y:Bm)(vn:Value):List Value:=G8 bk tb va (dq y++[vn])
theorem PB(w:World)(bk tb:Nat)(a0 a1 a2 a3 a4 a5 a6 a7 b0 b1 b2 b3 b4 b5 b6 b7:UInt8)(h:Int)(a:Option Addr)(n c:Nat):(Instr.build 118 #[(0,DD bk tb (.slice none 0 0)),(1,.agg #[bv a0,bv a1,bv a2,bv a3,bv a4,bv a5,bv a6,bv a7,.int .i64 h,bv b0,bv b1,bv b2,bv b3,bv b4,bv b5,bv b6,bv b7,.slice a n c])]).run Tryz.prog w=
  .ok (.agg #[.pointer (some ⟨bk,0,none⟩),.iface 74 (.pointer (some ⟨tb,0,none⟩)),.slice none 0 0,bv a0,bv a1,bv a2,bv a3,bv a4,bv a5,bv a6,bv a7,.int .i64 h,bv b0,bv b1,bv b2,bv b3,bv b4,bv b5,bv b6,bv b7,.slice a n c,.slice none 0 0]) w:=by kernel_rfl
theorem QN(bk tb:Nat)(y:Bm)(w:World):(Instr.build 118 #[(0,DD bk tb (.slice none 0 0)),(1,iH y)]).run Tryz.prog w= .ok (.agg (xW bk tb (.slice none 0 0) y (.slice none 0 0)).toArray) w:=by
 obtain⟨⟨la,ha⟩,h,⟨lb,hb⟩,a,c,xs⟩:=y
 match la,ha,lb,hb with
 |[a0,a1,a2,a3,a4,a5,a6,a7],_,[b0,b1,b2,b3,b4,b5,b6,b7],_=>exact PB w bk tb a0 a1 a2 a3 a4 a5 a6 a7 b0 b1 b2 b3 b4 b5 b6 b7 h a xs.length c
theorem um{w:World}{b bk tb:Nat}{va vn:Value}{y:Bm}{T:TypeId}(h:aF w b (.cells (xW bk tb va y vn).toArray T)):Row w b 20 [.slice y.a y.xs.length y.c]∧Row w b 21 [vn]:=by
 have e:xW bk tb va y vn=rK bk tb va++(dq y++[vn]):=rfl
 have h3:=Row.of h (rK bk tb va) [vn] (l:=dq y) (by rw[e]) rfl
 have h6:=Row.of h (rK bk tb va++dq y) [] (l:=[vn]) (by rw[e,List.append_assoc,List.append_nil]) (by rw[List.length_append,aJ])
 exact⟨(nZ h3).2.2.2,h6⟩
theorem dX.nb{T:TypeId}{n b:Nat}{w:World}{S:List Nat}{cs:Array Value}(h:dX T n w S)(hB:aF w b (.cells cs T)):b∉S:=fun hm=>(h b hm).2 _ _ hB
theorem Eu(bk tb:Nat)(va:Value)(y:Bm)(vn:Value):(xW bk tb va y vn).toArray.toList=(rK bk tb va++dq y)++([vn]++[]):=by simp[xW,G8,rK]
theorem BR(bk tb:Nat)(va:Value)(y:Bm)(vn:Value):(rK bk tb va++dq y)++([vn]++[])=xW bk tb va y vn:=by simp[xW,G8,rK]
theorem Et(bk tb:Nat)(va:Value)(y:Bm):(rK bk tb va++dq y).length=21:=by rw[List.length_append,aJ];rfl
structure An(wT:World)(b hG:Nat)(y:Bm)(tot:Int)(N i:Nat)(bk bm tb:Nat)(m:Bk)(f:Fb)(t:Tl)(va:Value)(es:List Int)(vn:Value)(W:World):Prop where
 kp:Kp [b,hG] wT W
 st:fu W 118 (dq y++[vn]) b bk bm tb m t va
 bm:bm=hG∨wT.heap.size≤bm
 bi:jM tot (N+6*i) m f
 tn:t.n≤N+i
 oa:W.ownsRow wT.heap.size 36 1 va es.length (bO tt es)
 el:es.length=i
 on:W.ownsRow wT.heap.size 47 8 vn i (bO dc ((y.xs.take i).map (fun x=>aR x.t)))
section
variable {wT:World} {b hG:Nat} {y:Bm} {tot:Int} {N i:Nat} {bk bm tb:Nat} {m:Bk} {f:Fb} {t:Tl} {va:Value} {es:List Int} {vn:Value} {W W':World}
theorem An.ay(J:An wT b hG y tot N i bk bm tb m f t va es vn W)(hk:Kp [] W W'):An wT b hG y tot N i bk bm tb m f t va es vn W':=
 ⟨J.kp.trans hk.any,J.st.ay hk,J.bm,J.bi,J.tn,aT J.oa hk,J.el,aT J.on hk⟩
theorem An.no(J:An wT b hG y tot N i bk bm tb m f t va es vn W){T:TypeId}(h1:118≠T)(h2:36≠T):dX T 0 W (b::bm::aP va):=
 dX.cons (Nat.zero_le _) (dX.cells J.st.blk h1) (dX.cons (Nat.zero_le _) (J.st.book.map.BL _) (dX.own J.oa (Nat.zero_le _) h2))
theorem An.sub(J:An wT b hG y tot N i bk bm tb m f t va es vn W):∀z∈b::bm::aP va,z∈[b,hG]∨wT.heap.size≤z:=fun z hz=>by
 rcases List.mem_cons.1 hz with rfl|hz
 ·exact Or.inl (by simp)
 rcases List.mem_cons.1 hz with rfl|hz
 ·exact J.bm.elim (fun e=>Or.inl (by simp[e])) Or.inr
 ·exact Or.inr (cp J.oa z (aH hz))
theorem An.did(J:An wT b hG y tot N i bk bm tb m f t va es vn W)(hi:i<y.xs.length){x:Tx}(hx:x=y.xs[i].t){h:Int}{mk:Dg}(hp:fq f x=0){bk' bm' tb':Nat}{m':Bk}{va' vn':Value}{W2 W3:World}
  (hst:fu W' 118 (dq y++[vn]) b bk' bm' tb' m' (dot t f h mk x) va') (hbi:jM tot (N+6*i+6) m' (oM f mk x)) (hoa:W'.ownsRow wT.heap.size 36 1 va' (mc es f mk x).length (bO tt (mc es f mk x))) (hk:Kp (b::bm::aP va) W W') (hbm:bm'=bm∨W.heap.size≤bm')
  (hk2:Kp (aP vn) W' W2) (hon:W2.ownsRow wT.heap.size 47 8 vn' (i+1) (bO dc ((y.xs.take (i+1)).map (fun x=>aR x.t)))) (hk3:Kp [b] W2 W3) (hB:aF W3 b (.cells (xW bk' tb' va' y vn').toArray 118)):An wT b hG y tot N (i+1) bk' bm' tb' m' (oM f mk x) (dot t f h mk x) va' (mc es f mk x) vn' W3:=by
 have ho':W'.ownsRow wT.heap.size 47 8 vn i (bO dc ((y.xs.take i).map (fun x=>aR x.t))):=bW J.on hk (dN J.on (J.no (by decide) (by decide)))
 have no2:∀{T:TypeId},47≠T→dX T 0 W' (aP vn):=fun h1=>dX.own ho' (Nat.zero_le _) h1
 have nb2:∀{T:TypeId} {z:Nat} {cs:Array Value},47≠T→aF W' z (.cells cs T)→z∉aP vn:=fun h1 hb hm=>(no2 h1 _ hm).2 _ _ hb
 have hst2:fu W2 118 (dq y++[vn]) b bk' bm' tb' m' (dot t f h mk x) va':=⟨hst.blk.kp hk2 (nb2 (by decide) hst.blk),⟨hst.book.blk.kp hk2 (nb2 (by decide) hst.book.blk),hst.book.map.kp hk2 (fun hm=>kF ho' hst.book.map _ (aH hm) (List.mem_singleton.2 rfl))⟩,hst.app.kp hk2 (nb2 (by decide) hst.app)⟩
 have hoa2:=bW hoa hk2 (dN hoa (no2 (by decide)))
 refine⟨((J.kp.st hk J.sub).st hk2 (fun z hz=>Or.inr (cp ho' z (aH hz)))).trans (hk3.mono (fun z hz=>by rw[List.mem_singleton] at hz;rw[hz];simp)),hst2.Dz va' hk3 hB (by decide) (by decide),?_,hbi.mono (by omega),by have:=J.tn;have:=Cy t f h mk x;omega,bW hoa2 hk3 (cK hoa2 (by decide) hst2.blk),?_,bW hon hk3 (cK hon (by decide) hst2.blk)⟩
 ·rcases hbm with rfl|g
  ·exact J.bm
  ·exact Or.inr (Nat.le_trans J.kp.size g)
 ·unfold mc
  rw[if_pos hp,List.length_append,J.el]
  rfl
end
end
section
def Tr.OD(t:Tr):Nat:=max 1 (t.ht t.tip+1-t.depth)
def Tr.fin(t:Tr):List Dg:=(t.line t.tip).take t.OD
theorem Db{t:Tr}{x p:Dg}(he:t.addE x p=0):t.has x=false∧t.has p=true∧t.nodes.length<4096∧t.ht t.tip≤t.depth+t.ht (t.part p t.tip):=by
 have hx:t.has x=false:=by
  cases h:t.has x with
  |false=>rfl
  |true=>simp[Tr.addE,h] at he
 have hp:t.has p=true:=by
  cases h:t.has p with
  |true=>rfl
  |false=>simp[Tr.addE,hx,h] at he
 have hl:t.nodes.length<4096:=by
  by_cases h:4096≤t.nodes.length
  ·simp[Tr.addE,hx,hp,h] at he
  ·omega
 refine⟨hx,hp,hl,?_⟩
 by_cases h:t.ht t.tip≤t.depth+t.ht (t.part p t.tip)
 ·exact h
 ·have h':¬4096≤t.nodes.length:=by omega
  have h2:t.depth+t.ht (t.part p t.tip)<t.ht t.tip:=by omega
  simp[Tr.addE,hx,hp,h',Tr.deep,h2] at he
attribute [local irreducible] CG NG SG aK aI Row aF aE
end
section
theorem xA{t:Tr}(wf:t.WF){a b d:Dg}(ha:t.has a=true)(hd:d∈t.fm a b):t.has d=true:=by
 have key:∀(k:Nat) {x:Dg},t.has x=true→k≤t.ht x→∀d∈t.dY k x,t.has d=true:=by
  intro k
  induction k with
  |zero=>
   intro x hx _ d hd
   rw[Tr.dY,List.mem_singleton] at hd
   rw[hd]
   exact hx
  |succ k ih=>
   intro x hx hk d hd
   have h1:=wf.anc 1 hx (by omega)
   rcases List.mem_cons.1 hd with rfl|hd
   ·exact hx
   ·exact ih h1.1 (by have:=h1.2;show k≤t.ht (t.anc 1 x);omega) d hd
 exact key _ ha (by unfold Tr.qO;omega) d (List.mem_of_mem_take hd)
theorem AP{t:Tr}(wf:t.WF){a b:Dg}(ha:t.has a=true):t.qO a b≤100000:=by
 have:=wf.bound ha
 unfold Tr.qO
 omega
theorem cL.Oj{w:World}{n:Nat}{A:List Nat}{tot:Int}{c:Cm}(h:cL w n A tot c):dt n CT A w [c.tb,c.tm]:=(dt.cells h.bn h.tree.blk (by decide)).cons (dt.map h.tn h.tree.map h.tA)
theorem cL.HG{w w':World}{n:Nat}{A:List Nat}{tot:Int}{c:Cm}{t':Tr}(h:cL w n A tot c)(hk:Kp [c.tb,c.tm] w w')(hT:cj w' c.tb c.tm t'):cL w' n A tot {c with tr:=t'}:=by
 have nb:∀{T:TypeId} {b:Nat} {cs:Array Value},T≠200→aF w b (.cells cs T)→b∉[c.tb,c.tm]:=fun h1 hb=>fG (fun e=>by
  subst e
  have:=hb.uniq h.tree.blk
  simp only[Obj.cells.injEq] at this
  exact h1 this.2.1) (fun e=>eB hb h.tree.map e.symm)
 have nT:dX 216 n w [c.tb,c.tm]:=dX.cons h.bn (dX.cells h.tree.blk (by decide)) (dX.cons h.tn (h.tree.map.BL _) dX.nil)
 have nU:dX 5 n w [c.tb,c.tm]:=dX.cons h.bn (dX.cells h.tree.blk (by decide)) (dX.cons h.tn (h.tree.map.BL _) dX.nil)
 exact⟨h.blk.kp hk (nb (by decide) h.blk),hT,h.pool.kp hk (nb (by decide) h.pool.blk) (dN h.pool.own nT) nU,h.map.kp hk (fG (fun e=>eB h.tree.blk h.map e) (fun e=>h.ne e.symm)),h.nodes hk h.Oj,h.tA,h.nA,h.ne,h.tn,h.nn,h.bn,Nat.le_trans h.w0 hk.size⟩
theorem cL.ins{w w':World}{n:Nat}{A:List Nat}{tot:Int}{c:Cm}{d:Dg}{b:Nat}{q:Nm}(h:cL w n A tot c)(hk:Kp [c.nm] w w')(hM:aE w' c.nm (dv (n:=8)) Du (cF c.ns d (b,q)))(hN:iV w' n A tot b q):cL w' n A tot {c with ns:=cF c.ns d (b,q)}:=by
 have hS:dt n CT A w [c.nm]:=dt.map h.nn h.map h.nA
 have nb:∀{T:TypeId} {z:Nat} {cs:Array Value},aF w z (.cells cs T)→z∉[c.nm]:=fun hb=>bP (fun e=>eB hb h.map e.symm)
 have nT:∀T,dX T n w [c.nm]:=fun T=>dX.cons h.nn (h.map.BL _) dX.nil
 have hmem:∀{m:List (Dg×Nat×Nm)} {p:Dg×Nat×Nm},p∈cF m d (b,q)→p=(d,b,q)∨p∈m:=by
  intro m
  induction m with
  |nil=>intro p hp;simp[cF] at hp;exact Or.inl hp
  |cons a m ih=>
   obtain⟨x,y⟩:=a
   intro p hp
   unfold cF at hp
   by_cases e:x=d
   ·rw[if_pos e] at hp
    rcases List.mem_cons.1 hp with hp|hp
    ·exact Or.inl (by rw[hp,e])
    ·exact Or.inr (List.mem_cons_of_mem _ hp)
   ·rw[if_neg e] at hp
    rcases List.mem_cons.1 hp with hp|hp
    ·exact Or.inr (by rw[hp];exact List.mem_cons_self)
    ·rcases ih hp with hp|hp
     ·exact Or.inl hp
     ·exact Or.inr (List.mem_cons_of_mem _ hp)
 exact⟨h.blk.kp hk (nb h.blk),h.tree.kp hk (nb h.tree.blk) (bP h.ne),h.pool.kp hk (nb h.pool.blk) (dN h.pool.own (nT _)) (nT _),hM,fun p hp=>(hmem hp).elim (fun e=>by rw[e];exact hN) (fun g=>h.nodes hk hS p g),h.tA,h.nA,h.ne,h.tn,h.nn,h.bn,Nat.le_trans h.w0 hk.size⟩
def lA(c:Cm):List Nat:=c.tb::c.tm::c.nm::c.pb::aP c.pv
structure fD(c:Cm)(H:Int):Prop where
 wf:c.tr.WF
 dep:c.tr.depth≤1000
 pool:dF 256 (c.ps.map Em.en)
 has:∀d,c.tr.has d=(aB c.ns d).isSome
 nd:∀d q,aB c.ns d=some q→0≤q.2.x.ht∧q.2.x.ht≤H∧(q.2.t.n:Int)≤64*q.2.x.ht
theorem fD.get{c:Cm}{H:Int}(h:fD c H){d:Dg}(hd:c.tr.has d=true):∃q,aB c.ns d=some q:=by
 rw[h.has] at hd
 exact Option.isSome_iff_exists.1 hd
theorem fD.tip{c:Cm}{H:Int}(h:fD c H):∃q,aB c.ns c.tr.tip=some q:=h.get h.wf.tip
end
section
def I7(w:World)(n:Nat)(A:List Nat)(tot:Int)(c:Cm)(nb:eA)(b:Bl)(w':World):Prop:=
 ∃pv' ps' z q,cL w' n A tot {c with pv:=pv',ps:=ps',tr:=c.tr.add (aQ b) b.par,ns:=cF c.ns (aQ b) (z,q)}∧q.x.b=b∧(∃p,aB c.ns b.par=some p∧eS nb b.ht b.mkr p.2.f p.2.t [] b.txs=(0,q.f,q.t,q.es))∧
  ps'.map Em.en=(if(c.tr.add (aQ b) b.par).tip=c.tr.tip then c.ps.map Em.en else HK (cF c.ns (aQ b) (z,q)) (c.tr.add (aQ b) b.par) (c.ps.map Em.en) c.tr.tip (c.tr.add (aQ b) b.par).tip)∧Kp (lA c) w w'∧(∀g,pv'.ownBlock=some g→c.pv.ownBlock=some g∨w.heap.size≤g)∧(∀b off,q.x.a=some ⟨b,off,none⟩→w.heap.size≤b)
def tq(w:World)(n:Nat)(A:List Nat)(tot:Int)(c:Cm)(nb:eA)(b:Bl)(e:Ending)(w':World):Prop:=
 e= .returned (.int .i64 (qy nb c b))∧(qy nb c b≠0∧cL w' n A tot c∧Kp (lA c) w w'∨qy nb c b=0∧I7 w n A tot c nb b w')
theorem tq.no{w:World}{n:Nat}{A:List Nat}{tot:Int}{c:Cm}{nb:eA}{b:Bl}{w':World}{z:Int}(h:cL w n A tot c)(hk:Kp [] w w')(hz:qy nb c b=z)(h0:z≠0):tq w n A tot c nb b (.returned (.int .i64 z)) w':=⟨by rw[hz],Or.inl ⟨by rw[hz];exact h0,h.ay hk,hk.any⟩⟩
theorem rN{nb:eA}{c:Cm}{b:Bl}(h:bD b≠0):qy nb c b=bD b:=by unfold qy;rw[if_pos h]
theorem om{nb:eA}{c:Cm}{b:Bl}{q:Nat×Nm}(h:bD b=0)(h1:aB c.ns (aQ b)=some q):qy nb c b=7:=by unfold qy;rw[if_neg (fun g=>g h),h1];rfl
theorem yz{nb:eA}{c:Cm}{b:Bl}(h:bD b=0)(h1:aB c.ns (aQ b)=none)(h2:aB c.ns b.par=none):qy nb c b=24:=by unfold qy;rw[if_neg (fun g=>g h),h1,h2];rfl
open Classical in
theorem xv{nb:eA}{c:Cm}{b:Bl}{q:Nat×Nm}(h:bD b=0)(h1:aB c.ns (aQ b)=none)(h2:aB c.ns b.par=some q):qy nb c b=if jr b q.2.x.b≠0 then jr b q.2.x.b else if(eS nb b.ht b.mkr q.2.f q.2.t [] b.txs).1≠0 then(eS nb b.ht b.mkr q.2.f q.2.t [] b.txs).1 else c.tr.addE (aQ b) b.par:=by
 unfold qy
 rw[if_neg (fun g=>g h),h1,h2]
 rfl
attribute [local irreducible] CG NG SG aK aI Row aF aE aM aR fl oM dot mc fq aQ bD jr eS qy oS
theorem nY{w:World}{n:Nat}{A:List Nat}{tot:Int}{c:Cm}(h:cL w n A tot c){H:Int}(ok:fD c H)(hH:H≤500)(ht:tot≤1000000000)(hA:∀a∈A,a<w.heap.size){base pm:Nat}{v:Value}{nb:eA}(hN:dm w base c.vb pm v nb){x:Bm}(hx:x.In n w):
  Calls Tryz.prog 27 #[.pointer (some ⟨c.cb,0,none⟩),iH x] w (tq w n A tot c nb x.b):=by
 refine bJ Tryz.func27 rfl Tryz.ntmps27 rfl ?_
 repeat apply aj
 refine SG.box rfl rfl rfl (ag rfl) (fun b3 w1 hk1 hb3 hB3=>?_)
 have hB3:aF w1 b3 (.cells (dq x).toArray 50):=hB3
 obtain⟨r,-⟩:=cE hB3
 repeat (first|apply aj|(apply ar;rfl;(first|apply iC|apply az|apply aD)<;>rfl))
 refine bG rfl ?_
 repeat (first|apply aj|(apply ar;rfl;apply bj<;>first|rfl|assumption|exact List.not_mem_nil|apply aJ))
 by_cases hz:bD x.b=0
 rotate_left
 ·have eo:oS x.b (aQ x.b)= .tuple #[dv zd,.int .i64 (bD x.b)]:=by unfold oS;rw[if_neg hz]
  have hnm:=fM (hx.ay hk1)
  rw[eo] at hnm
  refine SG.ret rfl rfl rfl (vs:=[iH x]) (bz.of rfl) hnm (fun w2 hk2=>?_)
  clear r
  repeat (apply ar;rfl;(first|apply az|apply dA)<;>rfl)
  refine SG.alloc rfl rfl rfl (fun b5 w3 hk3 hb5 hB5=>?_)
  refine SG.aN (l:=dc zd) rfl rfl (ag rfl) (ag rfl) hB5 (ah _) rfl (bu _) (fun w4 hk4 hB5=>?_)
  repeat (first|apply aj|(apply ar;rfl;(first|apply az|apply aD|apply dK)<;>first|rfl|(apply bN;first|assumption|omega)))
  refine bL rfl ?_
  repeat (first|apply aj|(apply ar;rfl;(first|apply az|apply aD)<;>rfl))
  refine aO (Or.inl rfl) Tryz.results27 (aC.tmp rfl) ?_
  exact tq.no h ((hk1.trans hk2).trans (hk3.ai hk4 (aV hb5))) (rN hz) hz
 have eo:oS x.b (aQ x.b)= .tuple #[dv (aQ x.b),.int .i64 0]:=by unfold oS;rw[if_pos hz]
 have hnm:=fM (hx.ay hk1)
 rw[eo] at hnm
 refine SG.ret rfl rfl rfl (vs:=[iH x]) (bz.of rfl) hnm (fun w2 hk2=>?_)
 clear r hnm eo
 repeat (apply ar;rfl;(first|apply az|apply dA)<;>rfl)
 refine SG.alloc rfl rfl rfl (fun b5 w3 hk3 hb5 hB5=>?_)
 refine SG.aN (l:=dc (aQ x.b)) rfl rfl (ag rfl) (ag rfl) hB5 (ah _) rfl (bu _) (fun w4 hk4 hB5=>?_)
 have k34:=hk3.ai hk4 (aV hb5)
 have k4:=(hk1.trans hk2).trans k34
 have hB3:=hB3.ay (hk2.trans k34)
 have q5:Row w4 b5 0 (dc (aQ x.b)):=Row.all hB5 rfl
 have h4:=h.ay k4
 obtain⟨-,-,-,-,-,-,r6⟩:=cM h4
 have hM:=h4.map
 repeat (first|apply aj|(apply ar;rfl;(first|apply az|apply aD|apply dK)<;>first|rfl|(apply bK;first|assumption|omega)))
 refine bG rfl ?_
 repeat apply aj
 cases hhas:aB c.ns (aQ x.b) with
 |some q0=>
  refine CG.eQ mixed [0,1,2,3,4,5,6,7,8,9,10] [] (by kernel_rfl) ?_
  repeat (apply bZ;rfl;rfl;(first|apply az|apply aD|apply bf|apply bj|apply aW|apply bM|apply lL|apply dA)<;>first|rfl|assumption|exact List.not_mem_nil|apply ah|exact kX (by assumption)|fail)
  refine aI.fin (fun w5 hk5 _ _=>?_)
  clear q5 r6 hM
  repeat (first|apply aj|(apply ar;rfl;apply az<;>rfl))
  refine bL rfl ?_
  repeat (first|apply aj|(apply ar;rfl;apply aD<;>rfl))
  refine aO (Or.inl rfl) Tryz.results27 (aC.tmp rfl) ?_
  exact tq.no h (k4.trans hk5) (om hz hhas) (by decide)
 |none=>
 refine CG.eQ mixed [0,1,2,3,4,5,6,7,8,9,10] [] (by kernel_rfl) ?_
 repeat (apply bZ;rfl;rfl;(first|apply az|apply aD|apply bf|apply bj|apply aW|apply bM|apply lL|apply dA)<;>first|rfl|assumption|exact List.not_mem_nil|apply ah|exact tv (by assumption)|fail)
 refine aI.fin (fun w5 hk5 _ _=>?_)
 repeat (first|apply aj|(apply ar;rfl;apply az<;>rfl))
 refine bG rfl ?_
 have k5:=k4.trans hk5
 have hB3:=hB3.ay hk5
 obtain⟨-,r0,-⟩:=cE hB3
 have h5:=h.ay k5
 have hM:=h5.map
 have r6:=r6.ay hk5
 clear q5
 repeat apply aj
 cases hpar:aB c.ns x.par with
 |none=>
  refine CG.eQ mixed [0,1,2,3,4,5,6,7,8,9,10,11] [] (by kernel_rfl) ?_
  repeat (apply bZ;rfl;rfl;(first|apply az|apply aD|apply bf|apply bj|apply aW|apply bM|apply lL|apply dA)<;>first|rfl|assumption|exact List.not_mem_nil|apply ah|exact tv (by assumption)|fail)
  refine aI.fin (fun w6 hk6 _ _=>?_)
  clear r0 r6 hM
  repeat (first|apply aj|(apply ar;rfl;(first|apply az|apply fZ)<;>rfl))
  refine bL rfl ?_
  repeat (first|apply aj|(apply ar;rfl;apply aD<;>rfl))
  refine aO (Or.inl rfl) Tryz.results27 (aC.tmp rfl) ?_
  exact tq.no h (k5.trans hk6) (yz hz hhas hpar) (by decide)
 |some q=>
 refine CG.eQ mixed [0,1,2,3,4,5,6,7,8,9,10,11] [] (by kernel_rfl) ?_
 repeat (apply bZ;rfl;rfl;(first|apply az|apply aD|apply bf|apply bj|apply aW|apply bM|apply lL|apply dA)<;>first|rfl|assumption|exact List.not_mem_nil|apply ah|exact kX (by assumption)|fail)
 refine aI.fin (fun w6 hk6 _ _=>?_)
 clear r0 r6 hM
 have ead:=xv (nb:=nb) hz hhas hpar
 repeat (first|apply aj|(apply ar;rfl;(first|apply az|apply fZ)<;>rfl))
 refine bG rfl ?_
 have k6:=k5.trans hk6
 have hB3:=hB3.ay hk6
 obtain⟨r,-⟩:=cE hB3
 have hQ:=(h.Ak hpar).ay k6
 obtain⟨-,-,t3,-⟩:=eY hQ.blk
 obtain⟨o1,o2,o3⟩:=ok.nd _ _ hpar
 repeat apply aj
 refine CG.tail mixed 5 [0,1,2,3,4] (by kernel_rfl) ?_
 repeat (apply bZ;rfl;rfl;(first|apply az|apply bj|apply aW|apply bM)<;>first|rfl|assumption|exact List.not_mem_nil|apply aJ)
 refine aI.tl (fun w7 hk7 _ _=>?_)
 refine SG.ret rfl rfl rfl (vs:=[iH x,iH q.2.x]) (bz.of rfl) (vc ((hx.ay k6).ay hk7) (hQ.ay hk7).x (by omega)) (fun w8 hk8=>?_)
 clear r t3
 have k8:=(k6.trans hk7).trans hk8
 by_cases hc:jr x.b q.2.x.b=0
 rotate_left
 ·rw[if_pos hc] at ead
  repeat (first|apply aj|(apply ar;rfl;(first|apply az|apply aD|apply dK)<;>first|rfl|(apply bN;first|assumption|omega)))
  refine bL rfl ?_
  repeat (first|apply aj|(apply ar;rfl;(first|apply az|apply aD)<;>rfl))
  refine aO (Or.inl rfl) Tryz.results27 (aC.tmp rfl) ?_
  exact tq.no h k8 ead hc
 rw[if_neg (fun g=>g hc)] at ead
 rw[hc]
 repeat (first|apply aj|(apply ar;rfl;(first|apply az|apply aD|apply dK)<;>first|rfl|(apply bK;first|assumption|omega)))
 refine bG rfl ?_
 have hB3:=(hB3.ay hk7).ay hk8
 have hQ:=(hQ.ay hk7).ay hk8
 obtain⟨r,-⟩:=cE hB3
 obtain⟨t0,-⟩:=eY hQ.blk
 obtain⟨m,hm,hi⟩:=hQ.book
 repeat apply aj
 refine CG.dM mixed 6 [0,1,2,3,5,4] [4] [] (fun _=>True) (by kernel_rfl) trivial (fun _ _ _ _=>trivial) ?_
 repeat (apply bZ;rfl;rfl;(first|apply az|apply bj|apply aW|apply bM)<;>first|rfl|assumption|exact List.not_mem_nil|apply aJ)
 refine aI.kl (X:=Nat×Nat×Nat×Bk) (vs:=[DD q.2.bk q.2.tb (.slice q.2.ae q.2.es.length q.2.ce)]) (fun z=>DD z.1 z.2.2.1 (.slice none 0 0)) (fun z W=>(bS W z.1 z.2.1 z.2.2.2∧z.2.2.2.Perm m∧il W z.2.2.1 q.2.t)∧w8.heap.size≤z.1∧w8.heap.size≤z.2.1∧w8.heap.size≤z.2.2.1) rfl rfl rfl rfl (bz.of rfl) (fun z W W' hk h=>⟨⟨h.1.1.ay hk,h.1.2.1,h.1.2.2.ay hk⟩,h.2⟩) (fun _ _ _ h=>h) (fun W hk _=>(ri (hm.ay hk) (hQ.app.ay hk)).mono (fun e W' hh=>?_)) (fun z=>?_)
 ·obtain⟨bk',bm',tb',m',rfl,hB',hp',hT',g1,g2,g3,hk'⟩:=hh
  have:=hk.size
  exact⟨(bk',bm',tb',m'),rfl,⟨⟨hB',hp',hT'⟩,Nat.le_trans this g1,Nat.le_trans this g2,Nat.le_trans this g3⟩,hk'⟩
 obtain⟨bk0,hG,tb0,m0⟩:=z
 refine aI.tl (fun w9 hk9 hF _=>?_)
 obtain⟨-,⟨hB9,hp9,hT9⟩,g1,g2,g3⟩:=hF
 simp only at hB9 hp9 hT9 g1 g2 g3
 have k9:=k8.trans hk9
 refine SG.call rfl rfl rfl (vs:=[iH x]) (bz.of rfl) ((lC (hx.ay k9)).mono (fun e w10 hh=>?_))
 obtain⟨y,hy,rfl,hY,hk10,hyn⟩:=hh
 have hyn:∀b off,y.a=some ⟨b,off,none⟩→w.heap.size≤b:=fun b off e=>Nat.le_trans k9.size (hyn b off e)
 refine⟨_,rfl,?_⟩
 refine SG.val rfl rfl rfl rfl (aG rfl (QN bk0 tb0 y)) ?_
 clear r t0
 refine SG.box rfl rfl rfl (ag rfl) (fun b12 wT hkT hb12 hB12=>?_)
 have hB12:aF wT b12 (.cells (xW bk0 tb0 (.slice none 0 0) y (.slice none 0 0)).toArray 118):=hB12
 have kT:=(k9.trans hk10).trans hkT
 have k89:=(hk9.trans hk10).trans hkT
 have hY:=hY.ay hkT
 have hB9:=(hB9.ay hk10).ay hkT
 have hT9:=(hT9.ay hk10).ay hkT
 have l12:=hB12.lt
 have lm0:=hB9.map.lt
 have s8:=k8.size
 have s89:=k89.size
 have s910:=(hk9.trans hk10).size
 have hB3T:=hB3.ay k89
 have l3:=hB3.lt
 obtain⟨u20,u21⟩:=um hB12
 have hi0:jM tot (xV q.2) m0 q.2.f:=hi.perm hp9
 have J0:An wT b12 hG y tot (xV q.2) 0 bk0 hG tb0 m0 q.2.f q.2.t (.slice none 0 0) [] (.slice none 0 0) wT:=
  ⟨Kp.refl _ _,⟨hB12,hB9,hT9⟩,Or.inl rfl,hi0,by unfold xV;omega,dR,rfl,dR⟩
 have hb5:aF wT b5 (.cells (dc (aQ x.b)).toArray 47):=(hB5.ay ((hk5.trans hk6).trans (hk7.trans hk8))).ay k89
 have l5:b5<w8.heap.size:=((hB5.ay ((hk5.trans hk6).trans (hk7.trans hk8)))).lt
 have hyl:=hY.len
 have hyt:y.xs.map (·.t)=x.b.txs:=by rw[←hy];rfl
 repeat (first|apply aj|(apply ar;rfl;(first|apply az|apply aD|apply bf|apply aW|apply bM|apply dy)<;>first|rfl|assumption|exact List.not_mem_nil))
 refine CG.loop (X:=Nat×(Nat×Nat×Nat×Bk)×(Fb×Tl×List Int)×(Value×Value)) (fun z=>[(0,.pointer (some ⟨c.cb,0,none⟩)),(3,.pointer (some ⟨b3,0,none⟩)),(5,.pointer (some ⟨b5,0,none⟩)),(12,.pointer (some ⟨b12,0,none⟩)),(74,.slice y.a y.xs.length y.c),(75,.int .i64 (y.xs.length:Int)),(76,.int .i64 (z.1:Int))])
  (fun z W=>z.1≤y.xs.length∧An wT b12 hG y tot (xV q.2) z.1 z.2.1.1 z.2.1.2.1 z.2.1.2.2.1 z.2.1.2.2.2 z.2.2.1.1 z.2.2.1.2.1 z.2.2.2.1 z.2.2.1.2.2 z.2.2.2.2 W∧eS nb x.b.ht x.b.mkr q.2.f q.2.t [] x.b.txs=eS nb x.b.ht x.b.mkr z.2.2.1.1 z.2.2.1.2.1 z.2.2.1.2.2 ((y.xs.drop z.1).map (·.t)))
  (fun z=>y.xs.length-z.1) (0,(bk0,hG,tb0,m0),(q.2.f,q.2.t,[]),(.slice none 0 0,.slice none 0 0)) ⟨Nat.zero_le _,J0,by rw[←hyt];rfl⟩ (aS.of rfl) ?_
 rintro⟨i,⟨bk,bm,tb,mm⟩,⟨f,t,es⟩,⟨va,vn⟩⟩ W ⟨hi',J,hrun⟩
 simp only at hi' J hrun
 refine CG.to [(0,.pointer (some ⟨c.cb,0,none⟩)),(3,.pointer (some ⟨b3,0,none⟩)),(5,.pointer (some ⟨b5,0,none⟩)),(12,.pointer (some ⟨b12,0,none⟩)),(74,.slice y.a y.xs.length y.c),(75,.int .i64 (y.xs.length:Int)),(76,.int .i64 (i:Int))] (aS.of rfl) ?_
 clear u20 u21 J0
 have s1:=hk1.size
 have kW:Kp [] w W:=kT.ai J.kp (fun z hz=>by
  simp only[List.mem_cons,List.mem_nil_iff,or_false] at hz
  exact Or.inr (by omega))
 have hO:dh 0 wT [b12,hG]:=dh.cons (Nat.zero_le _) (dh.cells hB12 (by decide)) (dh.cons (Nat.zero_le _) (hB9.map.BL _) dh.nil)
 have hNx:dX 52 0 wT [b12,hG]:=dX.cons (Nat.zero_le _) (dX.cells hB12 (by decide)) (dX.cons (Nat.zero_le _) (hB9.map.BL _) dX.nil)
 have hYW:y.In 0 W:=⟨hY.tx.kp J.kp hO hNx,hyl⟩
 have hB3W:=hB3T.kp J.kp (fG (by omega) (by omega))
 have hB5W:=hb5.kp J.kp (fG (by omega) (by omega))
 have sW:=J.kp.size
 have hbig:xV q.2≤300000:=by unfold xV;omega
 have hy64:y.xs.length≤64:=by
  have:=nE hz
  rw[←hyt,List.length_map] at this
  exact this
 by_cases hlt:i<y.xs.length
 rotate_left
 ·have ei:i=y.xs.length:=by omega
  have g1':¬(i:Int)<(y.xs.length:Int):=by omega
  rw[List.drop_eq_nil_of_le (by omega),List.map_nil,Bf] at hrun
  rw[hrun,if_neg (fun g=>g rfl)] at ead
  subst ei
  have hel:=J.el
  obtain⟨ae,ce,rfl⟩:=gF J.oa
  obtain⟨an,cn,rfl⟩:=gF J.on
  obtain⟨qn,hqn⟩:∃qn:Nm,qn=⟨bk,bm,tb,f,t,ae,ce,es,y,an,cn⟩:=⟨_,rfl⟩
  have hW:=h.ay kW
  have hxW:=hx.ay kW
  have hnm:y.xs.take y.xs.length=y.xs:=List.take_of_length_le (Nat.le_refl _)
  have hbm:w.heap.size≤bm:=J.bm.elim (fun e=>by omega) (fun g=>by have:=kT.size;omega)
  have hyht:y.ht=q.2.x.ht+1:=by
   have h1:y.ht=x.b.ht:=by rw[←hy];rfl
   rw[h1]
   exact xg hc
  have hNd:iV W n A tot b12 qn:=by
   rw[hqn]
   refine⟨J.st.blk,⟨mm,J.st.book,J.bi.mono ?_⟩,fun hm=>absurd (hA _ hm) (by show ¬bm<_;omega),Nat.le_trans h.w0 hbm,J.st.app,?_,Or.inl (Ty.own J.oa),⟨⟨hYW.tx.sl,hYW.tx.tg.elim Or.inl (fun g=>Or.inr (fun b off e=>Nat.lt_of_lt_of_le (g b off e) (Nat.zero_le _))),fun z hz=>(hYW.tx.ins z hz).mono (Nat.zero_le _)⟩,hyl⟩,?_,Or.inl ?_,hel⟩
   ·unfold xV
    simp only
    rw[hyht]
    omega
   ·obtain⟨a,c',e,-,hs⟩:=Sl.own (enc:=tt) (sz:=1) (fun _=>rfl) J.oa rfl
    cases e
    exact hs
   ·obtain⟨a,c',e,-,hs⟩:=Sl.own ah J.on (by rw[List.length_map,hnm])
    cases e
    rw[hnm] at hs
    exact hs
   ·exact Ty.own J.on
  have q5:Row W b5 0 (dc (aQ x.b)):=Row.all hB5W rfl
  obtain⟨-,-,-,-,t3,-,-⟩:=cM hW
  repeat (first|apply aj|(apply ar;rfl;apply cG<;>first|rfl|(apply bN;first|assumption|omega)))
  refine bG rfl ?_
  repeat (first|apply aj|(apply ar;rfl;(first|apply az|apply bf|apply aW|apply bM)<;>first|rfl|assumption|exact List.not_mem_nil))
  refine SG.ret rfl rfl rfl (vs:=[.pointer (some ⟨c.tb,0,none⟩)]) (bz.of rfl) (kH hW.tree) (fun W1 hk1'=>?_)
  refine SG.alloc rfl rfl rfl (fun b17 W2 hk2' hb17 hB17=>?_)
  refine SG.aN (l:=dc c.tr.tip) rfl rfl (ag rfl) (ag rfl) hB17 (ah _) rfl (bu _) (fun W3 hk3' hB17=>?_)
  have kW3:=hk1'.trans (hk2'.ai hk3' (aV hb17))
  have q5:=q5.ay kW3
  have t3:=t3.ay kW3
  obtain⟨-,r0,-⟩:=cE (hB3W.ay kW3)
  repeat apply aj
  refine CG.tail mixed 7 [0,1,2,3,4,5,6] (by kernel_rfl) ?_
  repeat (apply bZ;rfl;rfl;(first|apply az|apply bf|apply bj|apply aW|apply bM)<;>first|rfl|assumption|exact List.not_mem_nil|apply ah)
  refine aI.tl (fun W4 hk4' _ _=>?_)
  have kW4:=kW3.trans hk4'
  have hW4:=hW.ay kW4
  refine SG.call rfl rfl rfl (vs:=[.pointer (some ⟨c.tb,0,none⟩),dv (aQ x.b),dv x.par]) (bz.of rfl) ((zA hW4.tree (fun e=>eB hW4.tree.blk hW4.tree.map e.symm) ok.wf ok.dep (aQ x.b) x.par).mono (fun e W5 hh=>?_))
  obtain⟨rfl,hT5,hk5'⟩:=hh
  refine⟨_,rfl,?_⟩
  have hC5:=hW4.HG hk5' hT5
  have k05:Kp (lA c) w W5:=(kW.trans kW4).any.trans (hk5'.mono (fun z hz=>by
   simp only[List.mem_cons,List.mem_nil_iff,or_false] at hz
   rcases hz with rfl|rfl
   ·exact .head _
   ·exact .tail _ (.head _)))
  clear q5 t3 r0
  by_cases hae:c.tr.addE (aQ x.b) x.par=0
  rotate_left
  ·have et:c.tr.add (aQ x.b) x.par=c.tr:=by unfold Tr.add;rw[if_neg hae]
   rw[et] at hC5
   repeat (first|apply aj|(apply ar;rfl;(first|apply az|apply aD|apply dK)<;>first|rfl|(apply bN;first|assumption|omega)))
   refine bL rfl ?_
   repeat (first|apply aj|(apply ar;rfl;(first|apply az|apply aD)<;>rfl))
   refine aO (Or.inl rfl) Tryz.results27 (aC.tmp rfl) ?_
   exact⟨by rw[ead];rfl,Or.inl ⟨by rw[ead];exact hae,hC5,k05⟩⟩
  rw[hae]
  have eadd:c.tr.add (aQ x.b) x.par=c.tr.put (aQ x.b) x.par:=by unfold Tr.add;rw[if_pos hae]
  have hstep:=qm ok.wf (aQ x.b) x.par
  have lt1:=h.tree.blk.lt
  have lt2:=h.tree.map.lt
  have lt3:=h.map.lt
  have l51:=hb5.lt
  have hb5w:w.heap.size≤b5:=by have:=hk2.size;omega
  have q5:Row W5 b5 0 (dc (aQ x.b)):=Row.all ((hB5W.ay kW4).kp hk5' (fG (by omega) (by omega))) rfl
  have hN5:iV W5 n A tot b12 qn:=(hNd.ay kW4).kp hk5' hW4.Oj (fun _ hz=>hz) (by decide) ((hNd.ay kW4).x.mn hk5' hW4.Oj (by decide) (by decide))
  have hM5:=hC5.map
  obtain⟨-,-,-,-,-,-,r6⟩:=cM hC5
  repeat (first|apply aj|(apply ar;rfl;(first|apply az|apply aD|apply dK)<;>first|rfl|(apply bK;first|assumption|omega)))
  refine bG rfl ?_
  repeat apply aj
  refine CG.tail mixed 6 [0,1,2,3,4,5] (by kernel_rfl) ?_
  repeat (apply bZ;rfl;rfl;(first|apply az|apply bf|apply bj|apply aW|apply bM)<;>first|rfl|assumption|exact List.not_mem_nil|apply ah)
  refine aI.tl (fun W6 hk6' _ _=>?_)
  refine SG.mapUpdate (enc:=dv (n:=8)) (V:=Du) (kx:=aQ x.b) (vy:=(b12,qn)) rfl rfl (ag rfl) (ag rfl) (ag rfl) (hM5.ay hk6') gr.key (fun W7 hk7' hM7=>?_)
  have hC6:=hC5.ay hk6'
  have hS7:dt n CT A W6 [c.nm]:=dt.map h.nn hC6.map h.nA
  have hN6:=hN5.ay hk6'
  have hN7:iV W7 n A tot b12 qn:=hN6.kp hk7' hS7 (fun _ hz=>hz) (by decide) (hN6.x.mn hk7' hS7 (by decide) (by decide))
  have hC7:=hC6.ins (c:={c with tr:=c.tr.add (aQ x.b) x.par}) hk7' hM7 hN7
  have k07:Kp (lA c) w W7:=(k05.trans hk6'.any).trans (hk7'.mono (fun z hz=>by rw[List.mem_singleton] at hz;rw[hz];exact .tail _ (.tail _ (.head _))))
  have t3:Row W7 c.cb 12 [.pointer (some ⟨c.tb,0,none⟩)]:=(cM hC7).2.2.2.2.1
  have hT7:cj W7 c.tb c.tm (c.tr.add (aQ x.b) x.par):=hC7.tree
  clear q5 r6 hM5
  repeat (first|apply aj|(apply ar;rfl;(first|apply az|apply bf|apply aW|apply bM)<;>first|rfl|assumption|exact List.not_mem_nil))
  refine SG.ret rfl rfl rfl (vs:=[.pointer (some ⟨c.tb,0,none⟩)]) (bz.of rfl) (kH hT7) (fun W8 hk8'=>?_)
  refine SG.alloc rfl rfl rfl (fun b19 W9 hk9' hb19 hB19=>?_)
  refine SG.aN (l:=dc (c.tr.add (aQ x.b) x.par).tip) rfl rfl (ag rfl) (ag rfl) hB19 (ah _) rfl (bu _) (fun W10 hk10' hB19=>?_)
  have k710:=hk8'.trans (hk9'.ai hk10' (aV hb19))
  have hC10:=hC7.ay k710
  have k10:=k07.trans k710.any
  have r19:Row W10 b19 0 (dc (c.tr.add (aQ x.b) x.par).tip):=Row.all hB19 rfl
  have l17:=hB17.lt
  have s34:=hk4'.size
  have hb17w:w.heap.size≤b17:=by have:=kW.size;have:=hk1'.size;omega
  have r17:Row W10 b17 0 (dc c.tr.tip):=Row.all (((((hB17.ay hk4').kp hk5' (fG (by omega) (by omega))).ay hk6').kp hk7' (bP (by show b17≠c.nm;omega))).ay k710) rfl
  clear t3
  by_cases htip:(c.tr.add (aQ x.b) x.par).tip=c.tr.tip
  ·repeat (first|apply aj|(apply ar;rfl;(first|apply bj|apply xM)<;>first|rfl|assumption|(apply bK;first|assumption|omega)|exact List.not_mem_nil|apply ah))
   refine bG rfl ?_
   repeat (first|apply aj|(apply ar;rfl;apply aD<;>rfl))
   refine aO (Or.inl rfl) Tryz.results27 (aC.tmp rfl) ?_
   exact⟨by rw[ead];exact hae▸rfl,Or.inr ⟨ead.trans hae,c.pv,c.ps,b12,qn,hC10,by rw[hqn];exact hy,⟨q,hpar,by rw[hqn];exact hrun⟩,(if_pos htip).symm,k10,fun g hg=>Or.inl hg,by rw[hqn];exact hyn⟩⟩
  have hty:∀{d:Dg},(c.tr.add (aQ x.b) x.par).has d=true→∃z,aB (cF c.ns (aQ x.b) (b12,qn)) d=some z:=fun{d} hd=>by
   rw[eadd,fw,Bool.or_eq_true] at hd
   rw[bR]
   by_cases e:aQ x.b=d
   ·exact⟨_,if_pos e⟩
   ·rw[if_neg e]
    exact ok.get (hd.resolve_left (by simpa using e))
  have wf':=hstep.1
  have hold:(c.tr.add (aQ x.b) x.par).has c.tr.tip=true:=hstep.2.2.2.1
  repeat (first|apply aj|(apply ar;rfl;(first|apply bj|apply xM)<;>first|rfl|assumption|(apply bN;first|assumption|omega)|exact List.not_mem_nil|apply ah))
  refine bL rfl ?_
  repeat (first|apply aj|(apply ar;rfl;(first|apply az|apply bj)<;>first|rfl|assumption|exact List.not_mem_nil|apply ah))
  refine SG.call rfl rfl rfl (vs:=[.pointer (some ⟨c.cb,0,none⟩),dv c.tr.tip,dv (c.tr.add (aQ x.b) x.par).tip]) (bz.of rfl) ((qD hC10 wf' ok.pool hold wf'.tip (AP wf' hold) (AP wf' wf'.tip) (fun d hd=>hty (xA wf' hold hd)) (fun d hd=>hty (xA wf' wf'.tip hd))).mono (fun e W11 hh=>?_))
  obtain⟨rfl,pv',ps',hC11,hps,hk11,hg11,-⟩:=hh
  refine⟨_,rfl,?_⟩
  clear r19 r17
  repeat (first|apply aj|(apply ar;rfl;apply aD<;>rfl))
  refine aO (Or.inl rfl) Tryz.results27 (aC.tmp rfl) ?_
  refine⟨by rw[ead];exact hae▸rfl,Or.inr ⟨ead.trans hae,pv',ps',b12,qn,hC11,by rw[hqn];exact hy,⟨q,hpar,by rw[hqn];exact hrun⟩,hps.trans (if_neg htip).symm,k10.trans (hk11.mono (fun z hz=> .tail _ (.tail _ (.tail _ hz)))),fun g hg=>(hg11 g hg).elim Or.inl (fun e=>Or.inr (Nat.le_trans k10.size e)),by rw[hqn];exact hyn⟩⟩
 have g1':(i:Int)<(y.xs.length:Int):=by omega
 have hS:=hYW.tx.sl
 have hxi:=hYW.tx.ins _ (List.getElem_mem hlt)
 rw[List.drop_eq_getElem_cons hlt,List.map_cons] at hrun
 generalize hya:y.a=ya at*
 obtain⟨ba,off,rfl,hrow⟩:=hS.at hlt
 repeat (first|apply aj|(apply ar;rfl;apply cG<;>first|rfl|(apply bK;first|assumption|omega)))
 refine bL rfl ?_
 repeat (first|apply aj|(apply ar;rfl;(first|apply bj|apply fv)<;>first|rfl|(apply Ar.mk;omega)|assumption|exact List.not_mem_nil|apply au))
 refine SG.alloc rfl rfl rfl (fun b14 W1 hk1' hb14 hB14=>?_)
 refine SG.aN (l:=bV y.xs[i]) rfl rfl (ag rfl) (ag rfl) hB14 (au _) rfl (cC _) (fun W2 hk2' hB14=>?_)
 have kW2:=hk1'.ai hk2' (aV hb14)
 have q14:Row W2 b14 0 (bV y.xs[i]):=Row.all hB14 rfl
 obtain⟨-,-,t3,-⟩:=cM (h.ay (kW.trans kW2))
 clear hrow
 repeat apply aj
 refine CG.tail mixed 5 [0,1,2,3,4] (by kernel_rfl) ?_
 repeat (apply bZ;rfl;rfl;(first|apply az|apply bf|apply bj|apply aW|apply bM)<;>first|rfl|assumption|exact List.not_mem_nil|apply au)
 refine aI.tl (fun W3 hk3' _ _=>?_)
 have kW3:=kW2.trans hk3'
 refine SG.ret rfl rfl rfl (vs:=[eR y.xs[i],.iface 40 (.pointer (some ⟨c.vb,0,none⟩))]) (bz.of rfl) (mj (hN.ay (kW.trans kW3)) (hxi.ay kW3)) (fun W4 hk4'=>?_)
 have kW4:=kW3.trans hk4'
 have hB14:=(hB14.ay hk3').ay hk4'
 clear q14 t3
 by_cases hv:fl nb y.xs[i].t=0
 rotate_left
 ·rw[hrun,tW hv,if_pos hv] at ead
  repeat (first|apply aj|(apply ar;rfl;(first|apply az|apply aD|apply dK)<;>first|rfl|(apply bN;first|assumption|omega)))
  refine bL rfl ?_
  repeat (first|apply aj|(apply ar;rfl;(first|apply az|apply aD)<;>rfl))
  refine aO (Or.inl rfl) Tryz.results27 (aC.tmp rfl) ?_
  exact tq.no h (kW.trans kW4) ead hv
 rw[hv]
 have J4:=J.ay kW4
 have q14:Row W4 b14 0 (bV y.xs[i]):=Row.all hB14 rfl
 obtain⟨-,-,r1,r2,-⟩:=cE (hB3W.ay kW4)
 repeat (first|apply aj|(apply ar;rfl;(first|apply az|apply aD|apply dK)<;>first|rfl|(apply bK;first|assumption|omega)))
 refine bG rfl ?_
 repeat apply aj
 refine CG.tail mixed 8 [0,1,2,3,4,5,6,7] (by kernel_rfl) ?_
 repeat (apply bZ;rfl;rfl;(first|apply az|apply bf|apply bj|apply aW|apply bM)<;>first|rfl|assumption|exact List.not_mem_nil|apply ah|apply au)
 refine aI.tl (fun W5 hk5' _ _=>?_)
 have kW5:=kW4.trans hk5'
 have J5:=J4.ay hk5'
 have hel:=J.el
 have htn:=J.tn
 refine SG.call rfl rfl rfl (vs:=[.pointer (some ⟨b12,0,none⟩),.int .i64 x.ht,dv x.mkr,eR y.xs[i]]) (bz.of rfl) ((yl (n0:=0) J5.st J5.bi ht J5.oa J5.kp.size (Nat.zero_le _) (by omega) (by decide) (by decide) (by decide) (hxi.ay kW5) x.ht x.mkr (by omega)).mono (fun e W6 hh=>?_))
 obtain⟨bk2,bm2,tb2,va2,m2,rfl,hst6,hbi6,hoa6,hk6',hbm6,hva6⟩:=hh
 refine⟨_,rfl,?_⟩
 clear q14 r1 r2
 by_cases hp:fq f y.xs[i].t=0
 rotate_left
 ·rw[hrun,tX hv hp,if_pos hp] at ead
  repeat (first|apply aj|(apply ar;rfl;(first|apply az|apply aD|apply dK)<;>first|rfl|(apply bN;first|assumption|omega)))
  refine bL rfl ?_
  repeat (first|apply aj|(apply ar;rfl;(first|apply az|apply aD)<;>rfl))
  refine aO (Or.inl rfl) Tryz.results27 (aC.tmp rfl) ?_
  refine tq.no h ((kW.trans kW5).ai hk6' (fun z hz=>Or.inr ?_)) ead hp
  rcases J5.sub z hz with g|g
  ·simp only[List.mem_cons,List.mem_nil_iff,or_false] at g
   omega
  ·have:=kT.size
   omega
 have hB14:aF W6 b14 (.cells (bV y.xs[i]).toArray 52):=(hB14.ay hk5').kp hk6' ((J5.no (by decide) (by decide)).nb (hB14.ay hk5'))
 have q14:Row W6 b14 0 (bV y.xs[i]):=Row.all hB14 rfl
 have hxi6:y.xs[i].In 0 W6:=(hxi.ay kW5).gd hk6' (J5.no (by decide) (by decide))
 have ho6:=bW J5.on hk6' (dN J5.on (J5.no (by decide) (by decide)))
 obtain⟨-,u21⟩:=um (bk:=bk2) (tb:=tb2) (va:=va2) (y:=y) (vn:=vn) hst6.blk
 have hSl:∀z∈aP vn,z<W6.heap.size:=fun z hz=>cD ho6 z (aH hz)
 have n12:b12∉aP vn:=(dX.own ho6 (Nat.zero_le _) (by decide)).nb hst6.blk
 have n14:b14∉aP vn:=(dX.own ho6 (Nat.zero_le _) (by decide)).nb hB14
 have s6:=hk6'.size
 have s05:=kW5.size
 rw[hp]
 repeat (first|apply aj|(apply ar;rfl;(first|apply az|apply aD|apply dK)<;>first|rfl|(apply bK;first|assumption|omega)))
 refine bG rfl ?_
 repeat apply aj
 refine CG.dM mixed 9 [0,1,2,3,4,5,6,7,8] [7,8] (aP vn) (fun W=>W.ownsRow wT.heap.size 47 8 vn i (bO dc ((y.xs.take i).map (fun x=>aR x.t)))) (by kernel_rfl) ho6 (fun _ _ hk h=>aT h hk) ?_
 repeat (apply bZ;rfl;rfl;(first|apply az|apply bf|apply bj|apply aW|apply bM)<;>first|rfl|assumption|apply au)
 refine aI.call rfl rfl rfl (vs:=[eR y.xs[i]]) (bz.of rfl) (fun W hk _=>iP (hxi6.gd hk (dX.own ho6 (Nat.zero_le _) (by decide)))) ?_
 refine aI.jt (cs:=(dc (aR y.xs[i].t)).toArray) (E:=47) rfl rfl rfl rfl rfl (fun W=>E3 _ W) hSl (fun W W' hk h=>trivial) (fun _ _ hk h=>aT h hk) (fun bn=>?_)
 apply aI.jy (P:=Tryz.prog) (t:=93) (base:=wT.heap.size) (e:=47) (i:=Tryz.t47) (f:=ty.i47) (v:=vn) (nn:=i) (xs:=bO dc ((y.xs.take i).map (fun x=>aR x.t))) (b:=bn) (off:=0) (m:=1) (c:=1) (news:=dc (aR y.xs[i].t))
 iterate 4 exact rfl
 iterate 2 exact ag rfl
 iterate 3 exact rfl
 ·exact fun W hk hF=>Row.all hF.2.2 rfl
 ·rw[ah];rfl
 ·exact bu _
 ·simp only[maxLen];omega
 ·show(i+1)*8≤_;omega
 ·omega
 ·exact fun _ h=>h
 ·exact fun W W' hk hF=>⟨trivial,hF.2.1,hF.2.2.kp hk (fun hm=>by have:=hSl _ hm;have:=hF.2.1;omega)⟩
 intro v7
 refine aI.tl (fun W7 hk7' hF ho7=>?_)
 have ho7:W7.ownsRow wT.heap.size 47 8 v7 (i+1) (bO dc ((y.xs.take (i+1)).map (fun x=>aR x.t))):=by
  rw[List.map_take,take_one (fun x:Tm=>aR x.t) hlt,dx,gp,←List.map_take]
  exact ho7
 obtain⟨a7,c7,rfl⟩:=gF ho7
 have hB7:=hst6.blk.kp hk7' n12
 clear q14 u21
 repeat (apply ar;rfl;(first|apply aW|apply bM)<;>rfl)
 refine SG.cr (rK bk2 tb2 va2++dq y) [vn] [] rfl rfl (ag rfl) (ag rfl) hB7 (Eu _ _ _ _ _) rfl rfl (Et _ _ _ _) rfl (fun W8 hk8' hB8=>?_)
 have hB8:aF W8 b12 (.cells (xW bk2 tb2 va2 y (.slice a7 (i+1) c7)).toArray 118):=by
  rw[←BR bk2 tb2 va2 y (.slice a7 (i+1) c7)]
  exact hB8
 rw[rZ hv hp] at hrun
 repeat (first|apply aj|(apply ar;rfl;(first|apply az|apply dG)<;>first|rfl|(apply Ar.mk;omega)))
 refine NG.round (i+1,(bk2,bm2,tb2,m2),(oM f x.mkr y.xs[i].t,dot t f x.ht x.mkr y.xs[i].t,mc es f x.mkr y.xs[i].t),(va2,.slice a7 (i+1) c7)) (aS.of rfl) ⟨hlt,J5.did hlt rfl hp hst6 hbi6 hoa6 hk6' hbm6 hk7' ho7 hk8' hB8,hrun⟩ (by simp only;omega)
end
section
def fS(l:List Ac):Int:=(l.map (·.money)).sum
theorem nQ(e:Ac)(l:List Ac):fS (e::l)=e.money+fS l:=by simp[fS]
def SN(l:List Ac)(k:Dg):Pu:=match l.find? (fun e=>decide (e.key=k)) with
 |some e=>⟨e.money,e.nonce⟩
 |none=>pz
theorem uk:∀{l:List Ac} {ks:List Dg} {s:Int},(∀e∈l,¬oV e)→(l.map (·.key)).Nodup→(∀e∈l,e.key∉ks)→s+fS l≤1125899906842624→iN ks s l=0
 |[],ks,s,_,_,_,h=>by
  simp only[fS,List.map_nil,List.sum_nil] at h
  simp only[iN]
  rw[if_neg (by omega)]
 |e::l,ks,s,h1,h2,h3,h4=>by
  rw[nQ] at h4
  rw[List.map_cons,List.nodup_cons] at h2
  simp only[iN]
  rw[if_neg (h1 e (by simp)),if_neg (h3 e (by simp))]
  refine uk (fun x hx=>h1 x (by simp[hx])) h2.2 (fun x hx hm=>?_) (by omega)
  rcases List.mem_cons.1 hm with h|h
  ·exact h2.1 (List.mem_map.2 ⟨x,hx,h⟩)
  ·exact h3 x (by simp[hx]) h
theorem lO:∀{l:List Ac} {ks:List Dg} {s:Int},iN ks s l=0→(∀e∈l,¬oV e)∧(l.map (·.key)).Nodup∧(∀e∈l,e.key∉ks)∧s+fS l≤1125899906842624
 |[],ks,s,h=>by
  simp only[iN] at h
  refine⟨by simp,by simp,by simp,?_⟩
  simp only[fS,List.map_nil,List.sum_nil]
  split at h
  ·cases h
  ·omega
 |e::l,ks,s,h=>by
  simp only[iN] at h
  split at h
  ·cases h
  ·rename_i hb
   split at h
   ·cases h
   ·rename_i hk
    obtain⟨a1,a2,a3,a4⟩:=lO h
    refine⟨fun x hx=>?_,?_,fun x hx=>?_,by rw[nQ];omega⟩
    ·rcases List.mem_cons.1 hx with rfl|hx
     ·exact hb
     ·exact a1 x hx
    ·rw[List.map_cons,List.nodup_cons]
     refine⟨fun hm=>?_,a2⟩
     obtain⟨x,hx,he⟩:=List.mem_map.1 hm
     exact a3 x hx (by rw[he];simp)
    ·rcases List.mem_cons.1 hx with rfl|hx
     ·exact hk
     ·exact fun hm=>a3 x hx (by simp[hm])
theorem ua:∀{l:List Ac} {m:Bk},(l.map (·.key)).Nodup→∀k,cg (iD m l) k=match l.find? (fun e=>decide (e.key=k)) with
  |some e=>⟨e.money,e.nonce⟩
  |none=>cg m k
 |[],m,_,k=>rfl
 |e::l,m,h,k=>by
  rw[List.map_cons,List.nodup_cons] at h
  show cg (iD (gJ m e.key ⟨e.money,e.nonce⟩) l) k=_
  rw[ua h.2 k,List.find?_cons]
  by_cases ek:e.key=k
  ·have hn:l.find? (fun x=>decide (x.key=k))=none:=by
    rw[List.find?_eq_none]
    intro x hx
    simp only[decide_eq_true_eq]
    exact fun hk=>h.1 (List.mem_map.2 ⟨x,hx,by rw[hk,ek]⟩)
   rw[hn]
   simp only[ek,decide_true]
   rw[nc,if_pos rfl]
  ·simp only[ek,decide_false]
   cases l.find? (fun x=>decide (x.key=k)) with
   |some x=>rfl
   |none=>
    simp only
    rw[nc,if_neg ek]
theorem xN{N:Int}:∀{l:List Ac} {m:Bk} {T:Int},Ok T N m→(∀e∈l,0≤e.money∧0≤e.nonce∧e.nonce≤N)→(l.map (·.key)).Nodup→(∀e∈l,cg m e.key=pz)→Ok (T+fS l) N (iD m l)∧(iD m l).length≤m.length+l.length
 |[],m,T,h,_,_,_=>by
  simp only[fS,List.map_nil,List.sum_nil,Int.add_zero]
  exact⟨h,Nat.le_refl _⟩
 |e::l,m,T,h,h1,h2,h3=>by
  rw[List.map_cons,List.nodup_cons] at h2
  have he:=h1 e (by simp)
  have h4:=h.put (Int.le_refl N) e.key ⟨e.money,e.nonce⟩ he.1 he.2
  rw[h3 e (by simp)] at h4
  have e1:T-pz.money+e.money=T+e.money:=by simp[pz]
  simp only at h4
  rw[e1] at h4
  have h5:=xN h4 (fun x hx=>h1 x (by simp[hx])) h2.2 (fun x hx=>by
   rw[nc,if_neg (fun hk=>h2.1 (List.mem_map.2 ⟨x,hx,hk.symm⟩))]
   exact h3 x (by simp[hx]))
  have h6:=jl m e.key ⟨e.money,e.nonce⟩
  refine⟨?_,?_⟩
  ·rw[nQ,←Int.add_assoc]
   exact h5.1
  ·have:=h5.2
   show(iD (gJ m e.key ⟨e.money,e.nonce⟩) l).length≤_
   simp only[List.length_cons]
   omega
theorem Gq(N:Int):Ok 0 N []:=⟨by simp,by simp,by simp,by simp,rfl⟩
theorem Bp{l:List Ac}{N:Int}(h:j3 l=0)(hN:∀e∈l,e.nonce≤N):Ok (fS l) N (iD [] l)∧(iD [] l).length≤l.length∧(∀k,cg (iD [] l) k=SN l k)∧(l.map (·.key)).Nodup∧fS l≤1125899906842624∧l.length≤1024:=by
 unfold j3 at h
 split at h
 ·cases h
 ·rename_i hl
  obtain⟨a1,a2,a3,a4⟩:=lO h
  have h1:=xN (N:=N) (m:=[]) (T:=0) (Gq N) (fun e he=>by
   have b:=a1 e he
   have n:=hN e he
   unfold oV at b
   omega) a2 (fun e he=>rfl)
  rw[Int.zero_add] at h1 a4
  refine⟨h1.1,by simpa using h1.2,fun k=>?_,a2,a4,by omega⟩
  rw[ua a2 k]
  rfl
end
section
section
variable {P:Program} {S:List Nat×Nat} {w0:World} {ops:List Oper} {G:List (Nat×GD)} {K:Env→List Fact→Prop} {i:Nat} {ord:List Nat} {L:Env} {Γ:List Fact} {ty:TypeId} {pos:String} {af:Array Edge} {g:Option (Nat×Bool)}
variable {κ ν:Type} {enc:κ→Value} {V:ν→Value}
def gM(m:Nat)(enc:κ→Value)(V:ν→Value)(kx:κ):GD:=⟨Nat,0,fun b=> .map (some b),fun b w=>m≤b∧(aE w b enc V []∨∃y,aE w b enc V [(kx,y)])⟩
theorem EK{m:Nat}{kx:κ}(x:(gM m enc V kx).X):cm [] ((gM m enc V kx).phi x):=fun w w' hk h=>⟨h.1,h.2.elim (fun a=>Or.inl (a.ay hk)) (fun⟨y,a⟩=>Or.inr ⟨y,a.ay hk⟩)⟩
theorem bE.BX{m d:Nat}{T:TypeId}(kx:κ)(hg:ew G i=some (gM m enc V kx))(hm:m=w0.heap.size)(ho:ops[i]?=some ⟨some d,.makeMap T none,ty,pos,af,g⟩)(hw:want ops L ⟨some d,.makeMap T none,ty,pos,af,g⟩=some true)
  (h:∀b:Nat,bE P S w0 ops G K ord ((d,.map (some b))::L) ((i,(gM m enc V kx).phi b)::Γ)):bE P S w0 ops G K (i::ord) L Γ:=by
 refine bE.Hy (gM m enc V kx) hg ho hw (by simp[Op.operands]) (fun w hk _=>?_) h
 unfold bh
 have:(execOp (bB L) ⟨some d,.makeMap T none,ty,pos,af,g⟩).run P w= .ok (.value (.map (some w.heap.size))) {w with heap:=w.heap.push (.map #[] 0)}:=by
  simp[execOp,Instr.makeMap,newObj,Sem.run,Result.andThen]
 rw[this]
 exact⟨w.heap.size,rfl,⟨by rw[hm];exact hk.size,Or.inl (aE.made w enc V)⟩,Kp.push w _ rfl⟩
def gX{Y:Type}(y0:Y)(m:Nat)(T:TypeId)(cs:Y→Array Value)(psi:Y→World→Prop):GD:=⟨Nat×Y,(0,y0),fun q=> .pointer (some ⟨q.1,0,none⟩),fun q w=>(m≤q.1∧aF w q.1 (.cells (cs q.2) T))∧psi q.2 w⟩
theorem yf{Y:Type}{y0:Y}{m:Nat}{T:TypeId}{cs:Y→Array Value}{psi:Y→World→Prop}(hs:∀y,cm [] (psi y))(x:(gX y0 m T cs psi).X):cm [] ((gX y0 m T cs psi).phi x):=fun w w' hk h=>⟨⟨h.1.1,h.1.2.ay hk⟩,hs _ _ _ hk h.2⟩
theorem bE.IH{Y:Type}{y0:Y}{m d:Nat}{T:TypeId}{cs:Y→Array Value}{psi:Y→World→Prop}{x:Operand}{v:Value}(y:Y)(hg:ew G i=some (gX y0 m T cs psi))(hm:m=w0.heap.size)(ho:ops[i]?=some ⟨some d,.box T x,ty,pos,af,g⟩)(hw:want ops L ⟨some d,.box T x,ty,pos,af,g⟩=some true)(hk:known L x=true)(hx:bB L x=v)(hc:v.cells=cs y)
  (hs:∀y,cm [] (psi y)) (hp:∀w,Kp S.1 w0 w→fk ops i Γ w→psi y w)
  (h:∀q:Nat×Y,bE P S w0 ops G K ord ((d,.pointer (some ⟨q.1,0,none⟩))::L) ((i,(gX y0 m T cs psi).phi q)::Γ)):bE P S w0 ops G K (i::ord) L Γ:=by
 refine bE.Hy (gX y0 m T cs psi) hg ho hw (by simp[Op.operands,hk]) (fun w hk1 hf=>?_) h
 unfold bh
 have:(execOp (bB L) ⟨some d,.box T x,ty,pos,af,g⟩).run P w= .ok (.value (.pointer (some ⟨w.heap.size,0,none⟩))) {w with heap:=w.heap.push (.cells v.cells T)}:=by
  simp[execOp,hx,xH,Result.andThen]
 rw[this,hc]
 have hpu:=Kp.push w (.cells (cs y) T) rfl
 exact⟨(w.heap.size,y),rfl,⟨⟨by rw[hm];exact hk1.size,aF.push w _⟩,hs _ _ _ hpu (hp w hk1 hf)⟩,hpu⟩
theorem bE.G0{d:Nat}{t:TypeId}{v:Value}{name:String}{f:FuncId}[M:yB P t name f][Fn:bQ P f]{x:Operand}{args:List Operand}{vs:List Value}{tys:Array TypeId}(D:GD)(hg:ew G i=some D)
  (ho:ops[i]?=some ⟨some d,.call ⟨.invoke x name,args.toArray,tys⟩,ty,pos,af,g⟩) (hw:want ops L ⟨some d,.call ⟨.invoke x name,args.toArray,tys⟩,ty,pos,af,g⟩=some true) (hk:(Op.call ⟨.invoke x name,args.toArray,tys⟩).operands.toList.all (known L)=true)
  (hf:bB L x= .iface t v) (he:bz L args vs) (hc:∀w,Kp S.1 w0 w→Calls P f (v::vs).toArray w (fun e w'=>∃x,e= .returned (D.val x)∧D.phi x w'∧Kp [] w w'))
  (h:∀x,bE P S w0 ops G K ord ((d,D.val x)::L) ((i,D.phi x)::Γ)):bE P S w0 ops G K (i::ord) L Γ:=
 bE.Hy D hg ho hw hk (fun w h1 _=>lN (M:=M) (Fn:=Fn) hf he ((hc w h1).mono (fun e w' ⟨x,g1,g2,g3⟩=>⟨_,g1,x,rfl,g2,g3⟩))) h
def gN(m:Nat)(enc:κ→Value)(V:ν→Value)(kx:κ)(y0:ν):GD:=⟨Nat×ν,(0,y0),fun _=>undef,fun q w=>m≤q.1∧aE w q.1 enc V [(kx,q.2)]⟩
theorem EJ{m:Nat}{kx:κ}{y0:ν}(x:(gN m enc V kx y0).X):cm [] ((gN m enc V kx y0).phi x):=fun w w' hk h=>⟨h.1,h.2.ay hk⟩
theorem bE.EE[DecidableEq κ]{m b:Nat}{kx:κ}{y0 vy:ν}{k T E:TypeId}[u:Ut P T (.map k E)]{a x y:Operand}(hg:ew G i=some (gN m enc V kx y0))(hm:m=w0.heap.size)
  (ho:ops[i]?=some ⟨none,.insert T a x y,ty,pos,af,g⟩) (hw:want ops L ⟨none,.insert T a x y,ty,pos,af,g⟩=some true) (hk:(known L a&&(known L x&&known L y))=true) (hanc:Γ.all (fun p=>jG ops i p.1)=true) (ha:bB L a= .map (some b)) (hx:bB L x=enc kx) (hy:bB L y=V vy) (Kk:cT P k enc)
  (hF:∀w,fk ops i Γ w→(gM m enc V kx).phi b w)
  (hkeep:∀j,j≠i→∀w w' x,Kp [b] w w'→(∃es c,aF w b (.map es c))→aE w' b enc V [(kx,vy)]→(bX G j).phi x w→(bX G j).phi x w')
  (h:bE P S w0 ops G K ord L ((i,fun w=>m≤b∧aE w b enc V [(kx,vy)])::Γ)):bE P S w0 ops G K (i::ord) L Γ:=by
 refine bE.Iv (gN m enc V kx y0) (b,vy) hg ho hw (by simpa[Op.operands] using hk) hanc (fun w h1 h2=>?_) h
 obtain⟨hb,hM⟩:=hF w h2
 have key:∀{l:List (κ×ν)},aE w b enc V l→cF l kx vy=[(kx,vy)]→bh P (bB L) ⟨none,.insert T a x y,ty,pos,af,g⟩ w (fun v w'=>v=(gN m enc V kx y0).val (b,vy)∧(gN m enc V kx y0).phi (b,vy) w'∧(∀X,Kp X w0 w→Kp X w0 w')∧∀j y,j≠i→(bX G j).phi y w→(bX G j).phi y w'):=fun{l} hl he=>by
  obtain⟨o',e1,e2,e3⟩:=iB (P:=P) (u:=u) hl Kk kx vy
  rw[he] at e2
  unfold bh
  have:(execOp (bB L) ⟨none,.insert T a x y,ty,pos,af,g⟩).run P w= .ok .skip {w with heap:=w.heap.setIfInBounds b o'}:=by
   simp only[execOp,ha,hx,hy,Sem.run_bind,e1,Result.andThen,Sem.run_pure]
  rw[this]
  obtain⟨es,c,hbl,-⟩:=hl
  exact⟨rfl,⟨hb,e2⟩,fun X hX=>hX.ai e3 (aV (by rw[←hm];exact hb)),fun j y hj hp=>hkeep j hj _ _ y e3 ⟨es,c,hbl⟩ e2 hp⟩
 rcases hM with hM|⟨y,hM⟩
 ·exact key hM rfl
 ·exact key hM (by simp[cF])
end
end
section
def dg:List UInt8:=[98,97,105,122,101]
def bI:Dg:=aQ (cI dg).b
def mU(b:Bd)(l:List Ac):Int:=if yu b≠0 then yu b else if 1000<b.fork then 2 else j3 l
theorem oL:bD (cI dg).b=0:=by
 unfold bD
 simp[cI,Bm.b,gy,nC]
theorem wR:oS (cI dg).b (aQ (cI dg).b)= .tuple #[dv bI,.int .i64 0]:=by unfold oS;rw[if_pos oL];rfl
theorem C4{b:Bd}(h:yu b=0):0≤b.fork∧b.fork≤1024:=by
 unfold yu at h
 split at h
 ·cases h
 ·rename_i g
  have:¬zV b.fork:=fun h=>g (Or.inl h)
  unfold zV at this
  omega
def gC(m:Nat)(t:Tl)(mk:Nat→Value):GD:=⟨Nat,0,mk,fun q w=>m≤q∧il w q t⟩
theorem sN{m:Nat}{t:Tl}{mk:Nat→Value}(x:(gC m t mk).X):cm [] ((gC m t mk).phi x):=fun w w' hk h=>⟨h.1,h.2.ay hk⟩
theorem BO{l:List Ac}(h:j3 l=0):∀e∈l,0≤e.nonce∧e.nonce≤1099511627776:=fun e he=>by
 unfold j3 at h
 split at h
 ·cases h
 ·have:=(lO h).1 e he
  unfold oV at this
  omega
def uT(b:Bd)(vb tb pb:Nat)(m:Value):List Value:=iT b++(.iface 40 (.pointer (some ⟨vb,0,none⟩))::(dc bI++[.pointer (some ⟨tb,0,none⟩),.pointer (some ⟨pb,0,none⟩),m]))
theorem IX(w:World)(vb tb pb:Nat)(a b c:Int)(d0 d1 d2 d3 d4 d5 d6 d7:UInt8):(Instr.build 127 #[(0,.agg #[.int .i64 a,.int .i64 b,.int .i64 c]),(1,.iface 40 (.pointer (some ⟨vb,0,none⟩))),(2,.agg #[bv d0,bv d1,bv d2,bv d3,bv d4,bv d5,bv d6,bv d7]),(3,.pointer (some ⟨tb,0,none⟩)),(4,.pointer (some ⟨pb,0,none⟩))]).run Tryz.prog w=
  .ok (.agg #[.int .i64 a,.int .i64 b,.int .i64 c,.iface 40 (.pointer (some ⟨vb,0,none⟩)),bv d0,bv d1,bv d2,bv d3,bv d4,bv d5,bv d6,bv d7,.pointer (some ⟨tb,0,none⟩),.pointer (some ⟨pb,0,none⟩),.map none]) w:=by kernel_rfl
theorem TE(b:Bd)(vb tb pb:Nat)(w:World):(Instr.build 127 #[(0,Am b),(1,.iface 40 (.pointer (some ⟨vb,0,none⟩))),(2,dv bI),(3,.pointer (some ⟨tb,0,none⟩)),(4,.pointer (some ⟨pb,0,none⟩))]).run Tryz.prog w= .ok (.agg (uT b vb tb pb (.map none)).toArray) w:=by
 unfold uT
 generalize bI=d
 obtain⟨l,h⟩:=d
 match l,h with
 |[d0,d1,d2,d3,d4,d5,d6,d7],_=>exact IX w vb tb pb b.fork b.leave b.sleep d0 d1 d2 d3 d4 d5 d6 d7
def I5(n:Nat)(w:World)(b:Bd)(vb:Nat)(t:Tl)(l:List Ac)(e:Ending)(w':World):Prop:=
 ∃(c:Cm) (z:Nat) (q:Nm),e= .returned (.tuple #[.pointer (some ⟨c.cb,0,none⟩),.int .i64 0])∧(∀A0:List Nat,(∀x∈A0,x<w.heap.size)→cL w' n (c.tm::c.nm::A0) (fS l) c)∧(c.bd=b∧c.vb=vb∧c.first=bI∧c.tr=Tr.new bI b.fork.toNat∧c.ps=[]∧c.pv= .slice none 0 0)∧c.ns=[(bI,z,q)]∧q.x=cI dg∧q.f=cg (iD [] l)∧q.t=t∧q.es=[]∧w.heap.size≤c.cb∧w.heap.size≤c.tm∧w.heap.size≤c.nm
abbrev Ec(b:Nat):Value:= .pointer (some ⟨b,0,none⟩)
theorem uy{m:Nat}{t:Tl}{cs:Nat→Array Value}{T:TypeId}{w w':World}{b vy:Nat}{k:Dg}(hk:Kp [b] w w')(hb:∃es c,aF w b (.map es c))(hm:aE w' b (dv (n:=8)) Ec [(k,vy)]):
  (∀x,(gM m (dv (n:=8)) Ec k).phi x w→(gM m (dv (n:=8)) Ec k).phi x w')∧(∀mk x,(gC m t mk).phi x w→(gC m t mk).phi x w')∧(∀x,(gX 0 m T cs (fun q w=>m≤q∧il w q t)).phi x w→(gX 0 m T cs (fun q w=>m≤q∧il w q t)).phi x w'):=by
 obtain⟨es,c,hb⟩:=hb
 have nb:∀{z:Nat} {cs:Array Value} {T:TypeId},aF w z (.cells cs T)→z∉[b]:=fun hz=>bP (fun e=>by
  subst e
  cases hz.uniq hb)
 refine⟨fun x h=>⟨h.1,?_⟩,fun _ x h=>⟨h.1,h.2.kp hk (nb h.2)⟩,fun x h=>⟨⟨h.1.1,h.1.2.kp hk (nb h.1.2)⟩,h.2.1,h.2.2.kp hk (nb h.2.2)⟩⟩
 by_cases e:x=b
 ·subst e
  exact Or.inr ⟨vy,hm⟩
 ·exact h.2.elim (fun a=>Or.inl (a.kp hk (bP e))) (fun⟨y,a⟩=>Or.inr ⟨y,a.kp hk (bP e)⟩)
theorem BW{w:World}{b z:Nat}{k:Dg}{q:Nm}(h:aE w b (dv (n:=8)) Ec [(k,z)]):aE w b (dv (n:=8)) Du [(k,z,q)]:=by
 obtain⟨es,c,h1,h2,h3⟩:=h
 exact⟨es,c,h1,h2,h3⟩
theorem CK(b:Bd)(vb tb pb:Nat)(m:Value):(uT b vb tb pb m).toArray.toList=(iT b++(.iface 40 (.pointer (some ⟨vb,0,none⟩))::(dc bI++[.pointer (some ⟨tb,0,none⟩),.pointer (some ⟨pb,0,none⟩)])))++([m]++[]):=by simp[uT]
theorem zS(b:Bd)(vb tb pb:Nat)(m:Value):(iT b++(.iface 40 (.pointer (some ⟨vb,0,none⟩))::(dc bI++[.pointer (some ⟨tb,0,none⟩),.pointer (some ⟨pb,0,none⟩)])))++([m]++[])=uT b vb tb pb m:=by simp[uT]
theorem CJ(b:Bd)(vb tb pb:Nat):(iT b++(Value.iface 40 (Value.pointer (some ⟨vb,0,none⟩))::(dc bI++[Value.pointer (some ⟨tb,0,none⟩),Value.pointer (some ⟨pb,0,none⟩)]))).length=14:=by simp[iT,ah]
attribute [local irreducible] CG NG SG aK aI Row aF aE aM bE aQ bD bI j3
theorem zQ{n:Nat}{w:World}(hn0:n≤w.heap.size)(b:Bd){vb:Nat}{a:Option Addr}{c0:Nat}{l:List Ac}(hS:QS w a l)(hl:l.length≤1000){ta:Nat}{t:Tl}(hT:il w ta t):
  Calls Tryz.prog 28 #[Am b,.iface 40 (.pointer (some ⟨vb,0,none⟩)),.slice a l.length c0,.iface 74 (.pointer (some ⟨ta,0,none⟩))] w (fun e w'=>Kp [] w w'∧
   (mU b l≠0∧e= .returned (.tuple #[.pointer none,.int .i64 (mU b l)])∨mU b l=0∧I5 n w b vb t l e w')):=by
 refine nV Tryz.func28 rfl Tryz.ntmps28 rfl ?_
 repeat apply aj
 refine SG.box rfl rfl rfl (ag rfl) (fun b4 w1 hk1 hb4 hB4=>?_)
 have hB4:aF w1 b4 (.cells (iT b).toArray 31):=hB4
 have r4:Row w1 b4 0 (iT b):=Row.all hB4 rfl
 repeat (first|apply aj|(apply ar;rfl;(first|apply Gd|apply az|apply aD|apply cu)<;>rfl))
 refine bG rfl ?_
 repeat (first|apply aj|(apply ar;rfl;apply bj<;>first|rfl|assumption|exact List.not_mem_nil))
 refine SG.ret rfl rfl rfl (vs:=[Am b]) (bz.of rfl) (xp b w1) (fun w2 hk2=>?_)
 have k2:=hk1.trans hk2
 clear r4
 by_cases hz:yu b=0
 rotate_left
 ·have ez:mU b l=yu b:=by unfold mU;rw[if_pos hz]
  repeat (first|apply aj|(apply ar;rfl;(first|apply az|apply aD|apply dK)<;>first|rfl|(apply bN;first|assumption|omega)))
  refine bL rfl ?_
  repeat (first|apply aj|(apply ar;rfl;(first|apply az|apply aD)<;>rfl))
  refine dJ (Or.inl rfl) Tryz.results28 (aC.tmp rfl) (aC.tmp rfl) ?_
  exact⟨k2,Or.inl ⟨by rw[ez];exact hz,by rw[ez]⟩⟩
 have ez1:mU b l=if 1000<b.fork then 2 else j3 l:=by unfold mU;rw[if_neg (fun g=>g hz)]
 obtain⟨f0,f1⟩:=C4 hz
 rw[hz]
 repeat (first|apply aj|(apply ar;rfl;(first|apply az|apply aD|apply dK)<;>first|rfl|(apply bK;first|assumption|omega)))
 refine bG rfl ?_
 repeat apply aj
 refine SG.ret rfl rfl rfl (vs:=[sv dg]) (bz.of rfl) (wQ dg (by decide) w2) (fun w3 hk3=>?_)
 refine SG.alloc rfl rfl rfl (fun b11 w4 hk4 hb11 hB11=>?_)
 refine SG.aN (l:=dq (cI dg)) rfl rfl (ag rfl) (ag rfl) hB11 (aJ _) rfl (dU _) (fun w5 hk5 hB11=>?_)
 have k5:=(k2.trans hk3).trans (hk4.ai hk5 (aV hb11))
 have r11:Row w5 b11 0 (dq (cI dg)):=Row.all hB11 rfl
 repeat (first|apply aj|(apply ar;rfl;apply bj<;>first|rfl|assumption|exact List.not_mem_nil))
 have hnm:=fM (rA dg 0 w5)
 rw[wR] at hnm
 refine SG.ret rfl rfl rfl (vs:=[iH (cI dg)]) (bz.of rfl) hnm (fun w6 hk6=>?_)
 clear r11 hnm
 repeat (apply ar;rfl;(first|apply az|apply dA)<;>rfl)
 refine SG.alloc rfl rfl rfl (fun b12 w7 hk7 hb12 hB12=>?_)
 refine SG.aN (l:=dc bI) rfl rfl (ag rfl) (ag rfl) hB12 (ah _) rfl (bu _) (fun w8 hk8 hB12=>?_)
 have k58:=hk6.trans (hk7.ai hk8 (aV hb12))
 have k8:=k5.trans k58
 have r12:Row w8 b12 0 (dc bI):=Row.all hB12 rfl
 have r4:Row w8 b4 0 [.int .i64 b.fork]:=Row.of (((hB4.ay hk2).ay (hk3.trans (hk4.ai hk5 (aV hb11)))).ay k58) [] [.int .i64 b.leave,.int .i64 b.sleep] rfl rfl
 repeat (first|apply aj|(apply ar;rfl;(first|apply az|apply aD|apply dK)<;>first|rfl|(apply bK;first|assumption|omega)))
 refine bG rfl ?_
 repeat (first|apply aj|(apply ar;rfl;(first|apply bf|apply bj|apply aW)<;>first|rfl|assumption|exact List.not_mem_nil|apply ah))
 by_cases hf:1000<b.fork
 ·rw[if_pos hf] at ez1
  refine SG.ret rfl rfl rfl (vs:=[dv bI,.int .i64 b.fork]) (bz.of rfl) (B8 w8 bI b.fork (Or.inr hf)) (fun w9 hk9=>?_)
  clear r12 r4
  repeat (first|apply aj|(apply ar;rfl;(first|apply az|apply aD|apply dK|apply dA)<;>first|rfl|(apply bN;first|assumption|omega)))
  refine bL rfl ?_
  repeat (first|apply aj|(apply ar;rfl;(first|apply az|apply aD)<;>rfl))
  refine dJ (Or.inl rfl) Tryz.results28 (aC.tmp rfl) (aC.tmp rfl) ?_
  exact⟨k8.trans hk9,Or.inl ⟨by rw[ez1];decide,by rw[ez1]⟩⟩
 rw[if_neg hf] at ez1
 have ef:b.fork=((b.fork.toNat:Nat):Int):=by omega
 have hkn:=zv w8 bI b.fork.toNat (by omega)
 rw[←ef] at hkn
 refine SG.call rfl rfl rfl (vs:=[dv bI,.int .i64 b.fork]) (bz.of rfl) (hkn.mono (fun e w9 hh=>?_))
 obtain⟨bt,bm,rfl,hT9,hbt,hbm,hne,hk9⟩:=hh
 refine⟨_,rfl,?_⟩
 have k9:=k8.trans hk9
 clear r12 r4
 repeat (first|apply aj|(apply ar;rfl;(first|apply az|apply aD|apply dK|apply dA)<;>first|rfl|(apply bK;first|assumption|omega)))
 refine bG rfl ?_
 repeat (first|apply aj|(apply ar;rfl;apply az<;>rfl))
 refine SG.call rfl rfl rfl (vs:=[.slice a l.length c0]) (bz.of rfl) ((xm c0 (hS.ay k9) (by omega)).mono (fun e w10 hh=>?_))
 obtain⟨hk10,hh⟩:=hh
 have k10:=k9.trans hk10
 rcases hh with⟨hn,rfl⟩|⟨hn,bk,bkm,rfl,hBk,hbk,hbkm⟩
 ·refine⟨_,rfl,?_⟩
  repeat (first|apply aj|(apply ar;rfl;(first|apply az|apply aD|apply dK|apply dA)<;>first|rfl|(apply bN;first|assumption|omega)))
  refine bL rfl ?_
  repeat (first|apply aj|(apply ar;rfl;(first|apply az|apply aD)<;>rfl))
  refine dJ (Or.inl rfl) Tryz.results28 (aC.tmp rfl) (aC.tmp rfl) ?_
  exact⟨k10,Or.inl ⟨by rw[ez1];exact hn,by rw[ez1]⟩⟩
 refine⟨_,rfl,?_⟩
 rw[hn] at ez1
 repeat (first|apply aj|(apply ar;rfl;(first|apply az|apply aD|apply dK|apply dA)<;>first|rfl|(apply bK;first|assumption|omega)))
 refine bG rfl ?_
 repeat apply aj
 refine SG.call rfl rfl rfl (vs:=[.int .i64 256]) (bz.of rfl) ((BN (by omega) (by omega)).mono (fun e w11 hh=>?_))
 obtain⟨pb,rfl,hpb,hk11,hPl⟩:=hh
 refine⟨_,rfl,?_⟩
 have k11:=k10.trans hk11
 repeat (first|apply aj|(apply ar;rfl;(first|apply az|apply aD|apply dK|apply dA)<;>first|rfl|(apply bK;first|assumption|omega)))
 refine bG rfl ?_
 have r12:Row w11 b12 0 (dc bI):=Row.all ((hB12.ay hk9).ay (hk10.trans hk11)) rfl
 have r4:Row w11 b4 0 (iT b):=Row.all ((((hB4.ay hk2).ay (hk3.trans (hk4.ai hk5 (aV hb11)))).ay k58).ay ((hk9.trans hk10).trans hk11)) rfl
 repeat (first|apply aj|(apply ar;rfl;(first|apply az|apply bj)<;>first|rfl|assumption|exact List.not_mem_nil|apply ah))
 refine SG.val rfl rfl rfl rfl (aG rfl (TE b vb bt pb)) ?_
 refine SG.box rfl rfl rfl (ag rfl) (fun cb w12 hk12 hcb hBc=>?_)
 have hBc:aF w12 cb (.cells (uT b vb bt pb (.map none)).toArray 127):=hBc
 have k12:=k11.trans hk12
 clear r12 r4
 have r12:Row w12 b12 0 (dc bI):=Row.all (((hB12.ay hk9).ay (hk10.trans hk11)).ay hk12) rfl
 have r11:Row w12 b11 0 (dq (cI dg)):=Row.all ((hB11.ay k58).ay (((hk9.trans hk10).trans hk11).trans hk12)) rfl
 repeat (first|apply aj|(apply ar;rfl;apply aD<;>rfl))
 obtain⟨N,hN⟩:∃N,N=w12.heap.size:=⟨_,rfl⟩
 refine CG.free mixed 12 [0,2,3,4,7,1,11,5,6,8,9,10] [(1,gM N (dv (n:=8)) Ec bI),(5,gC N t (fun q=> .iface 74 (.pointer (some ⟨q,0,none⟩)))),(6,gC N t (fun q=>DD bk q (.slice none 0 0))),(8,gC N t (fun q=> .agg (xW bk q (.slice none 0 0) (cI dg) (.slice none 0 0)).toArray)),(9,gX 0 N 118 (fun q=>(xW bk q (.slice none 0 0) (cI dg) (.slice none 0 0)).toArray) (fun q w=>N≤q∧il w q t)),(10,gN N (dv (n:=8)) Ec bI 0)] (by kernel_rfl) ?_ ?_
 ·intro p hp
  simp only[List.mem_cons,List.mem_nil_iff,or_false] at hp
  rcases hp with rfl|rfl|rfl|rfl|rfl|rfl
  ·exact EK
  ·exact sN
  ·exact sN
  ·exact sN
  ·exact yf (fun y w w' hk h=>⟨h.1,h.2.ay hk⟩)
  ·exact EJ
 repeat (apply yd;rfl;rfl;(first|apply az|apply bj)<;>first|rfl|assumption|exact List.not_mem_nil|apply ah)
 refine bE.BX bI rfl hN rfl rfl (fun nm=>?_)
 repeat (apply yd;rfl;rfl;apply az<;>rfl)
 refine bE.G0 (t:=74) (v:= .pointer (some ⟨ta,0,none⟩)) (vs:=[]) _ rfl rfl rfl rfl (ag rfl) True.intro (fun W hk=>(ja ((hT.ay k12).ay hk)).mono (fun e W' hh=>?_)) (fun q5=>?_)
 ·obtain⟨b',he,hb',hT',hk'⟩:=hh
  exact⟨b',he,⟨by rw[hN];exact Nat.le_trans hk.size hb',hT'⟩,hk'⟩
 refine bE.HC (gC N t (fun q=>DD bk q (.slice none 0 0))) q5 rfl rfl rfl rfl (aG rfl (QR bk q5)) rfl (fun W hk hF=>hF _ (.head _) (by kernel_rfl)) (fun q6=>?_)
 refine bE.HC (gC N t (fun q=> .agg (xW bk q (.slice none 0 0) (cI dg) (.slice none 0 0)).toArray)) q6 rfl rfl rfl rfl (aG rfl (QN bk q6 (cI dg))) rfl (fun W hk hF=>hF _ (.head _) (by kernel_rfl)) (fun q8=>?_)
 refine bE.IH (Y:=Nat) q8 rfl hN rfl rfl rfl rfl rfl (fun y W W' hk h=>⟨h.1,h.2.ay hk⟩) (fun W hk hF=>hF _ (.head _) (by kernel_rfl)) (fun q9=>?_)
 obtain⟨z,tb⟩:=q9
 refine bE.EE (V:=Ec) (vy:=z) (b:=nm) rfl hN rfl rfl rfl (by kernel_rfl) (ag rfl) (ag rfl) (ag rfl) gr.key (fun W hF=>hF _ (.tail _ (.tail _ (.tail _ (.tail _ (.head _))))) (by kernel_rfl)) ?_ ?_
 ·refine pR (q:=fun D=>∀w w' x,Kp [nm] w w'→(∃es c,aF w nm (.map es c))→aE w' nm (dv (n:=8)) Ec [(bI,z)]→D.phi x w→D.phi x w') (fun _ _ _ _ _ _ h=>h) (fun p hp hne W W' x hk hb hm h=>?_)
  simp only[List.mem_cons,List.mem_nil_iff,or_false] at hp
  rcases hp with rfl|rfl|rfl|rfl|rfl|rfl
  ·exact(uy (t:=t) (cs:=fun _=> #[]) (T:=0) hk hb hm).1 x h
  ·exact(uy (m:=N) (t:=t) (cs:=fun _=> #[]) (T:=0) hk hb hm).2.1 _ x h
  ·exact(uy (m:=N) (t:=t) (cs:=fun _=> #[]) (T:=0) hk hb hm).2.1 _ x h
  ·exact(uy (m:=N) (t:=t) (cs:=fun _=> #[]) (T:=0) hk hb hm).2.1 _ x h
  ·exact(uy (m:=N) (t:=t) hk hb hm).2.2 x h
  ·exact absurd rfl hne
 refine bE.tl (fun w13 hk13 hF=>?_)
 have h1:=hF _ (.head _)
 have h2:=hF _ (.tail _ (.head _))
 simp only at h1 h2
 have h1:N≤nm∧aE w13 nm (dv (n:=8)) Ec [(bI,z)]:=h1
 have h2:(N≤z∧aF w13 z (.cells (xW bk tb (.slice none 0 0) (cI dg) (.slice none 0 0)).toArray 118))∧N≤tb∧il w13 tb t:=h2
 have k13:=k12.trans hk13
 clear r12 r11
 repeat (apply ar;rfl;(first|apply aW|apply bM)<;>rfl)
 refine SG.cr (iT b++(.iface 40 (.pointer (some ⟨vb,0,none⟩))::(dc bI++[.pointer (some ⟨bt,0,none⟩),.pointer (some ⟨pb,0,none⟩)]))) [.map none] [] rfl rfl (ag rfl) (ag rfl) (hBc.ay hk13) (CK _ _ _ _ _) rfl rfl (CJ _ _ _ _) rfl (fun w14 hk14 hBc14=>?_)
 have hBc14:aF w14 cb (.cells (uT b vb bt pb (.map (some nm))).toArray 127):=by
  rw[←zS b vb bt pb (.map (some nm))]
  exact hBc14
 repeat (first|apply aj|(apply ar;rfl;(first|apply az|apply aD)<;>rfl))
 refine dJ (Or.inl rfl) Tryz.results28 (aC.tmp rfl) (aC.tmp rfl) ?_
 have s1:=k11.size
 have lcb:=hBc.lt
 have hcbw:w.heap.size≤cb:=Nat.le_trans k11.size hcb
 refine⟨k13.ai hk14 (aV hcbw),Or.inr ⟨ez1,?_⟩⟩
 have sk9:=k8.size
 have sk10:=k9.size
 have sk11:=k10.size
 have hSc:dt n [127] [] w13 [cb]:=dt.cells (Nat.le_trans hn0 hcbw) (hBc.ay hk13) (by decide)
 have k9':=((hk10.trans hk11).trans hk12).trans hk13
 obtain⟨b1,b2,b3,b4⟩:=Bp (N:=1099511627776) hn (fun e he=>(BO hn e he).2)
 have lbm:=hT9.map.lt
 have lbk:=hBk.map.lt
 have lnm:=h1.2.lt
 have t1:=((hk10.trans hk11).trans hk12).size
 have t2:=(hk11.trans hk12).size
 have t3:=h1.1
 have t4:=hk9.size
 refine⟨⟨cb,bt,bm,pb,nm,vb,.slice none 0 0,b,bI,Tr.new bI b.fork.toNat,[],[(bI,z,⟨bk,bkm,tb,cg (iD [] l),t,none,0,[],cI dg,none,0⟩)]⟩,z,⟨bk,bkm,tb,cg (iD [] l),t,none,0,[],cI dg,none,0⟩,rfl,fun A0 hA0=>?_,⟨rfl,rfl,rfl,rfl,rfl,rfl⟩,rfl,rfl,rfl,rfl,rfl,hcbw,by show w.heap.size≤bm;omega,by show w.heap.size≤nm;omega⟩
 have hT14:cj w14 bt bm (Tr.new bI b.fork.toNat):=⟨hSc.blk hk14 (hT9.ay k9').blk (by decide),hSc.wD hk14 (hT9.ay k9').map List.not_mem_nil⟩
 have hP13:=(hPl n (by omega)).ay (hk12.trans hk13)
 have hBk13:=hBk.ay ((hk11.trans hk12).trans hk13)
 have h0:∀{α:Type} {T:TypeId},Tg T n w14 none ([]:List α):=Or.inl (fun h=>absurd rfl h)
 refine⟨hBc14,hT14,hP13.kp hk14 (hSc.no hP13.blk (by show _∉_;decide)) (fun _ hg=>by cases hg) (hSc.not (by decide)),BW (hSc.wD hk14 h1.2 List.not_mem_nil),fun p hp=>?_,.head _,.tail _ (.head _),by show bm≠nm;omega,by show n≤bm;omega,by show n≤nm;omega,by show n≤bt;omega,by have:=k13.size;have:=hk14.size;omega⟩
 rw[List.mem_singleton] at hp
 subst hp
 refine⟨hSc.blk hk14 h2.1.2 (by decide),⟨iD [] l,⟨hSc.blk hk14 hBk13.blk (by decide),hSc.wD hk14 hBk13.map List.not_mem_nil⟩,⟨b1,?_,rfl⟩⟩,fun hm=>?_,by show n≤bkm;omega,hSc.blk hk14 h2.2.2 (by decide),Sl.nil,h0,rA _ _ _,Sl.nil,h0,rfl⟩
 ·show _≤1000+400*_
  omega
 ·have hm:bkm∈bm::nm::A0:=hm
  rcases List.mem_cons.1 hm with e|hm
  ·omega
  rcases List.mem_cons.1 hm with e|hm
  ·omega
  ·have:=hA0 _ hm
   omega
end
section
section
variable {P:Program} {S:List Nat} {w0:World} {F:World→Prop} {L:Env} {d:Option Nat} {ty:TypeId} {pos:String} {af:Array Edge} {g:Option (Nat×Bool)}
theorem Hr{T T':TypeId}[u:Ut P T (.int .u8)]{x:Operand}{k:Int}{b:UInt8}(hx:ro L x=some (bv b))(h:Ar (0<k∧k<256)):aK P S w0 F L ⟨d,.binOp .rem T x (.const (.int .u8 k)) T',ty,pos,af,g⟩ (bv (b%UInt8.ofNat k.toNat)):=fun w _ _=>by
 obtain⟨h1,h2⟩:=h.h
 have hb:k≠0:=by omega
 have hc:bB L (.const (.int .u8 k))= .int .u8 k:=rfl
 have hk:(UInt8.ofNat k.toNat).toNat=k.toNat:=by
  rw[UInt8.toNat_ofNat']
  exact Nat.mod_eq_of_lt (by omega)
 have e:((b.toNat:Int).tmod k)=((b%UInt8.ofNat k.toNat).toNat:Int):=by
  rw[UInt8.toNat_mod,hk,Int.tmod_eq_emod_of_nonneg (by omega),Int.natCast_emod,Int.toNat_of_nonneg (by omega)]
 simp only[execOp,ag hx,hc,eqGuard,binOp,Op.intDiv,if_neg hb,Sem.run_bind,Sem.run_pure,Result.andThen,e];rfl
theorem Og{T T':TypeId}[u:Ut P T (.int .u8)]{x:Operand}{k:Int}{b:UInt8}(hx:ro L x=some (bv b))(h:Ar (0≤k∧k<256)):aK P S w0 F L ⟨d,.binOp .add T (.const (.int .u8 k)) x T',ty,pos,af,g⟩ (bv (UInt8.ofNat k.toNat+b)):=fun w _ _=>by
 obtain⟨h1,h2⟩:=h.h
 have hc:bB L (.const (.int .u8 k))= .int .u8 k:=rfl
 have hk:(UInt8.ofNat k.toNat).toNat=k.toNat:=by
  rw[UInt8.toNat_ofNat']
  exact Nat.mod_eq_of_lt (by omega)
 have e:IntKind.wrap .u8 (k+(b.toNat:Int))=((UInt8.ofNat k.toNat+b).toNat:Int):=by
  rw[UInt8.toNat_add,hk]
  simp only[IntKind.wrap,IntKind.signed,IntKind.bits]
  simp
  omega
 simp only[execOp,ag hx,hc,eqGuard,binOp,Op.intArith,Sem.run_bind,Sem.run_pure,Result.andThen,e];rfl
theorem SJ{T T':TypeId}[u:Ut P T (.int .u16)][u':Ut P T' (.int .i64)]{x:Operand}{a:Int}(hx:ro L x=some (.int .u16 a))(h:Ar (0≤a∧a<65536)):aK P S w0 F L ⟨d,.convert T T' x,ty,pos,af,g⟩ (.int .i64 a):=by
 have e:IntKind.wrap .i64 a=a:=by
  have:=h.h
  simp only[IntKind.wrap,IntKind.signed,IntKind.bits]
  simp
  omega
 have:=vj (P:=P) (S:=S) (w0:=w0) (F:=F) (L:=L) (d:=d) (ty:=ty) (pos:=pos) (af:=af) (g:=g) (u:=u) (u':=u') hx
 rw[e] at this
 exact this
theorem SE{T T':TypeId}[u:Ut P T (.int .i64)][u':Ut P T' (.int .u8)]{x:Operand}{a:Int}(hx:ro L x=some (.int .i64 a))(h:Ar (0≤a∧a<256)):aK P S w0 F L ⟨d,.convert T T' x,ty,pos,af,g⟩ (bv (UInt8.ofNat a.toNat)):=by
 have e:IntKind.wrap .u8 a=((UInt8.ofNat a.toNat).toNat:Int):=by
  have:=h.h
  rw[UInt8.toNat_ofNat']
  simp only[IntKind.wrap,IntKind.signed,IntKind.bits]
  simp
  omega
 have:=vj (P:=P) (S:=S) (w0:=w0) (F:=F) (L:=L) (d:=d) (ty:=ty) (pos:=pos) (af:=af) (g:=g) (u:=u) (u':=u') hx
 rw[e] at this
 exact this
end
end
section
def d1(b:UInt8):Dg:=⟨[b,0,0,0,0,0,0,0],rfl⟩
theorem DE(b:UInt8)(w:World):(Instr.build 47 #[(0,bv b)]).run Tryz.prog w= .ok (dv (d1 b)) w:=by kernel_rfl
def yw(f l s:UInt8):Bd:=⟨(f.toNat:Int)%6,(l.toNat:Int)%6,(s.toNat:Int)%6⟩
theorem TF(f l s:Int)(w:World):(Instr.build 31 #[(0,.int .i64 f),(1,.int .i64 l),(2,.int .i64 s)]).run Tryz.prog w= .ok (Am ⟨f,l,s⟩) w:=by kernel_rfl
theorem Hc(f l s:UInt8):yu (yw f l s)=0∧0≤(yw f l s).fork∧(yw f l s).fork<6:=by
 have h1:=f.toNat_lt
 unfold yu zV yw
 refine⟨if_neg ?_,?_,?_⟩<;>simp only<;>omega
def yJ(l:List Nat):List Value:=[.int .u16 ((l.getD 0 0:Nat):Int),.int .u16 ((l.getD 1 0:Nat):Int),.int .u16 ((l.getD 2 0:Nat):Int),.int .u16 ((l.getD 3 0:Nat):Int)]
def Fs(l:List Nat):Value:= .agg (yJ l).toArray
theorem HE(l:List Nat){j:Nat}(h:j<4):(yJ l)[j]?=some (.int .u16 ((l.getD j 0:Nat):Int)):=by
 match j,h with
 |0,_=>rfl
 |1,_=>rfl
 |2,_=>rfl
 |3,_=>rfl
def jK(l:List Nat)(n:Nat):List Ac:=(List.range n).map (fun j=>⟨d1 (UInt8.ofNat (j+1)),((l.getD j 0:Nat):Int),0⟩)
theorem Dj(l:List Nat)(n:Nat):jK l (n+1)=jK l n++[⟨d1 (UInt8.ofNat (n+1)),((l.getD n 0:Nat):Int),0⟩]:=by simp[jK,List.range_succ]
theorem jA(l:List Nat)(n:Nat):(jK l n).length=n:=by simp[jK]
theorem IY(w:World)(a0 a1 a2 a3 a4 a5 a6 a7:UInt8)(x:Int):(Instr.build 59 #[(0,.agg #[bv a0,bv a1,bv a2,bv a3,bv a4,bv a5,bv a6,bv a7]),(1,.int .i64 x)]).run Tryz.prog w= .ok (.agg #[bv a0,bv a1,bv a2,bv a3,bv a4,bv a5,bv a6,bv a7,.int .i64 x,.int .i64 0]) w:=by kernel_rfl
theorem PN(d:Dg)(x:Int)(w:World):(Instr.build 59 #[(0,dv d),(1,.int .i64 x)]).run Tryz.prog w= .ok (Fl ⟨d,x,0⟩) w:=by
 obtain⟨l,h⟩:=d
 match l,h with
 |[a0,a1,a2,a3,a4,a5,a6,a7],_=>exact IY w a0 a1 a2 a3 a4 a5 a6 a7 x
theorem U4.lt{l:List Nat}(hb:∀x∈l,x<65536)(j:Nat):l.getD j 0<65536:=by
 rw[List.getD_eq_getElem?_getD]
 cases h:l[j]? with
 |none=>simp
 |some x=>exact hb x (List.mem_of_getElem? h)
attribute [local irreducible] CG NG SG aK aI Row aF aE aM
theorem uW(f l s:UInt8)(w:World):dz Tryz.prog 13 #[bv f,bv l,bv s] w (Am (yw f l s)):=by
 refine ey Tryz.func13 rfl Tryz.ntmps13 rfl ?_
 repeat apply aj
 refine SG.alloc rfl rfl rfl (fun b6 w1 hk1 hb6 hB6=>?_)
 repeat (first|apply aj|(apply ar;rfl;(first|apply Fz|apply Jc|apply az)<;>first|rfl|(apply Ar.mk;omega)))
 refine SG.val rfl rfl rfl rfl (aG rfl (TF _ _ _)) ?_
 refine SG.aN (l:=iT (yw f l s)) rfl rfl (ag rfl) (ag rfl) hB6 rfl rfl rfl (fun w2 hk2 hB2=>?_)
 have hr:Row w2 b6 0 (iT (yw f l s)):=Row.all hB2 rfl
 repeat apply aj
 refine aO (Or.inl rfl) Tryz.results13 (aC.agg rfl rfl hr rfl) ?_
 exact⟨rfl,hk1.ai hk2 (aV hb6)⟩
theorem qJ(w:World)(l:List Nat)(hb:∀x∈l,x<65536):kt Tryz.prog 59 acl 10 29 #[Fs l] w (jK l 4):=by
 refine bA Tryz.func29 rfl Tryz.ntmps29 rfl ?_
 repeat apply aj
 refine SG.box rfl rfl rfl (ag rfl) (fun b1 w1 hk1 hb1 hB1=>?_)
 have hB1:aF w1 b1 (.cells (yJ l).toArray 24):=hB1
 have r1:Row w1 b1 0 (yJ l):=Row.all hB1 rfl
 have hlen:(yJ l).length=4:=rfl
 repeat (first|apply aj|(apply ar;rfl;(first|apply az|apply aD|apply bj)<;>first|rfl|assumption|exact List.not_mem_nil))
 refine CG.loop (X:=Nat×Value) (fun q=>[(3,q.2),(6,.agg (yJ l).toArray),(7,.int .i64 (q.1:Int))])
  (fun q w'=>q.1≤4∧Kp [] w w'∧w'.ownsRow w.heap.size 59 10 q.2 q.1 (bO acl (jK l q.1)))
  (fun q=>4-q.1) (0,.slice none 0 0) ⟨by omega,hk1,dR⟩ (aS.of rfl) ?_
 rintro⟨i,v⟩ w3 ⟨hi,k3,ho3⟩
 simp only at hi ho3
 refine CG.to [(3,v),(6,.agg (yJ l).toArray),(7,.int .i64 (i:Int))] (aS.of rfl) ?_
 clear r1
 by_cases hlt:i<4
 ·have g1:(i:Int)<4:=by omega
  have hat:=HE l hlt
  have hu:=U4.lt hb i
  generalize hx:l.getD i 0=x at*
  repeat (first|apply aj|(apply ar;rfl;apply cG<;>first|rfl|(apply bK;first|assumption|omega)))
  refine bL rfl ?_
  repeat (first|apply aj|(apply ar;rfl;(first|apply HX|apply SE|apply az|apply aD|apply dG)<;>first|rfl|(apply Ar.mk;omega)|assumption))
  have ei:(UInt8.ofNat ((i:Int)+1).toNat)=UInt8.ofNat (i+1):=by congr 1
  rw[ei]
  refine SG.val rfl rfl rfl rfl (aG rfl (DE _)) ?_
  repeat (apply ar;rfl;(first|apply SJ|apply az)<;>first|rfl|(apply Ar.mk;omega))
  refine SG.val rfl rfl rfl rfl (aG rfl (PN _ _)) ?_
  refine SG.buildSlice rfl rfl rfl rfl (Px _) (fun b7 w7 hk7 hb7 hB7=>?_)
  have s3:=k3.size
  have s7:=hk7.size
  have ho7:=xQ (jA l i).symm (aT ho3 hk7)
  refine SG.kr (enc:=acl) (xs:=jK l i) (ys:=[⟨d1 (UInt8.ofNat (i+1)),(x:Int),0⟩]) (base:=w.heap.size) rfl rfl rfl (ag rfl) (ag rfl) rfl rfl rfl rfl aX nh ho7 (iA (enc:=acl) (sz:=10) aX hB7) (by rw[jA];simp only[maxLen,List.length_singleton];omega) (by rw[jA];show(i+1)*24≤_;omega) (by omega) (fun v8 w8 hk8 ho8 hv8=>?_)
  rw[←hx,←Dj,jA] at ho8
  repeat (first|apply aj|(apply ar;rfl;(first|apply az|apply aD|apply dG)<;>first|rfl|(apply Ar.mk;omega)))
  refine NG.round (i+1,v8) (aS.of rfl) ⟨hlt,(k3.trans hk7).ai hk8 (eO ho7 (Nat.le_refl _)),ho8⟩ (by simp only;omega)
 ·have g1:¬(i:Int)<4:=by omega
  have e4:i=4:=by omega
  subst e4
  repeat (first|apply aj|(apply ar;rfl;apply cG<;>first|rfl|(apply bN;first|assumption|omega)))
  refine bG rfl ?_
  repeat (first|apply aj|(apply ar;rfl;(first|apply az|apply aD)<;>rfl))
  refine aO (Or.inl rfl) Tryz.results29 (aC.tmp rfl) ?_
  exact⟨v,rfl,by rw[jA];exact ho3,k3⟩
end
section
structure Wl where
 c:Cm
 nb:eA
 vN:Value
 pm:Nat
 vs:Value
 ss:List Tm
 vb:Value
 bs:List Bm
def Ap(q:Wl):List Value:=[.pointer (some ⟨q.c.cb,0,none⟩),.pointer (some ⟨q.c.vb,0,none⟩),q.vs,q.vb]
structure df(w:World)(n:Nat)(tot:Int)(bw:Nat)(q:Wl):Prop where
 blk:aF w bw (.cells (Ap q).toArray 44)
 ch:cL w n [q.c.tm,q.c.nm,q.pm] tot q.c
 nb:dm w n q.c.vb q.pm q.vN q.nb
 sg:w.ownsRow n 52 13 q.vs q.ss.length (bO bV q.ss)
 si:∀x∈q.ss,x.In n w
 bl:w.ownsRow n 50 18 q.vb q.bs.length (bO dq q.bs)
 bi:∀x∈q.bs,x.In n w
 sn:∀p∈q.c.ns,p.2.2.x.xs≠[]→∀b off,p.2.2.x.a=some ⟨b,off,none⟩→b∉aP q.vs
 sb:∀x∈q.bs,x.xs≠[]→∀b off,x.a=some ⟨b,off,none⟩→b∉aP q.vs
 pn:q.pm≠q.c.tm∧q.pm≠q.c.nm
 bn:n≤bw
theorem df.ay{w w':World}{n:Nat}{tot:Int}{bw:Nat}{q:Wl}(h:df w n tot bw q)(hk:Kp [] w w'):df w' n tot bw q:=
 ⟨h.blk.ay hk,h.ch.ay hk,h.nb.ay hk,aT h.sg hk,fun x hx=>(h.si x hx).ay hk,aT h.bl hk,fun x hx=>(h.bi x hx).ay hk,h.sn,h.sb,h.pn,h.bn⟩
theorem cy{w:World}{bw:Nat}{q:Wl}(h:aF w bw (.cells (Ap q).toArray 44)):Row w bw 0 [.pointer (some ⟨q.c.cb,0,none⟩)]∧Row w bw 1 [.pointer (some ⟨q.c.vb,0,none⟩)]∧Row w bw 2 [q.vs]∧Row w bw 3 [q.vb]:=
 ⟨Row.of h [] [.pointer (some ⟨q.c.vb,0,none⟩),q.vs,q.vb] rfl rfl,Row.of h [.pointer (some ⟨q.c.cb,0,none⟩)] [q.vs,q.vb] rfl rfl,Row.of h [.pointer (some ⟨q.c.cb,0,none⟩),.pointer (some ⟨q.c.vb,0,none⟩)] [q.vb] rfl rfl,Row.of h [.pointer (some ⟨q.c.cb,0,none⟩),.pointer (some ⟨q.c.vb,0,none⟩),q.vs] [] rfl rfl⟩
theorem Dk{l:List Nat}(hb:∀x∈l,x<65536):j3 (jK l 4)=0∧0≤fS (jK l 4)∧fS (jK l 4)≤300000:=by
 have h0:=U4.lt hb 0
 have h1:=U4.lt hb 1
 have h2:=U4.lt hb 2
 have h3:=U4.lt hb 3
 have e:jK l 4=[⟨d1 1,((l.getD 0 0:Nat):Int),0⟩,⟨d1 2,((l.getD 1 0:Nat):Int),0⟩,⟨d1 3,((l.getD 2 0:Nat):Int),0⟩,⟨d1 4,((l.getD 3 0:Nat):Int),0⟩]:=rfl
 have es:fS (jK l 4)=((l.getD 0 0:Nat):Int)+(((l.getD 1 0:Nat):Int)+(((l.getD 2 0:Nat):Int)+(((l.getD 3 0:Nat):Int)+0))):=by
  rw[e]
  simp[fS]
 have hm:∀x∈jK l 4,¬oV x:=fun x hx=>by
  rw[e] at hx
  simp only[List.mem_cons,List.mem_nil_iff,or_false] at hx
  unfold oV
  rcases hx with rfl|rfl|rfl|rfl<;>simp only<;>omega
 refine⟨?_,by omega,by omega⟩
 unfold j3
 rw[jA,if_neg (by omega)]
 exact uk hm (by rw[e];show[d1 1,d1 2,d1 3,d1 4].Nodup;decide) (fun _ _ h=>by cases h) (by omega)
def Ol:Nm:=⟨0,0,0,fun _=>pz,⟨0,zd⟩,none,0,[],hG,none,0⟩
def Ph:Cm:=⟨0,0,0,0,0,0,undef,⟨0,0,0⟩,zd,Tr.new zd 0,[],[]⟩
def Jm(n:Nat)(b:Bd)(vb pm:Nat)(l:List Ac)(t:Tl):GD:=⟨Cm×Nat×Nm,(Ph,0,Ol),fun x=> .tuple #[.pointer (some ⟨x.1.cb,0,none⟩),.int .i64 0],fun x w=>cL w n [x.1.tm,x.1.nm,pm] (fS l) x.1∧((x.1.bd=b∧x.1.vb=vb∧x.1.first=bI∧x.1.tr=Tr.new bI b.fork.toNat∧x.1.ps=[]∧x.1.pv= .slice none 0 0)∧x.1.ns=[(bI,x.2.1,x.2.2)]∧x.2.2.x=cI dg∧x.2.2.f=cg (iD [] l)∧x.2.2.t=t∧x.2.2.es=[])∧pm≠x.1.tm∧pm≠x.1.nm⟩
theorem Ck{n:Nat}{b:Bd}{vb pm:Nat}{l:List Ac}{t:Tl}(x:(Jm n b vb pm l t).X):cm [] ((Jm n b vb pm l t).phi x):=fun w w' hk h=>⟨h.1.ay hk,h.2⟩
structure Fq(b:Bd)(l:List Nat)(q:Wl)(y:Bm):Prop where
 bd:q.c.bd=b
 fst:q.c.first=bI
 tr:q.c.tr=Tr.new bI b.fork.toNat
 ps:q.c.ps=[]
 ns:∃z m,q.c.ns=[(bI,z,m)]∧m.x=cI dg∧m.f=cg (iD [] (jK l 4))∧m.t=⟨0,zd⟩∧m.es=[]
 nb:q.nb=[]
 ss:q.ss=[]
 bs:q.bs=[y]
 y:y.b=(cI dg).b
def HJ:Tl:=⟨0,zd⟩
theorem Pq(w:World):(Instr.build 76 #[]).run Tryz.prog w= .ok (.agg (Ft HJ).toArray) w:=by kernel_rfl
theorem Tt(w:World)(cb vb:Nat)(a:Option Addr)(m cc:Nat):(Instr.build 44 #[(0,.pointer (some ⟨cb,0,none⟩)),(1,.pointer (some ⟨vb,0,none⟩)),(3,.slice a m cc)]).run Tryz.prog w= .ok (.agg #[.pointer (some ⟨cb,0,none⟩),.pointer (some ⟨vb,0,none⟩),.slice none 0 0,.slice a m cc]) w:=by kernel_rfl
theorem PK(w:World)(a0 a1 a2 a3 a4 a5 a6 a7 b0 b1 b2 b3 b4 b5 b6 b7:UInt8)(h:Int)(a:Option Addr)(n c:Nat):(Instr.buildSlice 42 1 #[(0,.agg #[bv a0,bv a1,bv a2,bv a3,bv a4,bv a5,bv a6,bv a7,.int .i64 h,bv b0,bv b1,bv b2,bv b3,bv b4,bv b5,bv b6,bv b7,.slice a n c])]).run Tryz.prog w=
  .ok (.slice (some ⟨w.heap.size,0,none⟩) 1 1) {w with heap:=w.heap.push (.cells #[bv a0,bv a1,bv a2,bv a3,bv a4,bv a5,bv a6,bv a7,.int .i64 h,bv b0,bv b1,bv b2,bv b3,bv b4,bv b5,bv b6,bv b7,.slice a n c] 50)}:=by kernel_rfl
theorem QQ(y:Bm)(w:World):(Instr.buildSlice 42 1 #[(0,iH y)]).run Tryz.prog w= .ok (.slice (some ⟨w.heap.size,0,none⟩) 1 1) {w with heap:=w.heap.push (.cells (dq y).toArray 50)}:=by
 obtain⟨⟨la,ha⟩,h,⟨lb,hb⟩,a,c,xs⟩:=y
 match la,ha,lb,hb with
 |[a0,a1,a2,a3,a4,a5,a6,a7],_,[b0,b1,b2,b3,b4,b5,b6,b7],_=>exact PK w a0 a1 a2 a3 a4 a5 a6 a7 b0 b1 b2 b3 b4 b5 b6 b7 h a xs.length c
attribute [local irreducible] CG NG SG aK aI Row aF aE aM bE j3 bI
theorem oI(w:World){b:Bd}(hb:yu b=0)(hf:b.fork≤1000){l:List Nat}(hl:∀x∈l,x<65536):Calls Tryz.prog 12 #[Am b,Fs l] w (fun e w'=>Kp [] w w'∧∃bw q y,e= .returned (.pointer (some ⟨bw,0,none⟩))∧df w' w.heap.size (fS (jK l 4)) bw q∧Fq b l q y):=by
 refine bJ Tryz.func12 rfl Tryz.ntmps12 rfl ?_
 obtain⟨hz,he0,he1⟩:=Dk hl
 repeat apply aj
 refine SG.box rfl rfl rfl (ag rfl) (fun b2 w1 hk1 hb2 hB2=>?_)
 have hB2:aF w1 b2 (.cells (iT b).toArray 31):=hB2
 refine SG.box rfl rfl rfl (ag rfl) (fun b3 w2 hk2 hb3 hB3=>?_)
 have hB3:aF w2 b3 (.cells (yJ l).toArray 24):=hB3
 have k2:=hk1.trans hk2
 repeat (first|apply aj|(apply ar;rfl;apply aD<;>rfl))
 refine SG.call rfl rfl rfl (vs:=[]) True.intro ((sy w2).mono (fun e w3 hh=>?_))
 obtain⟨bb,pm,rfl,hN,hne,hk3⟩:=hh
 refine⟨_,rfl,?_⟩
 have k3:=k2.trans hk3
 repeat (first|apply aj|(apply ar;rfl;(first|apply iC|apply az|apply aD)<;>rfl))
 refine bG rfl ?_
 have r2:Row w3 b2 0 (iT b):=Row.all ((hB2.ay hk2).ay hk3) rfl
 have r3:Row w3 b3 0 (yJ l):=Row.all (hB3.ay hk3) rfl
 have hu4:(yJ l).length=4:=rfl
 have hb3l:(iT b).length=3:=rfl
 obtain⟨N,hNe⟩:∃N,N=w3.heap.size:=⟨_,rfl⟩
 repeat apply aj
 refine CG.free mixed 13 [0,1,2,3,5,6,7,4,8,9,10,11,12] [(6,gX () N 76 (fun _=>(Ft HJ).toArray) (fun _ _=>True)),(4,gS N acl 10 (jK l 4)),(8,Jm w.heap.size b bb pm (jK l 4) HJ)] (by kernel_rfl) ?_ ?_
 ·intro p hp
  simp only[List.mem_cons,List.mem_nil_iff,or_false] at hp
  rcases hp with rfl|rfl|rfl
  ·exact yf (fun _ _ _ _ h=>h)
  ·exact EI
  ·exact Ck
 repeat (apply yd;rfl;rfl;(first|apply D9|apply az|apply bj)<;>first|rfl|assumption|exact List.not_mem_nil)
 refine bE.val rfl rfl rfl rfl (aG rfl Pq) ?_
 refine bE.IH (Y:=Unit) () rfl hNe rfl rfl rfl rfl rfl (fun _ _ _ _ h=>h) (fun _ _ _=>trivial) (fun q6=>?_)
 repeat (apply yd;rfl;rfl;apply D9<;>rfl)
 refine bE.CP (jK l 4) rfl rfl rfl rfl (vs:=[Fs l]) (bz.of rfl) (Nat.le_of_eq hNe) (fun W hk _=>(qJ W l hl).Sn aX) (fun a4 c4=>?_)
 refine bE.uV (vs:=[Am b,.iface 40 (.pointer (some ⟨bb,0,none⟩)),.slice a4 (jK l 4).length c4,.iface 74 (.pointer (some ⟨q6.1,0,none⟩))]) (Jm w.heap.size b bb pm (jK l 4) HJ) rfl rfl rfl rfl (bz.of rfl) (fun W hk hF=>?_) (fun x=>?_)
 ·have h4:=hF _ (.head _) (by kernel_rfl)
  have h6:=hF _ (.tail _ (.head _)) (by kernel_rfl)
  have s3:=k3.size
  have sW:=hk.size
  refine(zQ (n:=w.heap.size) (by omega) b h4.sl (by rw[jA];omega) h6.1.2).mono (fun e W' hh=>?_)
  obtain⟨hkW,hh⟩:=hh
  have hcz:mU b (jK l 4)=0:=by
   unfold mU
   rw[if_neg (fun g=>g hb),if_neg (by omega),hz]
  rcases hh with⟨g,-⟩|⟨-,c,z,m,he,hC,hP,hns,hx,hf',ht,hes,-,g1,g2⟩
  ·exact absurd hcz g
  ·have lpm:=hN.map.lt
   have hC:=hC [pm] (fun x hx=>by rw[List.mem_singleton] at hx;omega)
   exact⟨(c,z,m),he,⟨hC,⟨hP,hns,hx,hf',ht,hes⟩,by show pm≠c.tm;omega,by show pm≠c.nm;omega⟩,hkW⟩
 obtain⟨c,z,m⟩:=x
 repeat (apply yd;rfl;rfl;(first|apply az|apply aD|apply dA)<;>rfl)
 refine bE.tl (fun w4 hk4 hF=>?_)
 have hC:=hF _ (.head _)
 obtain⟨hC,⟨⟨p1,p2,p3,p4,p5,p6⟩,hns,hx,hf',ht,hes⟩,hp1,hp2⟩:=hC
 simp only at hC p1 p2 p3 p4 p5 p6 hns hx hf' ht hes hp1 hp2
 clear r2 r3
 have k4:=k3.trans hk4
 have hq:aB c.ns c.tr.tip=some (z,m):=by
  rw[hns,p4]
  show(if bI=bI then some (z,m) else none)=_
  rw[if_pos rfl]
 repeat (first|apply aj|(apply ar;rfl;(first|apply iC|apply az|apply aD|apply cu|apply dK)<;>first|rfl|(apply bK;first|assumption|omega)))
 refine bG rfl ?_
 repeat (first|apply aj|(apply ar;rfl;apply az<;>rfl))
 refine SG.call rfl rfl rfl (vs:=[.pointer (some ⟨c.cb,0,none⟩)]) (bz.of rfl) ((zP hC hq).mono (fun e w5 hh=>?_))
 obtain⟨y,hy,rfl,hY,hk5⟩:=hh
 refine⟨_,rfl,?_⟩
 refine SG.buildSlice rfl rfl rfl rfl (QQ y) (fun b33 w6 hk6 hb33 hB33=>?_)
 refine SG.val rfl rfl rfl rfl (aG rfl (fun W=>Tt W c.cb bb (some ⟨b33,0,none⟩) 1 1)) ?_
 refine SG.box rfl rfl rfl (ag rfl) (fun bw w7 hk7 hbw hBw=>?_)
 have hBw:aF w7 bw (.cells #[.pointer (some ⟨c.cb,0,none⟩),.pointer (some ⟨bb,0,none⟩),.slice none 0 0,.slice (some ⟨b33,0,none⟩) 1 1] 44):=hBw
 repeat (first|apply aj|(apply ar;rfl;apply aD<;>rfl))
 refine aO (Or.inl rfl) Tryz.results12 (aC.tmp rfl) ?_
 have k5:=k4.trans hk5
 have k67:=hk6.trans hk7
 have k7:=k5.trans k67
 have s2:=k2.size
 have s5:=k5.size
 have hN7:dm w7 w.heap.size bb pm (.slice none 0 0) []:=⟨(hN.blk.ay hk4).ay (hk5.trans k67),cX (aT hN.own (hk4.trans (hk5.trans k67))) s2,(hN.map.ay hk4).ay (hk5.trans k67),Nat.le_trans s2 hN.bp,Nat.le_trans s2 hN.pp⟩
 have ho7:w7.ownsRow w.heap.size 50 18 (.slice (some ⟨b33,0,none⟩) 1 1) [y].length (bO dq [y]):=by
  have h:=hB33.ay hk7
  exact BE aJ (l:=[y]) (by rw[gp];exact h) (by omega) rfl (by simp[maxLen])
 refine⟨k7,bw,⟨c,[],.slice none 0 0,pm,.slice none 0 0,[],.slice (some ⟨b33,0,none⟩) 1 1,[y]⟩,y,rfl,?_,⟨p1,p3,p4,p5,⟨z,m,hns,hx,hf',ht,hes⟩,rfl,rfl,rfl,?_⟩⟩
 ·refine⟨?_,hC.ay (hk5.trans k67),?_,dR,fun x h=>(by cases h),ho7,fun x h=>?_,fun _ _ _ _ _ _ h=>(by cases h),fun _ _ _ _ _ _ h=>(by cases h),⟨hp1,hp2⟩,Nat.le_trans s5 (Nat.le_trans hk6.size hbw)⟩
  ·have e:Ap ⟨c,[],.slice none 0 0,pm,.slice none 0 0,[],.slice (some ⟨b33,0,none⟩) 1 1,[y]⟩=[.pointer (some ⟨c.cb,0,none⟩),.pointer (some ⟨c.vb,0,none⟩),.slice none 0 0,.slice (some ⟨b33,0,none⟩) 1 1]:=rfl
   rw[e,p2]
   exact hBw
  ·show dm w7 w.heap.size c.vb pm (.slice none 0 0) []
   rw[p2]
   exact hN7
  ·rw[List.mem_singleton] at h
   subst h
   exact(hY.ay k67).mono (Nat.zero_le _)
 ·rw[hy]
  show m.x.b=_
  rw[hx]
end
section
section
variable {P:Program} {n:Nat} {ops:List Oper} {Q:Exit→Act→World→Prop} {S:List Nat×Nat} {w0:World} {L:Env} {G:List (Nat×GD)} {K:Env→List Fact→Prop} {Γ:List Fact} {i:Nat} {ord:List Nat} {ty:TypeId} {pos:String} {af:Array Edge} {g:Option (Nat×Bool)}
theorem bE.rW{m b:Nat}{T:TypeId}{inf:TypeInfo}[f:dp P T inf]{a x:Operand}{l:List Value}(hg:ew G i=some (gP m T))
  (ho:ops[i]?=some ⟨none,.store T a x,ty,pos,af,g⟩) (hw:want ops L ⟨none,.store T a x,ty,pos,af,g⟩=some true) (hk:(known L a&&known L x)=true) (ha:Γ.all (fun p=>jG ops i p.1)=true)
  (hpa:bB L a= .pointer (some ⟨b,0,none⟩)) (hx:bB L x= .agg l.toArray) (hn:l.length=inf.size) (hm:w0.heap.size≤m)
  (hF:∀w,Kp S.1 w0 w→fk ops i Γ w→(m≤b∧∃cs,aF w b (.cells cs T)∧cs.size=inf.size)∧bF l=true)
  (hkeep:∀p∈G,p.1≠i→∀y w w' cs,m≤b→aF w b (.cells cs T)→cs.size=inf.size→Kp [b] w w'→aF w' b (.cells l.toArray T)→p.2.phi y w→p.2.phi y w')
  (h:bE P S w0 ops G K ord L ((i,fun w=>m≤b∧aF w b (.cells l.toArray T))::Γ)):bE P S w0 ops G K (i::ord) L Γ:=by
 refine bE.Iv (gP m T) (b,l.toArray) hg ho hw (by simpa[Op.operands] using hk) ha (fun w h1 h2=>?_) h
 obtain⟨⟨g1,cs,g2,g3⟩,hone⟩:=hF w h1 h2
 unfold bh
 have hsp:(jd cs.toList 0 (Value.agg l.toArray).cells.toList)=l:=by
  simp only[Value.cells]
  exact xE (by simp;omega)
 have hrun:(execOp (bB L) ⟨none,.store T a x,ty,pos,af,g⟩).run P w= .ok .skip {w with heap:=w.heap.setIfInBounds b (.cells l.toArray T)}:=by
  have:=fg (P:=P) (f:=f) (off:=0) (v:= .agg l.toArray) g2 (by simpa[Value.cells] using hn) (by simp[Value.cells];omega) (by simpa[Value.cells] using hone)
  rw[hsp] at this
  simp only[execOp,hx,hpa,Sem.run_bind,this,Result.andThen,Sem.run_pure]
 rw[hrun]
 have hk':=Kp.set w (o':= .cells l.toArray T) g2 rfl rfl
 exact⟨rfl,⟨g1,g2.set _⟩,fun X hX=>hX.ai hk' (aV (by omega)),fun j y hj hp=>pR (q:=fun D=>∀y,D.phi y w→D.phi y _) (fun _ _=>trivial) (fun p hp hne y hy=>hkeep p hp hne y w _ cs g1 g2 g3 hk' (g2.set _) hy) j hj y hp⟩
end
section
variable {P:Program} {S:List Nat} {w0:World} {F:World→Prop} {L:Env} {d:Option Nat} {ty:TypeId} {pos:String} {af:Array Edge} {g:Option (Nat×Bool)}
end
end
section
structure Ax where
 dO:UInt8
 who:UInt8
 non:Int
 fee:Int
 kind:Int
 ba:Option Addr
 bc:Nat
 body:List UInt8
 bad:Bool
 wh:UInt8
 la:Option Addr
 lc:Nat
 lv:List UInt8
def qx(a:Ax):List Value:=[bv a.dO,bv a.who,.int .i64 a.non,.int .i64 a.fee,.int .i64 a.kind,.slice a.ba a.body.length a.bc,.bool a.bad,bv a.wh,.slice a.la a.lv.length a.lc]
def Hf(a:Ax):Value:= .agg (qx a).toArray
structure Ax.In(a:Ax)(n:Nat)(w:World):Prop where
 b:Bs w a.ba a.bc a.body
 bn:a.body≠[]→∀b off,a.ba=some ⟨b,off,none⟩→b<n
 l:Bs w a.la a.lc a.lv
 ln:a.lv≠[]→∀b off,a.la=some ⟨b,off,none⟩→b<n
 lb:a.body.length≤a.bc
 ll:a.lv.length≤a.lc
 l2:a.lv.length≤10000000
theorem Ax.In.ay{a:Ax}{n:Nat}{w w':World}(h:a.In n w)(hk:Kp [] w w'):a.In n w':=⟨h.b.ay hk,h.bn,h.l.ay hk,h.ln,h.lb,h.ll,h.l2⟩
theorem fB{w:World}{b:Nat}{a:Ax}{T:TypeId}(h:aF w b (.cells (qx a).toArray T)):Row w b 0 (qx a)∧Row w b 0 [bv a.dO]∧Row w b 1 [bv a.who]∧Row w b 2 [.int .i64 a.non]∧Row w b 3 [.int .i64 a.fee]∧Row w b 4 [.int .i64 a.kind]∧Row w b 5 [.slice a.ba a.body.length a.bc]∧Row w b 6 [.bool a.bad]∧Row w b 7 [bv a.wh]∧Row w b 8 [.slice a.la a.lv.length a.lc]:=by
 have h0:Row w b 0 (qx a):=Row.all h rfl
 have p:∀(pre l post:List Value),qx a=pre++(l++post)→Row w b pre.length l:=fun pre l post e=>by
  have:=h0.part pre l post e
  rwa [Nat.zero_add] at this
 exact⟨h0,p [] [bv a.dO] _ rfl,p [bv a.dO] [bv a.who] _ rfl,p [bv a.dO,bv a.who] [.int .i64 a.non] _ rfl,p [bv a.dO,bv a.who,.int .i64 a.non] [.int .i64 a.fee] _ rfl,p [bv a.dO,bv a.who,.int .i64 a.non,.int .i64 a.fee] [.int .i64 a.kind] _ rfl,p [bv a.dO,bv a.who,.int .i64 a.non,.int .i64 a.fee,.int .i64 a.kind] [.slice a.ba a.body.length a.bc] _ rfl,p [bv a.dO,bv a.who,.int .i64 a.non,.int .i64 a.fee,.int .i64 a.kind,.slice a.ba a.body.length a.bc] [.bool a.bad] _ rfl,p [bv a.dO,bv a.who,.int .i64 a.non,.int .i64 a.fee,.int .i64 a.kind,.slice a.ba a.body.length a.bc,.bool a.bad] [bv a.wh] _ rfl,p [bv a.dO,bv a.who,.int .i64 a.non,.int .i64 a.fee,.int .i64 a.kind,.slice a.ba a.body.length a.bc,.bool a.bad,bv a.wh] [.slice a.la a.lv.length a.lc] [] rfl⟩
def DB(t:Tx)(z:Int)(n0 base bb pm:Nat)(v:Value)(nb:eA):GD:=⟨Tm×Value,(yL,undef),fun x=> .tuple #[eR x.1,.int .i64 z],fun x w=>((x.1.t=t∧(x.1.t.body≠[]→∀b off,x.1.a1=some ⟨b,off,none⟩→b∉aP x.1.s))∧∀g,x.2.ownBlock=some g→v.ownBlock=some g∨n0≤g)∧x.1.In 0 w∧dm w base bb pm x.2 nb∧w.ownsRow n0 5 1 x.1.s x.1.t.sig.length (bO gw x.1.t.sig)⟩
theorem uE{t:Tx}{z:Int}{n0 base bb pm:Nat}{v:Value}{nb:eA}(x:(DB t z n0 base bb pm v nb).X):cm [] ((DB t z n0 base bb pm v nb).phi x):=fun w w' hk h=>⟨h.1,h.2.1.ay hk,h.2.2.1.ay hk,aT h.2.2.2 hk⟩
theorem uF{t:Tx}{z:Int}{n0 base bb pm b:Nat}{v:Value}{nb:eA}{w w':World}{cs:Array Value}(hB:aF w b (.cells cs 52))(hk:Kp [b] w w')(x:(DB t z n0 base bb pm v nb).X)(h:(DB t z n0 base bb pm v nb).phi x w):(DB t z n0 base bb pm v nb).phi x w':=⟨h.1,h.2.1.gd hk (qG hB (by decide)),h.2.2.1.Dz hk hB (by decide) (by decide),dS h.2.2.2 hk (cK h.2.2.2 (by decide) hB)⟩
theorem FM{m k:Nat}{T:TypeId}{S:List Nat}{w w':World}(hS:∀x∈S,x<m)(hk:Kp S w w')(x:(gV m T k).X)(h:(gV m T k).phi x w):(gV m T k).phi x w':=by
 obtain⟨h1,cs,h2,h3⟩:=h
 exact⟨h1,cs,h2.kp hk (fun hm=>by have:=hS _ hm;omega),h3⟩
theorem FN{m:Nat}{T:TypeId}{S:List Nat}{w w':World}(hS:∀x∈S,x<m)(hk:Kp S w w')(x:(gP m T).X)(h:(gP m T).phi x w):(gP m T).phi x w':=⟨h.1,h.2.kp hk (fun hm=>by have h1:=hS _ hm;have h2:m≤x.1:=h.1;omega)⟩
theorem Bs.take{w:World}{a:Option Addr}{c:Nat}{l:List UInt8}(h:Bs w a c l)(j:Nat):Bs w a c (l.take j):=by
 refine⟨h.sl.take j,Nat.le_trans (List.length_take_le' j l) h.len,?_,fun hn b off e=>h.lt (fun h0=>hn (by rw[h0,List.take_nil])) b off e⟩
 rcases h.some with⟨rfl,h2⟩|h2|⟨rfl,h2⟩
 ·exact Or.inl ⟨List.take_nil,h2⟩
 ·exact Or.inr (Or.inl h2)
 ·exact Or.inr (Or.inr ⟨List.take_nil,h2⟩)
def ku(m m':eA):Prop:=∀t,fl m t=0→fl m' t=0
theorem ku.refl(m:eA):ku m m:=fun _ h=>h
theorem ql{κ ν:Type}[DecidableEq κ]{k:κ}{v:ν}:∀{m l:List (κ×ν)},aB m k=some v→aB (m++l) k=some v
 |(x,y)::m,l,h=>by
  have h:(if x=k then some y else aB m k)=some v:=h
  show(if x=k then some y else aB (m++l) k)=some v
  by_cases e:x=k
  ·rw[if_pos e] at h⊢
   exact h
  ·rw[if_neg e] at h⊢
   exact ql h
theorem A9(m:eA)(k d:Dg):ku m (fP m k d):=fun t h=>by
 unfold fP
 cases hk:aB m (k,d) with
 |some _=>exact h
 |none=>
  show fl (if 65536≤m.length then m else m++[((k,d),m.length)]) t=0
  by_cases h6:65536≤m.length
  ·rw[if_pos h6];exact h
  ·rw[if_neg h6]
   unfold fl at h⊢
   by_cases hw:bg t≠0
   ·rw[if_pos hw] at h⊢;exact h
   ·rw[if_neg hw] at h⊢
    by_cases hv:lF m t.frm (cV t) t.sig=true
    ·rw[if_pos]
     unfold lF at hv⊢
     cases ha:aB m (t.frm,cV t) with
     |none=>rw[ha] at hv;simp at hv
     |some i=>rw[ha] at hv;rw[ql ha];exact hv
    ·rw[if_neg hv] at h;cases h
theorem F9(m:eA)(t:Tx)(k:Dg):ku m (je m t k).2.2:=by
 unfold je
 by_cases h:bg (jI t k)≠0
 ·rw[if_pos h]
  exact ku.refl m
 ·rw[if_neg h]
  cases fQ m k (cV (jI t k)) with
  |none=>exact ku.refl m
  |some i=>exact A9 _ _ _
def PR(w:World)(n bb pm:Nat)(v:Value)(m:eA)(e:Ending)(w':World):Prop:=
 ∃(y:Tm) (v':Value) (nb':eA),e= .returned (eR y)∧y.In n w'∧dm w' n bb pm v' nb'∧Kp (bb::pm::aP v) w w'∧(∀g,v'.ownBlock=some g→v.ownBlock=some g∨w.heap.size≤g)∧(nb'.length≤m.length+1∧ku m nb')
theorem Po(w:World)(a b c:Int)(p:Option Addr)(m cc:Nat):(Instr.build 52 #[(1,.int .i64 a),(2,.int .i64 b),(3,.int .i64 c),(4,.slice p m cc)]).run Tryz.prog w= .ok (.agg (dc zd++[Value.int .i64 a,Value.int .i64 b,Value.int .i64 c,Value.slice p m cc,Value.slice none 0 0]).toArray) w:=by kernel_rfl
theorem dm.H4{w:World}{base bb pm b:Nat}{v:Value}{m:eA}{cs:Array Value}{T:TypeId}(h:dm w base bb pm v m)(hB:aF w b (.cells cs T))(h1:T≠162)(h2:T≠341):b∉bb::pm::aP v:=fun hm=>by
 rcases List.mem_cons.1 hm with rfl|hm
 ·have:=aF.uniq hB h.blk
  simp only[Obj.cells.injEq] at this
  exact h1 this.2.1
 rcases List.mem_cons.1 hm with rfl|hm
 ·exact eB hB h.map rfl
 ·exact cK h.own h2 hB _ (aH hm) (List.mem_singleton.2 rfl)
theorem dm.Oi{w:World}{base bb pm:Nat}{v:Value}{m:eA}(h:dm w base bb pm v m):dh base w (bb::pm::aP v):=by
 refine dh.cons h.bp (dh.cells h.blk (by decide)) (dh.cons h.pp (fun cs f e=>?_) (dh.own h.own (Nat.le_refl _) (by decide)))
 obtain⟨es,c,h1,-⟩:=h.map
 have:=aF.uniq h1 e
 cases this
theorem Gm{w:World}{base base' n n' sz sz':Nat}{T T':TypeId}{v v':Value}{xs xs':List Value}(h:w.ownsRow base T sz v n xs)(h':w.ownsRow base' T' sz' v' n' xs')(hT:T≠T'):∀b,v.ownBlock=some b→b∉aP v':=fun b hb hm=>by
 rcases h.2 with⟨rfl,_⟩|⟨g,cap,cur,rfl,_,hg,_⟩
 ·cases hb
 ·cases hb
  exact cK h' hT hg _ (aH hm) (List.mem_singleton.2 rfl)
theorem dm.SZ{w w':World}{base bb pm base' n' sz':Nat}{v v':Value}{m:eA}{T:TypeId}{xs':List Value}(h:dm w base bb pm v m)(ho:w.ownsRow base' T sz' v' n' xs')(hT:T≠162)(hT2:T≠341)(hk:Kp (aP v') w w'):dm w' base bb pm v m:=
 ⟨h.blk.kp hk (fun hm=>cK ho (fun e=>hT e.symm) h.blk _ (aH hm) (List.mem_singleton.2 rfl)),dS h.own hk (Gm h.own ho (fun e=>hT2 e.symm)),h.map.kp hk (sD ho h.map),h.bp,h.pp⟩
theorem DW(m:eA)(t:Tx)(k:Dg):(je m t k).2.1.sig.length≤2:=by
 unfold je
 by_cases h:bg (jI t k)≠0
 ·rw[if_pos h]
  show[].length≤2
  decide
 ·rw[if_neg h]
  cases fQ m k (cV (jI t k)) with
  |none=>show[].length≤2;decide
  |some i=>show(ie i).length≤2;simp[ie]
theorem yR(m:eA)(k d:Dg):(fP m k d).length≤m.length+1:=by
 unfold fP
 cases aB m (k,d) with
 |some _=>exact Nat.le_succ _
 |none=>
  by_cases h:65536≤m.length
  ·show(if 65536≤m.length then m else _).length≤_
   rw[if_pos h]
   exact Nat.le_succ _
  ·show(if 65536≤m.length then m else _).length≤_
   rw[if_neg h,List.length_append]
   exact Nat.le_refl _
theorem DX(m:eA)(t:Tx)(k:Dg):(je m t k).2.2.length≤m.length+1:=by
 unfold je
 by_cases h:bg (jI t k)≠0
 ·rw[if_pos h]
  exact Nat.le_succ _
 ·rw[if_neg h]
  cases fQ m k (cV (jI t k)) with
  |none=>exact Nat.le_succ _
  |some i=>exact yR _ _ _
theorem PA(w:World):(Instr.buildSlice 33 1 #[(0,.int .u8 1)]).run Tryz.prog w= .ok (.slice (some ⟨w.heap.size,0,none⟩) 1 1) {w with heap:=w.heap.push (.cells #[bv 1] 5)}:=by kernel_rfl
theorem Bw(d:Dg)(n:Int):(iE d n).length≤100:=by
 have p1:=bU (num d)
 have p2:=bU (db n)
 unfold iE
 rw[List.length_append]
 omega
attribute [local irreducible] CG NG SG aK aI Row aF aE aM bE num c9 de cQ cJ qw cP bg dB kV dP cV iE je
theorem BI{w:World}{n bw:Nat}{tot:Int}{q:Wl}(h:df w n tot bw q)(hn:n≤w.heap.size)(hnl:q.nb.length≤60000){a:Ax}(ha:a.In n w)(hbl:a.body.length≤10000000):
  Calls Tryz.prog 43 #[.pointer (some ⟨bw,0,none⟩),Hf a] w (PR w n q.c.vb q.pm q.vN q.nb):=by
 refine bJ Tryz.func43 rfl Tryz.ntmps43 rfl ?_
 repeat apply aj
 refine SG.box rfl rfl rfl (ag rfl) (fun b3 w1 hk1 hb3 hB3=>?_)
 have hB3:aF w1 b3 (.cells (qx a).toArray 35):=hB3
 refine SG.alloc rfl rfl rfl (fun b4 w2 hk2 hb4 hB4=>?_)
 have k2:=hk1.trans hk2
 have hB3:=hB3.ay hk2
 have k2l:=hB3.lt
 have s1:=hk1.size
 have s12:=hk2.size
 obtain⟨-,-,r1,r2,r3,r4,r5,r6,-⟩:=fB hB3
 have hlb:=ha.lb
 obtain⟨k,hk,hk20⟩:∃k:Nat,(if(20:Int)<(a.body.length:Int) then(20:Int) else(a.body.length:Int))=(k:Int)∧k≤a.body.length:=by
  by_cases h:(20:Int)<(a.body.length:Int)
  ·exact⟨20,by rw[if_pos h];rfl,by omega⟩
  ·exact⟨a.body.length,by rw[if_neg h],Nat.le_refl _⟩
 repeat apply aj
 refine CG.gZ mixed [0,1,2,3,4,5,6,7,8,9,10,11,12,13] [(14,15,5,.tmp 23)] (by kernel_rfl) (by kernel_rfl) ?_
 repeat (apply bZ;rfl;rfl;(first|apply Oc|apply bf|apply aW|apply dy|apply Ja)<;>first|rfl|(apply Ar.mk;omega)|assumption|exact List.not_mem_nil)
 refine aI.val rfl rfl rfl (aG rfl (fun W=>Po W a.non a.fee a.kind a.ba k a.bc)) ?_
 refine aI.one (fC.of (by rfl) rfl rfl rfl (ag rfl) (by rfl) (by rfl) (by rfl)) (fun b5 w3 hk3 hb5 hB5=>?_)
 obtain⟨x0,hx0⟩:∃x0:Tm,x0=⟨⟨zd,a.non,a.fee,a.kind,a.body.take k,[]⟩,a.ba,a.bc,none,0⟩:=⟨_,rfl⟩
 have elk:(a.body.take k).length=k:=by rw[List.length_take];omega
 have hB5:aF w3 b5 (.cells (bV x0).toArray 52):=by
  have e:bV x0=dc zd++[Value.int .i64 a.non,Value.int .i64 a.fee,Value.int .i64 a.kind,Value.slice a.ba k a.bc,Value.slice none 0 0]:=by
   rw[hx0]
   simp only[bV,Tm.b,Tm.s,elk]
   rfl
  rw[e]
  exact hB5
 have k3:=k2.trans hk3
 have hx3:x0.In n w3:=by
  rw[hx0]
  have htb:Tb n w3 a.ba (a.body.take k):=by
   by_cases h0:a.body.take k=[]
   ·exact Or.inl (fun h=>absurd h0 h)
   ·exact Or.inr (ha.bn (fun h=>h0 (by rw[h,List.take_nil])))
  exact⟨(ha.b.ay k3).take k,Bs.nil,htb,Or.inl (fun h=>absurd rfl h),by show(a.body.take k).length≤_;omega,by show 0≤_;omega⟩
 have hB3:=hB3.ay hk3
 clear r1 r2 r3 r4 r5 r6
 have k3l:b3<w3.heap.size:=hB3.lt
 have s2:=k2.size
 have s3:=hk3.size
 have k5l:b5<w3.heap.size:=hB5.lt
 refine NG.next ?_
 refine CG.DY (fun L w'=>∃x1:Tm,aS [(0,.pointer (some ⟨bw,0,none⟩)),(3,.pointer (some ⟨b3,0,none⟩)),(4,.pointer (some ⟨b4,0,none⟩)),(5,.pointer (some ⟨b5,0,none⟩))] L∧aF w' b5 (.cells (bV x1).toArray 52)∧x1.In n w'∧Kp [] w w'∧Kp [b5] w3 w') ?_ ?_
 ·obtain⟨-,-,-,-,-,q4,-⟩:=fB hB3
  obtain⟨-,-,-,-,-,q5,-⟩:=aZ hB5
  by_cases hz:a.kind=0
  rotate_left
  ·repeat (first|apply aj|(apply ar;rfl;(first|apply bf|apply aW|apply fF)<;>first|rfl|assumption|(apply bN;first|assumption|omega)|exact List.not_mem_nil))
   refine bG rfl ?_
   repeat apply aj
   exact NG.cut ⟨x0,by(repeat' (first|exact True.intro|exact rfl|refine And.intro ?_ ?_)),hB5,hx3,k3,Kp.refl _ _⟩
  have hS5:=hx3.b.sl
  repeat (first|apply aj|(apply ar;rfl;(first|apply bf|apply aW|apply fF)<;>first|rfl|assumption|(apply bK;first|assumption|omega)|exact List.not_mem_nil))
  refine bL rfl ?_
  repeat (first|apply aj|(apply ar;rfl;(first|apply aD|apply bf|apply aW|apply dy|apply fW)<;>first|rfl|assumption|exact List.not_mem_nil|exact CA))
  refine CG.iR (fun L w'=>w'=w3∧∃z:Int,aS [(0,.pointer (some ⟨bw,0,none⟩)),(3,.pointer (some ⟨b3,0,none⟩)),(4,.pointer (some ⟨b4,0,none⟩)),(5,.pointer (some ⟨b5,0,none⟩)),(6,.int .i64 z)] L) ?_ ?_
  ·by_cases h1:1<x0.t.body.length
   ·have h1':(1:Int)<(x0.t.body.length:Int):=by omega
    refine CG.kh rfl (ag rfl) (decide_eq_true h1') ?_
    obtain⟨b',o',e',hr⟩:=hS5 1 _ (List.getElem?_eq_getElem h1)
    have q6:Row w3 b5 11 [.slice (some ⟨b',o',none⟩) x0.t.body.length x0.c1]:=by rw[←e'];exact q5
    have hr:Row w3 b' (o'+(1:Int).toNat*1) [bv x0.t.body[1]]:=hr
    clear q5
    repeat (first|apply aj|(apply ar;rfl;(first|apply Fz|apply aD|apply bf|apply aW|apply Bn)<;>first|rfl|(apply Ar.mk;omega)|assumption|exact List.not_mem_nil))
    exact NG.cut ⟨rfl,_,by(repeat' (first|exact True.intro|exact rfl|refine And.intro ?_ ?_))⟩
   ·have h1':¬(1:Int)<(x0.t.body.length:Int):=by omega
    refine CG.ki rfl (ag rfl) (decide_eq_false h1') ?_
    repeat apply aj
    exact NG.cut ⟨rfl,_,by(repeat' (first|exact True.intro|exact rfl|refine And.intro ?_ ?_))⟩
  rintro L w' ⟨rfl,z,hL⟩
  refine CG.to _ hL ?_
  repeat (first|apply aj|(apply ar;rfl;(first|apply aD|apply bf|apply aW|apply dy|apply fW)<;>first|rfl|assumption|exact List.not_mem_nil|exact CA))
  refine CG.iR (fun L w''=>w''=w'∧∃y:UInt8,aS [(0,.pointer (some ⟨bw,0,none⟩)),(3,.pointer (some ⟨b3,0,none⟩)),(4,.pointer (some ⟨b4,0,none⟩)),(5,.pointer (some ⟨b5,0,none⟩)),(6,.int .i64 z),(7,bv y)] L) ?_ ?_
  ·by_cases h1:0<x0.t.body.length
   ·have h1':(0:Int)<(x0.t.body.length:Int):=by omega
    refine CG.kh rfl (ag rfl) (decide_eq_true h1') ?_
    obtain⟨b',o',e',hr⟩:=hS5 0 _ (List.getElem?_eq_getElem h1)
    have q6:Row w' b5 11 [.slice (some ⟨b',o',none⟩) x0.t.body.length x0.c1]:=by rw[←e'];exact q5
    have hr:Row w' b' (o'+(0:Int).toNat*1) [bv x0.t.body[0]]:=hr
    clear q5
    repeat (first|apply aj|(apply ar;rfl;(first|apply Hr|apply aD|apply bf|apply aW|apply Bn)<;>first|rfl|(apply Ar.mk;omega)|assumption|exact List.not_mem_nil))
    exact NG.cut ⟨rfl,_,by(repeat' (first|exact True.intro|exact rfl|refine And.intro ?_ ?_))⟩
   ·have h1':¬(0:Int)<(x0.t.body.length:Int):=by omega
    refine CG.ki rfl (ag rfl) (decide_eq_false h1') ?_
    repeat apply aj
    exact NG.cut ⟨rfl,0,by(repeat' (first|exact True.intro|exact rfl|refine And.intro ?_ ?_))⟩
  rintro L w'' ⟨rfl,y,hL⟩
  refine CG.to _ hL ?_
  repeat (first|apply aj|(apply ar;rfl;apply az<;>rfl))
  refine SG.val rfl rfl rfl rfl (aG rfl (DE _)) ?_
  repeat (apply ar;rfl;apply az<;>rfl)
  refine SG.call rfl rfl rfl (vs:=[dv (d1 y),.int .i64 z]) (bz.of rfl) ((pG (d1 y) z _).mono (fun e W1 hh=>?_))
  obtain⟨v3,he,ho3,hkW⟩:=hh
  refine⟨_,he,?_⟩
  clear he q4 q5
  have lpp:=Bw (d1 y) z
  obtain⟨a3,c3,rfl,hS3⟩:=Bs.own ho3
  have t3:Ty 5 W1 a3 (iE (d1 y) z):=Ty.own ho3
  have g3:∀b off,a3=some ⟨b,off,none⟩→_≤b:=fN ho3
  have hB5:=hB5.ay hkW
  repeat (apply ar;rfl;apply aW<;>rfl)
  refine SG.cr (dc x0.t.frm++[.int .i64 x0.t.non,.int .i64 x0.t.fee,.int .i64 x0.t.kind]) [.slice x0.a1 x0.t.body.length x0.c1] [.slice x0.a2 x0.t.sig.length x0.c2] rfl rfl (ag rfl) (ag rfl) hB5 (by rw[List.toList_toArray];exact mi x0.t x0.a1 x0.a2 x0.c1 x0.c2) rfl rfl (xB x0.t) rfl (fun W4 hk4 hB5=>?_)
  have hB5:aF W4 b5 (.cells (bV ⟨{x0.t with body:=iE (d1 y) z},a3,c3,x0.a2,x0.c2⟩).toArray 52):=by rw[mi];exact hB5
  repeat apply aj
  have hxx:=(hx3.ay hkW).gd hk4 (dh.cons (Nat.le_trans hn (by omega)) (dh.cells (‹aF W1 b5 (.cells (bV x0).toArray 52)›:aF W1 b5 (.cells (bV x0).toArray 52)) (by decide)) dh.nil)
  exact NG.cut ⟨_,by(repeat' (first|exact True.intro|exact rfl|refine And.intro ?_ ?_)),hB5,⟨hS3.kp hk4 (fun b off e=>bP (by have:=g3 b off e;omega)),hxx.s,Or.inl (t3.kp hk4 (fun _ b off e=>bP (by have:=g3 b off e;omega))),hxx.t2,by show(iE (d1 y) z).length≤_;omega,hxx.l2⟩,(k3.trans hkW).ai hk4 (aV (by omega)),hkW.any.trans hk4⟩
 rintro L w5 ⟨x1,hL,hB55,hx5,k5,k35⟩
 refine CG.to [(0,.pointer (some ⟨bw,0,none⟩)),(3,.pointer (some ⟨b3,0,none⟩)),(4,.pointer (some ⟨b4,0,none⟩)),(5,.pointer (some ⟨b5,0,none⟩))] hL ?_
 have s5:=k35.size
 have hq5:=h.ay k5
 obtain⟨-,z1,-,-⟩:=cy hq5.blk
 have hB35:aF w5 b3 (.cells (qx a).toArray 35):=hB3.kp k35 (bP (by omega))
 obtain⟨-,-,z2,-⟩:=fB hB35
 obtain⟨z3,-⟩:=aZ hB55
 have hNb:=hq5.nb
 have lb:=hNb.blk.lt
 have lm:=hNb.map.lt
 have lo:=cD hNb.own
 have hS:∀x∈q.c.vb::q.pm::aP q.vN,x<w5.heap.size:=fun x hx=>by
  rcases List.mem_cons.1 hx with rfl|hx
  ·exact lb
  rcases List.mem_cons.1 hx with rfl|hx
  ·exact lm
  exact lo x (aH hx)
 obtain⟨W,hW⟩:∃W:UInt8,W=1+a.who%4:=⟨_,rfl⟩
 refine CG.seq ?_
 refine CG.Cl mixed (q.c.vb::q.pm::aP q.vN,11) 17 [0,1,2,3,4,5,6,7,8,9,10,11,12,13,14,15,16] [(11,DB (je q.nb x1.t (d1 W)).2.1 (je q.nb x1.t (d1 W)).1 w5.heap.size n q.c.vb q.pm q.vN (je q.nb x1.t (d1 W)).2.2),(15,gV w5.heap.size 52 13),(16,gP w5.heap.size 52)] (by kernel_rfl) ?_ ?_
 ·intro p hp
  simp only[List.mem_cons,List.mem_nil_iff,or_false] at hp
  rcases hp with rfl|rfl|rfl
  ·exact uE
  ·exact o9
  ·exact pc
 have ni5:=hNb.H4 hB55 (by decide) (by decide)
 have ni3:=hNb.H4 hB35 (by decide) (by decide)
 have niw:=hNb.H4 hq5.blk (by decide) (by decide)
 repeat (apply yd;rfl;rfl;(first|apply Hr|apply Og|apply az|apply bf|apply bj|apply aW|apply bM)<;>first|rfl|(apply Ar.mk;omega)|assumption|apply au)
 refine bE.val rfl rfl rfl rfl (aG rfl (fun W'=>DE _ W')) ?_
 rw[show UInt8.ofNat (1:Int).toNat+a.who%UInt8.ofNat (4:Int).toNat=W from hW.symm]
 skip
 refine bE.call rfl rfl rfl rfl (vs:=[.pointer (some ⟨q.c.vb,0,none⟩),dv (d1 W)]) (bz.of rfl) (fun W' _ _=>oA q.c.vb (d1 W) W') ?_
 skip
 refine bE.FT (vs:=[eR x1,.iface 197 (DH q.c.vb (d1 W))]) (DB (je q.nb x1.t (d1 W)).2.1 (je q.nb x1.t (d1 W)).1 w5.heap.size n q.c.vb q.pm q.vN (je q.nb x1.t (d1 W)).2.2) rfl rfl rfl rfl rfl (bz.of rfl) (fun W' hk _=>(pA (hNb.ay hk) (Nat.le_trans hn (Nat.le_trans k5.size hk.size)) (by omega) (hx5.ay hk) (d1 W)).mono (fun e W2 hh=>?_)) ?_ (fun y=>?_)
 ·obtain⟨y,v',he,h1,h2,h3,h4,h5,h6,h7⟩:=hh
  exact⟨(y,v'),he,⟨⟨⟨h1,h7⟩,fun g hg=>(h5 g hg).elim Or.inl (fun h=>Or.inr (Nat.le_trans hk.size h))⟩,h2,h3,cX h6 hk.size⟩,h4⟩
 ·intro j hj W1 W2 y hk hp
  refine pR (q:=fun D=>∀y,D.phi y W1→D.phi y W2) (fun _ _=>trivial) (fun p hp hne y hy=>?_) j hj y hp
  simp only[List.mem_cons,List.mem_nil_iff,or_false] at hp
  rcases hp with rfl|rfl|rfl
  ·exact absurd rfl hne
  ·exact FM hS hk y hy
  ·exact FN hS hk y hy
 repeat (apply yd;rfl;rfl;(first|apply az|apply dA)<;>rfl)
 refine bE.td rfl rfl rfl rfl rfl (Nat.le_refl _) (fun b8=>?_)
 refine bE.rW (l:=bV y.1) rfl rfl rfl rfl (by kernel_rfl) (ag rfl) (ag rfl) (au _) (Nat.le_refl _) (fun W hk hF=>⟨hF _ (.head _) (by kernel_rfl),cC _⟩) ?_ ?_
 ·intro p hp hne y w w' cs g0 g1 g2 g3 g4 g5
  simp only[List.mem_cons,List.not_mem_nil,or_false] at hp
  rcases hp with rfl|rfl|rfl
  ·exact uF g1 g3 y g5
  ·exact pa (au _) g3 g4 g5
  ·exact absurd rfl hne
 refine bE.tl (fun w6 hk6 hF=>?_)
 obtain⟨lb8,hB8⟩:w5.heap.size≤b8∧aF w6 b8 (.cells (bV y.1).toArray 52):=hF _ (.head _)
 obtain⟨⟨⟨hy,hyb⟩,hg⟩,hyI,hN6,hyo⟩:((y.1.t=(je q.nb x1.t (d1 W)).2.1∧(y.1.t.body≠[]→∀b off,y.1.a1=some ⟨b,off,none⟩→b∉aP y.1.s))∧∀g,y.2.ownBlock=some g→q.vN.ownBlock=some g∨w5.heap.size≤g)∧y.1.In 0 w6∧dm w6 n q.c.vb q.pm y.2 (je q.nb x1.t (d1 W)).2.2∧w6.ownsRow w5.heap.size 5 1 y.1.s y.1.t.sig.length (bO gw y.1.t.sig):=hF _ (.tail _ (.tail _ (.head _)))
 obtain⟨y,v'⟩:=y
 simp only at hB8 hy hyb hg hyI hN6 hyo
 clear hF z1 z2 z3
 have s6:=hk6.size
 have s05:=k5.size
 have k4l:=hB4.lt
 have hB4:aF w5 b4 (.cells (bV yL).toArray 52):=(hB4.ay hk3).kp k35 (bP (by omega))
 have ni4:=hNb.H4 hB4 (by decide) (by decide)
 have hB4:=hB4.kp hk6 ni4
 have hB56:=hB55.kp hk6 ni5
 have hB36:=hB35.kp hk6 ni3
 have hgg:∀g,v'.ownBlock=some g→q.vN.ownBlock=some g∨w.heap.size≤g:=fun g h=>(hg g h).imp id (fun h=>Nat.le_trans k5.size h)
 obtain⟨z,hz⟩:∃z,(je q.nb x1.t (d1 W)).1=z:=⟨_,rfl⟩
 rw[hz]
 obtain⟨nb',hnb'⟩:∃nb',(je q.nb x1.t (d1 W)).2.2=nb':=⟨_,rfl⟩
 have hnl':nb'.length≤q.nb.length+1∧ku q.nb nb':=by rw[←hnb'];exact⟨DX _ _ _,F9 _ _ _⟩
 rw[hnb'] at hN6
 have k6:=k5.any.trans hk6
 obtain⟨z1,-⟩:=aZ hB56
 have hx6:=hx5.gd hk6 hNb.Oi
 by_cases hz0:z=0
 rotate_left
 ·repeat (first|apply aj|(apply ar;rfl;(first|apply az|apply aD|apply dK)<;>first|rfl|(apply bN;first|assumption|omega)))
  refine bL rfl ?_
  repeat (first|apply aj|(apply ar;rfl;apply bj<;>first|rfl|assumption|exact List.not_mem_nil|apply au))
  refine SG.aN (l:=bV x1) rfl rfl (ag rfl) (ag rfl) hB4 (au _) rfl (cC _) (fun w7 hk7 hB7=>?_)
  have hr:Row w7 b4 0 (bV x1):=Row.all hB7 rfl
  clear z1
  repeat apply aj
  refine aO (Or.inl rfl) Tryz.results43 (aC.agg rfl rfl hr (au _)) ?_
  exact⟨x1,v',nb',rfl,hx6.gd hk7 (dh.cons (by omega) (dh.cells hB4 (by decide)) dh.nil),hN6.Dz hk7 hB4 (by decide) (by decide),k6.ai hk7 (aV (by omega)),hgg,hnl'⟩
 subst hz0
 clear z1
 obtain⟨-,-,-,-,-,-,z6,-⟩:_∧_∧_∧_∧_∧_∧Row w6 b3 6 [.bool a.bad]∧_:=by
  obtain⟨h1,h2,h3,h4,h5,h6,h7,h8,h9⟩:=fB hB36
  exact⟨h1,h2,h3,h4,h5,h6,h8,h9⟩
 repeat (first|apply aj|(apply ar;rfl;(first|apply az|apply aD|apply dK)<;>first|rfl|(apply bK;first|assumption|omega)))
 refine bG rfl ?_
 repeat (first|apply aj|(apply ar;rfl;(first|apply bf|apply aW)<;>first|rfl|assumption|exact List.not_mem_nil))
 refine CG.iR (fun L w'=>∃y2:Tm,aS [(4,.pointer (some ⟨b4,0,none⟩)),(8,.pointer (some ⟨b8,0,none⟩))] L∧aF w' b8 (.cells (bV y2).toArray 52)∧y2.In n w'∧dm w' n q.c.vb q.pm v' nb'∧Kp (b8::aP y.s) w6 w') ?_ ?_
 ·cases hbad:a.bad with
  |false=>
   refine bG rfl ?_
   repeat apply aj
   exact NG.cut ⟨y,by(repeat' (first|exact True.intro|exact rfl|refine And.intro ?_ ?_)),hB8,hyI.mono (Nat.zero_le n),hN6,Kp.refl _ _⟩
  |true=>
   refine bL rfl ?_
   obtain⟨-,-,-,-,-,-,z7⟩:=aZ hB8
   have hl2:y.t.sig.length≤2:=by rw[hy];exact DW _ _ _
   repeat (first|apply aj|(apply ar;rfl;(first|apply bf|apply aW)<;>first|rfl|assumption|exact List.not_mem_nil))
   refine SG.buildSlice rfl rfl rfl rfl PA (fun b7 w7 hk7 hb7 hB7=>?_)
   have s7:=hk7.size
   have lt8:=hB8.lt
   have ho7:=aT hyo hk7
   have hB87:=hB8.ay hk7
   refine SG.kr (enc:=gw) (xs:=y.t.sig) (ys:=[1]) (base:=w5.heap.size) rfl rfl rfl (ag rfl) (ag rfl) rfl rfl rfl rfl fA kL ho7 (iA (enc:=gw) (sz:=1) (x:=(1:UInt8)) fA hB7) (by simp only[maxLen,List.length_singleton];omega) (by show(y.t.sig.length+1)*1≤_;omega) (by omega) (fun vA wA hkA hoA hvA=>?_)
   have hyb7:=(hyI.ay hk7).b.SX hkA hyb
   have htb7:Tb 0 wA y.a1 y.t.body:=(hyI.ay hk7).t1.kp hkA hyb
   obtain⟨aA,cA,rfl,hSA⟩:=Bs.own hoA
   have tA:Ty 5 wA aA (y.t.sig++[1]):=Ty.own hoA
   have gA:=fN hoA
   have n8:b8∉aP y.s:=fun hm=>cK ho7 (by decide) hB87 _ (aH hm) (List.mem_singleton.2 rfl)
   have hB8A:=hB87.kp hkA n8
   have hNA:=hN6.ay hk7
   clear z7
   repeat (apply ar;rfl;apply aW<;>rfl)
   refine SG.cr (dc y.t.frm++[.int .i64 y.t.non,.int .i64 y.t.fee,.int .i64 y.t.kind,.slice y.a1 y.t.body.length y.c1]) [.slice y.a2 y.t.sig.length y.c2] [] rfl rfl (ag rfl) (ag rfl) hB8A (by simp[bV,Tm.b,Tm.s]) rfl rfl (by simp[ah]) rfl (fun wC hkC hBC=>?_)
   have hBC:aF wC b8 (.cells (bV ⟨{y.t with sig:=y.t.sig++[1]},y.a1,y.c1,aA,cA⟩).toArray 52):=by
    have e:bV ⟨{y.t with sig:=y.t.sig++[1]},y.a1,y.c1,aA,cA⟩=(dc y.t.frm++[.int .i64 y.t.non,.int .i64 y.t.fee,.int .i64 y.t.kind,.slice y.a1 y.t.body.length y.c1])++([.slice aA (y.t.sig++[1]).length cA]++[]):=by simp[bV,Tm.b,Tm.s]
    rw[e]
    exact hBC
   repeat apply aj
   obtain⟨c1,c2⟩:=hyb7.gd htb7 hkC (qG hB8A (by decide))
   obtain⟨c3,c4⟩:=hSA.gd (n:=0) (Or.inl tA) hkC (qG hB8A (by decide))
   exact NG.cut ⟨_,by(repeat' (first|exact True.intro|exact rfl|refine And.intro ?_ ?_)),hBC,⟨c1,c3,c2.mono (Nat.zero_le n),c4.mono (Nat.zero_le n),hyI.l1,by simp only[List.length_append,List.length_singleton];omega⟩,(hNA.SZ ho7 (by decide) (by decide) hkA).Dz hkC hB8A (by decide) (by decide),(hk7.any.trans (hkA.mono (fun z hz=>List.mem_cons_of_mem _ hz))).trans (hkC.mono (fun z hz=>by rw[List.mem_singleton] at hz;rw[hz];exact List.mem_cons_self))⟩
 rintro L w7 ⟨y2,hL,hB87,hy7,hN7,hk7⟩
 refine CG.to _ hL ?_
 have hB47:=hB4.kp hk7 (fun hm=>by
  rcases List.mem_cons.1 hm with h|hm
  ·omega
  ·have:=cp hyo b4 (aH hm);omega)
 have z1:Row w7 b8 0 (bV y2):=Row.all hB87 rfl
 repeat (first|apply aj|(apply ar;rfl;apply bj<;>first|rfl|assumption|exact List.not_mem_nil|apply au))
 refine SG.aN (l:=bV y2) rfl rfl (ag rfl) (ag rfl) hB47 (au _) rfl (cC _) (fun w8 hk8 hB48=>?_)
 have hr:Row w8 b4 0 (bV y2):=Row.all hB48 rfl
 clear z1
 repeat apply aj
 refine aO (Or.inl rfl) Tryz.results43 (aC.agg rfl rfl hr (au _)) ?_
 have s7:=hk7.size
 exact⟨y2,v',nb',rfl,hy7.gd hk8 (dh.cons (by omega) (dh.cells hB47 (by decide)) dh.nil),hN7.Dz hk8 hB47 (by decide) (by decide),(k6.ai hk7 (fun z hz=>Or.inr (by
  rcases List.mem_cons.1 hz with rfl|hz
  ·omega
  ·have:=cp hyo z (aH hz);omega))).ai hk8 (aV (by omega)),hgg,hnl'⟩
end
section
open Go.ChangeShapes Go.WideShapes Go.ChangeAt Go.RowKit
theorem own:ownKnob Tryz.prog.godebug=none:=by kernel_rfl
theorem laidOut:laidOutB Tryz.prog=true:=by kernel_rfl
theorem sS:Tryz.prog.cellsOf 5=1:=by kernel_rfl
theorem GZ:Tryz.prog.cellsOf 3=1:=by kernel_rfl
theorem GY:Tryz.prog.cellsOf 4=1:=by kernel_rfl
theorem EZ:Tryz.prog.cellsOf 23=1:=by kernel_rfl
theorem GX:Tryz.prog.cellsOf 33=1:=by kernel_rfl
theorem EY:Tryz.prog.cellsOf 22=3:=by kernel_rfl
theorem EX:Tryz.prog.cellsOf 24=4:=by kernel_rfl
theorem xi:Tryz.prog.cellsOf 35=9:=by kernel_rfl
theorem F1{n:Int}(h:(Lit.int .u16 n).wf=true):0≤n∧n<65536:=by
 simp[Lit.wf,IntKind.min,IntKind.max,IntKind.signed,IntKind.bits] at h
 omega
theorem fy{α:Type}(l:List α)(a n:Nat):l.drop a=(l.drop a).take n++l.drop (a+n):=by
 rw[←List.drop_drop,List.take_append_drop]
theorem one_le{H:Type}(d:DataW H):1≤Rows.uptoBulk d:=by
 cases d with
 |lit l=>cases l<;>simp[Rows.uptoBulk]
 |nil=>simp[Rows.uptoBulk]
 |ptr d=>simp[Rows.uptoBulk]
 |slice elems spare=>simp[Rows.uptoBulk]
 |agg parts=>simp[Rows.uptoBulk]
 |iface t d=>simp[Rows.uptoBulk]
 |map entries=>simp[Rows.uptoBulk]
 |held h=>simp[Rows.uptoBulk]
theorem sm{H:Type}{d:DataW H}{l:List (DataW H)}(h:d∈l):Rows.uptoBulk d≤Rows.uptoBulkAll l:=by
 induction l with
 |nil=>cases h
 |cons x r ih=>
  simp only[Rows.uptoBulkAll]
  cases List.mem_cons.1 h with
  |inl e=>subst e;omega
  |inr e=>have:=ih e;omega
theorem length_le{H:Type}(l:List (DataW H)):l.length≤Rows.uptoBulkAll l:=by
 induction l with
 |nil=>simp[Rows.uptoBulkAll]
 |cons x r ih=>have:=one_le x;simp only[Rows.uptoBulkAll,List.length_cons];omega
structure QT{H:Type}(en:TypeId×Value→H)(P:Program)(w:World)(e:TypeId)(a:Option Addr)(n B:Nat):Prop where
 row:∀i,i<n→∃b off cs fuel y,a=some ⟨b,off,none⟩∧Row w b (off+i*P.cellsOf e) cs∧DataW.trod en P w 0 (fun _=>true) true fuel e cs=some y∧Rows.uptoBulk y.1≤B
theorem tR{H:Type}{en:TypeId×Value→H}{P:Program}{w:World}{t e:TypeId}{cs:List Value}{fuel B:Nat}{y:DataW H×List MemPlace}(ht:P.underlying t=some (.slice e))(he:0<P.cellsOf e)
  (hf:DataW.trod en P w 0 (fun _=>true) true fuel t cs=some y) (hB:Rows.uptoBulk y.1≤B):∃a n c,cs=[.slice a n c]∧n≤c∧c≤B∧(n=0∧a=none∨(∃b off,a=some ⟨b,off,none⟩)∨c=0)∧QT en P w e a n B:=by
 rcases Go.Deep.open_slice ht hf with⟨hc,_⟩|⟨a,len,cap,m,n,D,Pl,hc,_,hl,hm,hmm,hx,hall⟩
 ·exact⟨none,0,0,hc,Nat.le_refl _,Nat.zero_le _,Or.inl ⟨rfl,rfl⟩,⟨fun i hi=>absurd hi (Nat.not_lt_zero _)⟩⟩
 ·subst hc
  have hmc:m=cap:=by rw[hmm];simp
  rw[hx] at hB
  simp only[Rows.uptoBulk] at hB
  have l1:=length_le ((List.range len).map D)
  have l2:=length_le ((List.range (m-len)).map fun j=>D (len+j))
  simp only[List.length_map,List.length_range] at l1 l2
  have row:∀i,i<m→∃b off cs y,(some a:Option Addr)=some ⟨b,off,none⟩∧Row w b (off+i*P.cellsOf e) cs∧DataW.trod en P w 0 (fun _=>true) true n e cs=some y∧y.1=D i:=fun i hi=>by
   obtain⟨cs0,h10,_⟩:=hall 0 (by omega)
   obtain⟨b,off,ha,_,_⟩:=mw h10 he
   have ha':a=⟨b,off,none⟩:=by simpa[Addr.add] using ha
   subst ha'
   obtain⟨cs,h1,h2⟩:=hall i hi
   rw[dd] at h1
   obtain⟨b2,off2,hb2,hr,hlen⟩:=mw h1 he
   cases hb2
   exact⟨b,off,cs,_,rfl,hr,h2,rfl⟩
  refine⟨some a,len,cap,rfl,hl,by omega,?_,⟨fun i hi=>?_⟩⟩
  ·by_cases h0:cap=0
   ·exact Or.inr (Or.inr h0)
   ·obtain⟨b,off,cs,y,h1,-⟩:=row 0 (by omega)
    exact Or.inr (Or.inl ⟨b,off,h1⟩)
  ·obtain⟨b,off,cs,y,h1,h2,h3,h4⟩:=row i (by omega)
   have:=sm (List.mem_map.2 ⟨i,List.mem_range.2 hi,rfl⟩:D i∈(List.range len).map D)
   exact⟨b,off,cs,_,y,h1,h2,h3,by rw[h4];omega⟩
theorem rF{H α:Type}{en:TypeId×Value→H}{P:Program}{w:World}{e:TypeId}{a:Option Addr}{n B:Nat}(enc:α→List Value)(p:α→Prop)(h:QT en P w e a n B)
  (rd:∀cs fuel y,DataW.trod en P w 0 (fun _=>true) true fuel e cs=some y→Rows.uptoBulk y.1≤B→∃x:α,cs=enc x∧p x):∃l:List α,l.length=n∧Sl enc (P.cellsOf e) w a l∧∀x∈l,p x:=by
 have key:∀i:_root_.Fin n,∃x:α,(∃b off,a=some ⟨b,off,none⟩∧Row w b (off+i.1*P.cellsOf e) (enc x))∧p x:=by
  intro i
  obtain⟨b,off,cs,fuel,y,h1,h2,h4,h5⟩:=h.row i.1 i.2
  obtain⟨x,rfl,hp⟩:=rd cs fuel y h4 h5
  exact⟨x,⟨b,off,h1,h2⟩,hp⟩
 refine⟨List.ofFn (fun i=>Classical.choose (key i)),by simp,fun i x hx=>?_,fun x hx=>?_⟩
 ·rw[List.getElem?_ofFn] at hx
  split at hx
  ·rename_i hi
   cases hx
   exact(Classical.choose_spec (key ⟨i,hi⟩)).1
  ·cases hx
 ·obtain⟨i,rfl⟩:=List.mem_ofFn.1 hx
  exact(Classical.choose_spec (key i)).2
theorem CU{H:Type}{en:TypeId×Value→H}{w:World}{cs:List Value}{fuel B:Nat}{y:DataW H×List MemPlace}(hf:DataW.trod en Tryz.prog w 0 (fun _=>true) true fuel 33 cs=some y)(hB:Rows.uptoBulk y.1≤B):
  ∃a c l,cs=[.slice a (l:List UInt8).length c]∧Bs w a c l∧(l≠[]→∀b off,a=some ⟨b,off,none⟩→b<w.heap.size)∧l.length≤c∧l.length≤B:=by
 obtain⟨a,n,c,e,hn,hc,hs,hS⟩:=tR Tryz.underlying33 (by rw[sS];omega) hf hB
 obtain⟨l,h1,h2,-⟩:=rF (fun u:UInt8=>[bv u]) (fun _=>True) hS (fun cs fuel y hy _=>by
  obtain⟨u,e⟩:=j0 Tryz.underlying5 hy
  exact⟨u,e,trivial⟩)
 rw[sS] at h2
 subst h1
 have lt:l≠[]→∀b off,a=some ⟨b,off,none⟩→b<w.heap.size:=fun hne b off e=>by
  obtain⟨b',off',e',hr⟩:=h2.at (List.length_pos_iff.2 hne)
  rw[e] at e'
  cases e'
  exact hr.lt
 refine⟨a,c,l,e,⟨h2,hn,?_,lt⟩,lt,hn,by omega⟩
 rcases hs with⟨h,rfl⟩|h|h
 ·exact Or.inl ⟨List.eq_nil_of_length_eq_zero h,rfl⟩
 ·exact Or.inr (Or.inl h)
 ·exact Or.inr (Or.inr ⟨List.eq_nil_of_length_eq_zero (by omega),h⟩)
set_option maxRecDepth 100000 in
theorem Hg{H:Type}{enc:TypeId×Value→H}{w:World}{cs:List Value}{fuel:Nat}{y:DataW H×List MemPlace}(h:DataW.trod enc Tryz.prog w 0 (fun _=>true) true fuel 35 cs=some y)(hB:Rows.uptoBulk y.1≤1048576):∃x:Ax,cs=qx x∧x.In w.heap.size w∧x.body.length≤10000000:=by
 obtain⟨xs,m,_,hy,hl,hlen,hf⟩:=DataW.trod_struct Tryz.underlying35 h
 rw[xi] at hl
 rw[hy] at hB
 match xs,hlen with
 |[y0,y1,y2,y3,y4,y5,y6,y7,y8],_=>
  simp only[Rows.uptoBulk,Rows.uptoBulkAll,List.map_cons,List.map_nil] at hB
  have h0:DataW.trod enc Tryz.prog w 0 (fun _=>true) true m 5 ((cs.drop 0).take (Tryz.prog.cellsOf 5))=some y0:=hf 0 _ rfl
  have h1:DataW.trod enc Tryz.prog w 0 (fun _=>true) true m 5 ((cs.drop 1).take (Tryz.prog.cellsOf 5))=some y1:=hf 1 _ rfl
  have h2:DataW.trod enc Tryz.prog w 0 (fun _=>true) true m 3 ((cs.drop 2).take (Tryz.prog.cellsOf 3))=some y2:=hf 2 _ rfl
  have h3:DataW.trod enc Tryz.prog w 0 (fun _=>true) true m 3 ((cs.drop 3).take (Tryz.prog.cellsOf 3))=some y3:=hf 3 _ rfl
  have h4:DataW.trod enc Tryz.prog w 0 (fun _=>true) true m 3 ((cs.drop 4).take (Tryz.prog.cellsOf 3))=some y4:=hf 4 _ rfl
  have h5:DataW.trod enc Tryz.prog w 0 (fun _=>true) true m 33 ((cs.drop 5).take (Tryz.prog.cellsOf 33))=some y5:=hf 5 _ rfl
  have h6:DataW.trod enc Tryz.prog w 0 (fun _=>true) true m 4 ((cs.drop 6).take (Tryz.prog.cellsOf 4))=some y6:=hf 6 _ rfl
  have h7:DataW.trod enc Tryz.prog w 0 (fun _=>true) true m 5 ((cs.drop 7).take (Tryz.prog.cellsOf 5))=some y7:=hf 7 _ rfl
  have h8:DataW.trod enc Tryz.prog w 0 (fun _=>true) true m 33 ((cs.drop 8).take (Tryz.prog.cellsOf 33))=some y8:=hf 8 _ rfl
  rw[sS] at h0 h1 h7
  rw[GZ] at h2 h3 h4
  rw[GX] at h5 h8
  rw[GY] at h6
  obtain⟨u0,e0⟩:=j0 Tryz.underlying5 h0
  obtain⟨u1,e1⟩:=j0 Tryz.underlying5 h1
  obtain⟨n2,e2,_,_⟩:=DataW.trod_int Tryz.underlying3 h2
  obtain⟨n3,e3,_,_⟩:=DataW.trod_int Tryz.underlying3 h3
  obtain⟨n4,e4,_,_⟩:=DataW.trod_int Tryz.underlying3 h4
  obtain⟨a5,c5,l5,e5,b5,t5,g5,k5⟩:=CU (B:=1048576) h5 (by omega)
  obtain⟨q6,e6,_⟩:=DataW.trod_bool Tryz.underlying4 h6
  obtain⟨u7,e7⟩:=j0 Tryz.underlying5 h7
  obtain⟨a8,c8,l8,e8,b8,t8,g8,k8⟩:=CU (B:=1048576) h8 (by omega)
  refine⟨⟨u0,u1,n2,n3,n4,a5,c5,l5,q6,u7,a8,c8,l8⟩,?_,⟨b5,t5,b8,t8,g5,g8,by show l8.length≤_;omega⟩,by show l5.length≤_;omega⟩
  have hd:cs.drop (8+1)=[]:=List.drop_of_length_le (by omega)
  have e:cs=cs.drop 0:=rfl
  rw[e,fy cs 0 1,e0,fy cs (0+1) 1,e1,fy cs (0+1+1) 1,e2,fy cs (0+1+1+1) 1,e3,fy cs (0+1+1+1+1) 1,e4,fy cs (0+1+1+1+1+1) 1,e5,fy cs (0+1+1+1+1+1+1) 1,e6,fy cs (0+1+1+1+1+1+1+1) 1,e7,fy cs (0+1+1+1+1+1+1+1+1) 1,e8,hd]
  rfl
set_option maxRecDepth 100000 in
theorem yA{H:Type}{enc:TypeId×Value→H}{w:World}{v:Value}{d:DataW H}{ps:List MemPlace}{b0:Nat}(hval:Value.okWide Tryz.prog w .any b0 25 v)(h:DataW.Trod enc Tryz.prog w 0 (fun _=>true) true 25 v d ps)(hB:Rows.uptoBulk d≤1048576):
  ∃a c acts,v= .slice a (acts:List Ax).length c∧Sl qx 9 w a acts∧(∀x∈acts,x.In w.heap.size w)∧∀x∈acts,x.body.length≤10000000:=by
 obtain⟨a,n,c,rfl⟩:=okWide_slice Tryz.underlying25 hval
 obtain⟨fuel,hf⟩:=h
 obtain⟨a',n',c',e,hn,hc,-,hS⟩:=tR (B:=1048576) Tryz.underlying25 (by rw[xi];omega) hf hB
 simp only[Value.cells,List.cons.injEq,Value.slice.injEq,and_true] at e
 obtain⟨rfl,rfl,rfl⟩:=e
 obtain⟨l,h1,h2,h3⟩:=rF qx (fun x=>x.In w.heap.size w∧x.body.length≤10000000) hS (fun cs fuel y hy hb=>Hg hy hb)
 rw[xi] at h2
 subst h1
 exact⟨a,c,l,rfl,h2,fun x hx=>(h3 x hx).1,fun x hx=>(h3 x hx).2⟩
set_option maxRecDepth 100000 in
theorem IZ{H:Type}{enc:TypeId×Value→H}{w:World}{v:Value}{d:DataW H}{ps:List MemPlace}{b0:Nat}(hval:Value.okWide Tryz.prog w .any b0 22 v)(h:DataW.Trod enc Tryz.prog w 0 (fun _=>true) true 22 v d ps):∃f l s:UInt8,v= .agg #[bv f,bv l,bv s]:=by
 simp only[Value.okWide,Tryz.underlying22] at hval
 obtain⟨xs,rfl,_⟩:=hval
 obtain⟨fuel,hf⟩:=h
 obtain⟨⟨x,hl⟩,hx⟩:=z8 Tryz.underlying22 Tryz.underlying5 sS EY hf
 match x,hl with
 |[p,q,r],hl=>
  refine⟨p,q,r,?_⟩
  have hx:xs.toList=dc ⟨[p,q,r],hl⟩:=by simpa[Value.cells] using hx
  have:xs.toList=[bv p,bv q,bv r]:=hx.trans rfl
  have e:xs= #[bv p,bv q,bv r]:=Array.toList_inj.1 (by simpa using this)
  rw[e]
set_option maxRecDepth 100000 in
theorem HD{H:Type}{enc:TypeId×Value→H}{w:World}{v:Value}{d:DataW H}{ps:List MemPlace}{b0:Nat}(hval:Value.okWide Tryz.prog w .any b0 24 v)(h:DataW.Trod enc Tryz.prog w 0 (fun _=>true) true 24 v d ps):∃l:List Nat,v=Fs l∧∀x∈l,x<65536:=by
 simp only[Value.okWide,Tryz.underlying24] at hval
 obtain⟨xs,rfl,_⟩:=hval
 obtain⟨fuel,hf⟩:=h
 obtain⟨ys,m,_,_,hl,hxl,hat⟩:=DataW.trod_array Tryz.underlying24 hf
 rw[EX] at hl
 have hl:xs.toList.length=4:=hl
 obtain⟨cs,hcs⟩:∃cs,(Value.agg xs).cells.toList=cs:=⟨_,rfl⟩
 have hxs:xs.toList=cs:=hcs
 rw[hxs] at hl
 rw[hcs] at hat
 match cs,hl with
 |[c0,c1,c2,c3],_=>
  have k:∀i (hi:i<4),∃n:Nat,[c0,c1,c2,c3][i]?=some (.int .u16 n)∧n<65536:=fun i hi=>by
   have h:=hat i hi
   rw[EZ] at h
   rw[List.getElem?_eq_getElem (by rw[hxl];exact hi)] at h
   obtain⟨z,e,_,wf⟩:=DataW.trod_int Tryz.underlying23 h
   obtain⟨z0,z1⟩:=F1 wf
   refine⟨z.toNat,?_,by omega⟩
   have e:([c0,c1,c2,c3].drop (i*1)).take 1=[.int .u16 z]:=e
   rw[Nat.mul_one] at e
   have e2:(([c0,c1,c2,c3].drop i).take 1)[0]?=some (.int .u16 z):=by rw[e];rfl
   rw[List.getElem?_take,if_pos (by omega),List.getElem?_drop,Nat.add_zero] at e2
   rw[e2]
   have:((z.toNat:Nat):Int)=z:=by omega
   rw[this]
  obtain⟨n0,e0,p0⟩:=k 0 (by omega)
  obtain⟨n1,e1,p1⟩:=k 1 (by omega)
  obtain⟨n2,e2,p2⟩:=k 2 (by omega)
  obtain⟨n3,e3,p3⟩:=k 3 (by omega)
  refine⟨[n0,n1,n2,n3],?_,fun x hx=>?_⟩
  ·obtain rfl:c0= .int .u16 n0:=Option.some.inj e0
   obtain rfl:c1= .int .u16 n1:=Option.some.inj e1
   obtain rfl:c2= .int .u16 n2:=Option.some.inj e2
   obtain rfl:c3= .int .u16 n3:=Option.some.inj e3
   have e:xs=(yJ [n0,n1,n2,n3]).toArray:=Array.toList_inj.1 (by rw[hxs];rfl)
   rw[e]
   rfl
  ·simp only[List.mem_cons,List.mem_nil_iff,or_false] at hx
   rcases hx with rfl|rfl|rfl|rfl<;>assumption
end
section
open Go.ChangeShapes Go.WideShapes Go.ChangeAt Go.RowKit
def B2:DataW Unit→Array Value
 | .agg l=>(l.map (fun d=>match d with| .lit (.int k n)=>Value.int k n|_=>undef)).toArray
 |_=> #[]
def pO(d:DataW Unit):Obj→Obj
 | .cells _ t frozen=> .cells (B2 d) t frozen
 |o=>o
noncomputable def nM(os:Os):World:=
 {World.holding Tryz.prog os ⟨#[],#[],[]⟩ with heap:=(((World.holding Tryz.prog os ⟨#[],#[],[]⟩).heap.modify 1 (pO Rows.laid_internal_strconv_uint64pow10)).modify 2 (pO Rows.laid_math_bits_deBruijn32tab)).modify 3 (pO Rows.laid_math_bits_deBruijn64tab)}
def Fe:Value:= .agg #[.int .u8 0,.int .u8 0,.int .u8 0]
def Fc:Value:= .agg #[.int .u16 0,.int .u16 0,.int .u16 0,.int .u16 0]
end
section
structure Tr.tj(t t':Tr):Prop where
 first:t.first=t'.first
 tip:t.tip=t'.tip
 depth:t.depth=t'.depth
 len:t.nodes.length=t'.nodes.length
 nodes:∀x,aB t.nodes x=aB t'.nodes x
theorem Tr.tj.symm{t t':Tr}(h:t.tj t'):t'.tj t:=⟨h.first.symm,h.tip.symm,h.depth.symm,h.len.symm,fun x=>(h.nodes x).symm⟩
theorem Tr.tj.has{t t':Tr}(h:t.tj t')(x:Dg):t.has x=t'.has x:=by unfold Tr.has;rw[h.nodes]
theorem Tr.tj.nd{t t':Tr}(h:t.tj t')(x:Dg):t.nd x=t'.nd x:=by unfold Tr.nd;rw[h.nodes]
theorem Tr.tj.ht{t t':Tr}(h:t.tj t')(x:Dg):t.ht x=t'.ht x:=by unfold Tr.ht;rw[h.nd]
theorem Tr.tj.par{t t':Tr}(h:t.tj t')(x:Dg):t.par x=t'.par x:=by unfold Tr.par;rw[h.nd]
theorem Tr.tj.wf{t t':Tr}(h:t.tj t')(wf:t.WF):t'.WF:=by
 refine⟨?_,?_,?_,fun x hx hne=>?_,fun x hx=>?_,?_,?_⟩
 ·rw[←h.first,←h.has];exact wf.first
 ·rw[←h.first,←h.ht];exact wf.h0
 ·rw[←h.tip,←h.has];exact wf.tip
 ·rw[←h.has] at hx
  have:=wf.up x hx (by rw[h.first];exact hne)
  rw[←h.par,←h.has,←h.ht,←h.ht]
  exact this
 ·rw[←h.has] at hx
  rw[←h.ht,←h.ht,←h.tip]
  exact wf.top x hx
 ·rw[←h.len];exact wf.small
 ·rw[←h.ht,←h.tip,←h.len];exact wf.low
attribute [local irreducible] CG NG SG aK aI Row aF aE aM
theorem uz{w:World}{bt bm:Nat}{t:Tr}(hT:cj w bt bm t):Calls Tryz.prog 66 #[.pointer (some ⟨bt,0,none⟩)] w (fun e w'=>∃bt' bm' t',e= .returned (.pointer (some ⟨bt',0,none⟩))∧cj w' bt' bm' t'∧t.tj t'∧w.heap.size≤bt'∧w.heap.size≤bm'∧bt'≠bm'∧Kp [] w w'):=by
 refine bA Tryz.func66 rfl Tryz.ntmps66 rfl ?_
 repeat (first|apply aj|(apply ar;rfl;(first|apply az|apply aD|apply iC)<;>rfl))
 refine bG rfl ?_
 repeat apply aj
 have hr0:=hT.r0
 have hr8:=hT.r8
 have hr16:=hT.HW
 have hr17:=hT.vT
 have hm:=hT.map
 refine CG.dM mixed 18 [0,1,2,3,4,5,6,7,8,9,10,11,12,13,14,15,16,17] [17] [] (fun _=>True) (by kernel_rfl) trivial (fun _ _ _ _=>trivial) ?_
 repeat (apply bZ;rfl;rfl;(first|apply az|apply bf|apply bj|apply aW|apply bM|apply D7)<;>first|rfl|assumption|exact List.not_mem_nil|apply ah)
 refine aI.mM (dv (n:=8)) sF rfl rfl rfl rfl (ag rfl) (fun bm'=>?_)
 refine aI.tl (fun w1 hk1 _ hR=>?_)
 obtain⟨hbm',hm'⟩:=hR
 refine SG.val rfl rfl rfl rfl (aG rfl (fun w=>IQ w t.first t.tip t.depth bm')) ?_
 refine SG.box rfl rfl rfl (ag rfl) (fun bt' w2 hk2 hbt' hBt'=>?_)
 have hT1:=(hT.ay hk1).ay hk2
 have hr17:=hT1.vT
 repeat (first|apply aj|(apply ar;rfl;(first|apply az|apply aD|apply bf|apply aW|apply bM)<;>first|rfl|assumption|exact List.not_mem_nil))
 refine SG.range rfl rfl rfl (ag rfl) hT1.map (fun r w3 hk3 hr3 hI=>?_)
 have eT:=hT.blk.lt
 have eM:=hT.map.lt
 have s1:=hk1.size
 have s2:=hk2.size
 have e1:=hm'.lt
 have e2:=hBt'.lt
 have hT3:=hT1.ay hk3
 have hm':=(hm'.ay hk2).ay hk3
 have hBt':=hBt'.ay hk3
 have hk:=(hk1.trans hk2).trans hk3
 have hnd:=hT.map.nodup
 repeat apply aj
 refine CG.loop (X:=List (Dg×Kn)×List (Dg×Kn)×Option (Dg×Kn)) (fun _=>[(0,.pointer (some ⟨bt,0,none⟩)),(3,.pointer (some ⟨bt',0,none⟩)),(32,.pointer (some ⟨r,0,none⟩))])
  (fun x w'=>Kp [] w w'∧w3.heap.size≤w'.heap.size∧cj w' bt bm t∧aM w' r bm (dv (n:=8)) sF t.nodes x.2.1 x.2.2∧cj w' bt' bm' {t with nodes:=x.1}∧(x.1++x.2.1).Perm t.nodes)
  (fun x=>x.2.1.length) ([],t.nodes,none) ⟨hk,Nat.le_refl _,hT3,hI,⟨hBt',hm'⟩,by simp⟩ (aS.of rfl) ?_
 rintro⟨done,left,cur⟩ w4 ⟨hk,hsz,hT4,hI,hC,hp⟩
 simp only at hI hC hp
 have eI:=hI.Dw
 repeat apply aj
 refine SG.next rfl rfl rfl (ag rfl) hI (fun h0=>?_) (fun pre p post w5 hl hk5 hI5=>?_)
 ·repeat (first|apply aj|(apply ar;rfl;apply dA<;>rfl))
  refine bG rfl ?_
  repeat (first|apply aj|(apply ar;rfl;(first|apply az|apply aD)<;>rfl))
  refine aO (Or.inl rfl) Tryz.results66 (aC.tmp rfl) ?_
  subst h0
  rw[List.append_nil] at hp
  exact⟨bt',bm',_,rfl,hC,⟨rfl,rfl,rfl,hp.length_eq.symm,fun x=>jz hp.symm hnd x⟩,by omega,by omega,by omega,hk⟩
 ·repeat (first|apply aj|(apply ar;rfl;apply dA<;>rfl))
  refine bL rfl ?_
  repeat (first|apply aj|(apply ar;rfl;(first|apply dA|apply Ge)<;>first|rfl|assumption|exact List.not_mem_nil))
  refine SG.alloc rfl rfl rfl (fun b4 w6 hk6 hb4 hB4=>?_)
  refine SG.alloc rfl rfl rfl (fun b5 w7 hk7 hb5 hB5=>?_)
  have eT:=hT4.blk.lt
  have eM:=hT4.map.lt
  have eC:=hC.blk.lt
  have eD:=hC.map.lt
  have s5:=hk5.size
  have s6:=hk6.size
  have e4:=hB4.lt
  refine SG.aN (old:=dc (n:=8) ⟨[0,0,0,0,0,0,0,0],rfl⟩) rfl rfl (ag rfl) (ag rfl) (hB4.ay hk7) (ah _) (ah _) (bu _) (fun w8 hk8 hB4=>?_)
  refine SG.aN (old:=kc xZ) rfl rfl (ag rfl) (ag rfl) (hB5.kp hk8 (by first|exact bP (by omega)|exact fG (by omega) (by omega))) (aU _) (aU _) (fK _) (fun w9 hk9 hB5=>?_)
  have hB4:=hB4.kp hk9 (by first|exact bP (by omega)|exact fG (by omega) (by omega))
  have hk59:=((hk6.trans hk7).ai hk8 (by first|exact aV (by omega)|exact gj (by omega) (by omega))).ai hk9 (by first|exact aV (by omega)|exact gj (by omega) (by omega))
  have hT9:=(hT4.kp hk5 (by first|exact bP (by omega)|exact fG (by omega) (by omega)) (by first|exact bP (by omega)|exact fG (by omega) (by omega))).ay hk59
  have hC9:=(hC.kp hk5 (by first|exact bP (by omega)|exact fG (by omega) (by omega)) (by first|exact bP (by omega)|exact fG (by omega) (by omega))).ay hk59
  have hI9:=hI5.ay hk59
  have s9:=hk59.size
  have hk:=hk.ai (hk5.trans hk59.any) (by first|exact aV (by omega)|exact gj (by omega) (by omega))
  have hR4:Row w9 b4 0 (dc p.1):=Row.all hB4 rfl
  have hR5:Row w9 b5 0 (kc p.2):=Row.all hB5 rfl
  have hr17:=hC9.vT
  repeat apply aj
  refine CG.tail mixed 6 [0,1,2,3,4,5] (by kernel_rfl) ?_
  repeat (apply bZ;rfl;rfl;(first|apply az|apply bf|apply bj|apply aW|apply bM)<;>first|rfl|assumption|exact List.not_mem_nil|apply ah|apply aU)
  refine aI.tl (fun w10 hk10 _ _=>?_)
  have hT10:=hT9.ay hk10
  have hC10:=hC9.ay hk10
  have hI10:=hI9.ay hk10
  have s10:=hk10.size
  refine SG.mapUpdate (enc:=dv (n:=8)) (V:=sF) (kx:=p.1) (vy:=p.2) rfl rfl (ag rfl) (ag rfl) (ag rfl) hC10.map gr.key (fun w11 hk11 hm11=>?_)
  repeat apply aj
  have hp2:(done++p::(pre++post)).Perm t.nodes:=by
   refine List.Perm.trans ?_ hp
   rw[hl]
   exact List.Perm.append_left done (List.perm_middle.symm)
  have hnone:aB done p.1=none:=by
   rw[dV]
   intro q hq e
   have hn2:((done++p::(pre++post)).map (·.1)).Nodup:=(hp2.map _).nodup_iff.2 hnd
   rw[List.map_append,List.map_cons] at hn2
   exact(List.nodup_append.1 hn2).2.2 q.1 (List.mem_map.2 ⟨q,hq,rfl⟩) p.1 (by simp) e
  rw[hZ _ hnone] at hm11
  have s11:=hk11.size
  exact NG.round (done++[p],pre++post,some p) (aS.of rfl) ⟨(hk.trans hk10).ai hk11 (by first|exact aV (by omega)|exact gj (by omega) (by omega)),by omega,hT10.kp hk11 (by first|exact bP (by omega)|exact fG (by omega) (by omega)) (by first|exact bP (by omega)|exact fG (by omega) (by omega)),hI10.kp hk11 (by first|exact bP (by omega)|exact fG (by omega) (by omega)) (by first|exact bP (by omega)|exact fG (by omega) (by omega)),⟨hC10.blk.kp hk11 (by first|exact bP (by omega)|exact fG (by omega) (by omega)),hm11⟩,by simpa using hp2⟩ (by simp only[hl];simp)
end
section
def sR(b:Bd)(vb:Nat)(d:Dg)(tb pb:Nat)(m:Value):List Value:=iT b++(.iface 40 (.pointer (some ⟨vb,0,none⟩))::(dc d++[.pointer (some ⟨tb,0,none⟩),.pointer (some ⟨pb,0,none⟩),m]))
theorem PJ(b:Bd)(vb:Nat)(d:Dg)(tb pb:Nat)(w:World):(Instr.build 127 #[(0,Am b),(1,.iface 40 (.pointer (some ⟨vb,0,none⟩))),(2,dv d),(3,.pointer (some ⟨tb,0,none⟩)),(4,.pointer (some ⟨pb,0,none⟩))]).run Tryz.prog w= .ok (.agg (sR b vb d tb pb (.map none)).toArray) w:=by
 obtain⟨l,h⟩:=d
 match l,h with
 |[d0,d1,d2,d3,d4,d5,d6,d7],_=>exact IX w vb tb pb b.fork b.leave b.sleep d0 d1 d2 d3 d4 d5 d6 d7
def uS(b:Bd)(vb:Nat)(d:Dg)(tb pb:Nat):List Value:=iT b++(.iface 40 (.pointer (some ⟨vb,0,none⟩))::(dc d++[.pointer (some ⟨tb,0,none⟩),.pointer (some ⟨pb,0,none⟩)]))
theorem CH(b:Bd)(vb:Nat)(d:Dg)(tb pb:Nat)(m:Value):(sR b vb d tb pb m).toArray.toList=uS b vb d tb pb++([m]++[]):=by simp[sR,uS]
theorem rJ(b:Bd)(vb:Nat)(d:Dg)(tb pb:Nat)(m:Value):uS b vb d tb pb++([m]++[])=sR b vb d tb pb m:=by simp[sR,uS]
theorem uR(b:Bd)(vb:Nat)(d:Dg)(tb pb:Nat):(uS b vb d tb pb).length=14:=by simp[uS,iT,ah]
theorem CF{w:World}{cb:Nat}{b:Bd}{vb:Nat}{d:Dg}{tb pb:Nat}{m:Value}(h:aF w cb (.cells (sR b vb d tb pb m).toArray 127)):Row w cb 14 [m]:=Row.of h (uS b vb d tb pb) [] (by rw[rJ b vb d tb pb m]) (uR b vb d tb pb)
structure ia(w':World)(n:Nat)(A:List Nat)(tot:Int)(N:Nat)(c c':Cm):Prop where
 ch:∀A',(∀x∈A',x∈A∨N≤x)→c'.tm∈A'→c'.nm∈A'→cL w' n A' tot c'
 bd:c'.bd=c.bd
 vb:c'.vb=c.vb
 first:c'.first=c.first
 tr:c.tr.tj c'.tr
 ps:c'.ps.map Em.en=c.ps.map Em.en
 ns:c'.ns.Perm c.ns
 new:∀x∈c'.cb::lA c',N≤x
theorem iV.grow{w:World}{n:Nat}{A A':List Nat}{tot:Int}{b:Nat}{q:Nm}(h:iV w n A tot b q)(hA:q.bm∉A'):iV w n A' tot b q:=⟨h.blk,h.book,hA,h.nb,h.app,h.ans,h.anT,h.x,h.nam,h.naT,h.el⟩
attribute [local irreducible] CG NG SG aK aI Row aF aE aM
theorem kj{w:World}{n:Nat}{A:List Nat}{tot:Int}{c:Cm}{H:Int}(h:cL w n A tot c)(ok:fD c H):Calls Tryz.prog 25 #[.pointer (some ⟨c.cb,0,none⟩)] w (fun e w'=>∃c',e= .returned (.pointer (some ⟨c'.cb,0,none⟩))∧Kp [] w w'∧ia w' n A tot w.heap.size c c'):=by
 refine bA Tryz.func25 rfl Tryz.ntmps25 rfl ?_
 obtain⟨r0,-,r3,r4,r12,r13,-⟩:=cM h
 repeat (first|apply aj|(apply ar;rfl;(first|apply iC|apply az|apply aD)<;>rfl))
 refine bG rfl ?_
 repeat apply aj
 refine CG.dM mixed 22 [0,1,2,3,4,5,6,7,8,9,10,11,12,13,14,15,17,18,19,20,16,21] [16,21] [] (fun _=>True) (by kernel_rfl) trivial (fun _ _ _ _=>trivial) ?_
 repeat (apply bZ;rfl;rfl;(first|apply az|apply bf|apply bj|apply aW|apply bM)<;>first|rfl|assumption|exact List.not_mem_nil|apply ah)
 refine aI.kl (X:=Nat×Nat×Tr) (vs:=[.pointer (some ⟨c.tb,0,none⟩)]) (fun q=> .pointer (some ⟨q.1,0,none⟩)) (fun q W=>cj W q.1 q.2.1 q.2.2∧c.tr.tj q.2.2∧w.heap.size≤q.1∧w.heap.size≤q.2.1) rfl rfl rfl rfl (bz.of rfl) (fun q W W' hk h=>⟨h.1.ay hk,h.2⟩) (fun _ _ _ h=>h) (fun W hk _=>(uz (h.tree.ay hk)).mono (fun e W' hh=>?_)) (fun q=>?_)
 ·obtain⟨bt',bm',t',he,hT',hq,g1,g2,-,hk'⟩:=hh
  exact⟨(bt',bm',t'),he,⟨hT',hq,Nat.le_trans hk.size g1,Nat.le_trans hk.size g2⟩,hk'⟩
 refine aI.kl (X:=Nat×Value×List Em) (vs:=[.pointer (some ⟨c.pb,0,none⟩)]) (fun q=> .pointer (some ⟨q.1,0,none⟩)) (fun q W=>w.heap.size≤q.1∧(∀base',base'≤w.heap.size→Pl W base' q.1 q.2.1 256 q.2.2)∧q.2.2.map Em.en=c.ps.map Em.en) rfl rfl rfl rfl (bz.of rfl) (fun q W W' hk h=>⟨h.1,fun b hb=>(h.2.1 b hb).ay hk,h.2.2⟩) (fun W W' hk h=>⟨trivial,h.2.1.ay hk,h.2.2⟩) (fun W hk _=>(xe (h.pool.ay hk) ok.pool (by decide)).mono (fun e W' hh=>?_)) (fun p=>?_)
 ·obtain⟨p',v',ms',he,g1,hk',g2,g3⟩:=hh
  exact⟨(p',v',ms'),he,⟨Nat.le_trans hk.size g1,fun b hb=>g2 b (Nat.le_trans hb hk.size),g3⟩,hk'⟩
 refine aI.tl (fun w1 hk1 hF _=>?_)
 obtain⟨⟨-,hT1,heq,ht1,ht2⟩,hp1,hP1,hps⟩:=hF
 refine SG.val rfl rfl rfl rfl (aG rfl (PJ c.bd c.vb c.first q.1 p.1)) ?_
 refine SG.box rfl rfl rfl (ag rfl) (fun cb w2 hk2 hcb hBc=>?_)
 have hBc:aF w2 cb (.cells (sR c.bd c.vb c.first q.1 p.1 (.map none)).toArray 127):=hBc
 clear r0 r3 r4 r12 r13
 have h2:=(h.ay hk1).ay hk2
 obtain⟨-,-,-,-,-,-,r14⟩:=cM h2
 have hm:=h2.map
 repeat (first|apply aj|(apply ar;rfl;(first|apply az|apply aD|apply bf|apply aW|apply bM|apply D7)<;>first|rfl|assumption|exact List.not_mem_nil))
 refine SG.mM (dv (n:=8)) Du rfl rfl rfl (ag rfl) (fun nm w3 hk3 hnm hM3=>?_)
 repeat (apply ar;rfl;(first|apply aW|apply bM)<;>rfl)
 refine SG.cr (uS c.bd c.vb c.first q.1 p.1) [.map none] [] rfl rfl (ag rfl) (ag rfl) (hBc.ay hk3) (CH _ _ _ _ _ _) rfl rfl (uR _ _ _ _ _) rfl (fun w4 hk4 hB4=>?_)
 have hB4:aF w4 cb (.cells (sR c.bd c.vb c.first q.1 p.1 (.map (some nm))).toArray 127):=by
  rw[←rJ c.bd c.vb c.first q.1 p.1 (.map (some nm))]
  exact hB4
 have l2:=hBc.lt
 have s1:=hk1.size
 have s2:=hk2.size
 have s3:=hk3.size
 have lM:=hM3.lt
 have hM4:aE w4 nm (dv (n:=8)) Du []:=hM3.kp hk4 (bP (by omega))
 have k14:Kp [] w1 w4:=(hk2.trans hk3).ai hk4 (aV (by omega))
 have k4:Kp [] w w4:=hk1.trans k14
 clear r14 hm
 have h4:=h.ay k4
 obtain⟨-,-,-,-,-,-,r14⟩:=cM h4
 repeat (first|apply aj|(apply ar;rfl;(first|apply az|apply bf|apply aW|apply bM)<;>first|rfl|assumption|exact List.not_mem_nil))
 refine SG.range rfl rfl rfl (ag rfl) h4.map (fun r w5 hk5 hr5 hI=>?_)
 clear r14
 have hnd:=h.map.nodup
 have lc:=h4.blk.lt
 have ln:=h4.map.lt
 have lnm:=hM4.lt
 have lB:=hB4.lt
 have s4:=k14.size
 have lnw:=h.map.lt
 have s5:=hk5.size
 have lr:=hI.Dw
 have k15:=k14.trans hk5
 repeat apply aj
 refine CG.loop (X:=List (Dg×Nat×Nm)×List (Dg×Nat×Nm)×Option (Dg×Nat×Nm)) (fun _=>[(0,.pointer (some ⟨c.cb,0,none⟩)),(3,.pointer (some ⟨cb,0,none⟩)),(45,.pointer (some ⟨r,0,none⟩))])
  (fun x w'=>Kp [] w1 w'∧w5.heap.size≤w'.heap.size∧aF w' cb (.cells (sR c.bd c.vb c.first q.1 p.1 (.map (some nm))).toArray 127)∧aM w' r c.nm (dv (n:=8)) Du c.ns x.2.1 x.2.2∧aE w' nm (dv (n:=8)) Du x.1∧(x.1++x.2.1).Perm c.ns)
  (fun x=>x.2.1.length) ([],c.ns,none) ⟨k15,Nat.le_refl _,hB4.ay hk5,hI,hM4.ay hk5,by simp⟩ (aS.of rfl) ?_
 rintro⟨done,left,cur⟩ w6 ⟨k6,hsz,hB6,hI6,hM6,hp⟩
 simp only at hI6 hM6 hp
 refine CG.to [(0,.pointer (some ⟨c.cb,0,none⟩)),(3,.pointer (some ⟨cb,0,none⟩)),(45,.pointer (some ⟨r,0,none⟩))] (aS.of rfl) ?_
 repeat apply aj
 refine SG.next rfl rfl rfl (ag rfl) hI6 (fun h0=>?_) (fun pre pp post w7 hl hk7 hI7=>?_)
 ·repeat (first|apply aj|(apply ar;rfl;apply dA<;>rfl))
  refine bG rfl ?_
  repeat (first|apply aj|(apply ar;rfl;(first|apply az|apply aD)<;>rfl))
  refine aO (Or.inl rfl) Tryz.results25 (aC.tmp rfl) ?_
  subst h0
  rw[List.append_nil] at hp
  have kk:=hk1.trans k6
  have h6:=h.ay kk
  have lt1:=hT1.map.lt
  have hP6:∀base',base'≤w.heap.size→Pl w6 base' p.1 p.2.1 256 p.2.2:=fun b hb=>(hP1 b hb).ay k6
  refine⟨⟨cb,q.1,q.2.1,p.1,nm,c.vb,p.2.1,c.bd,c.first,q.2.2,p.2.2,done⟩,rfl,kk,⟨fun A' hA g1 g2=>?_,rfl,rfl,rfl,heq,hps,hp,?_⟩⟩
  ·refine⟨hB6,hT1.ay k6,hP6 n h.w0,hM6,fun z hz=>?_,g1,g2,by show q.2.1≠nm;omega,by have:=h.w0;show n≤q.2.1;omega,by have:=h.w0;show n≤nm;omega,by have:=h.w0;show n≤q.1;omega,by have:=h.w0;omega⟩
   have hz':=hp.mem_iff.1 hz
   refine(h6.nd z hz').grow (fun hm=>?_)
   obtain⟨m,hb,-⟩:=(h.nd z hz').book
   have:=hb.map.lt
   rcases hA _ hm with g|g
   ·exact(h.nd z hz').nA g
   ·omega
  ·intro x hx
   rcases List.mem_cons.1 hx with e|hx
   ·have e:x=cb:=e
    omega
   unfold lA at hx
   simp only[List.mem_cons] at hx
   rcases hx with rfl|rfl|rfl|rfl|hx
   ·exact ht1
   ·exact ht2
   ·omega
   ·exact hp1
   ·exact cp (hP6 _ (Nat.le_refl _)).own _ (aH hx)
 ·repeat (first|apply aj|(apply ar;rfl;apply dA<;>rfl))
  refine bL rfl ?_
  repeat (first|apply aj|(apply ar;rfl;(first|apply dA|apply Ge)<;>first|rfl|assumption|exact List.not_mem_nil))
  refine SG.alloc rfl rfl rfl (fun b4 w8 hk8 hb4 hA4=>?_)
  refine SG.aN (old:=dc (n:=8) ⟨[0,0,0,0,0,0,0,0],rfl⟩) rfl rfl (ag rfl) (ag rfl) hA4 (ah _) (ah _) (bu _) (fun w9 hk9 hA4=>?_)
  have lI:=hI6.Dw
  have lM6:=hM6.lt
  have lB6:=hB6.lt
  have s7:=hk7.size
  have k79:=hk8.ai hk9 (aV (by omega))
  have n7:∀{z:Nat},z≠r→z∉[r]:=fun hz=>bP hz
  have hB9:=(hB6.kp hk7 (n7 (by omega))).ay k79
  have hM9:=(hM6.kp hk7 (n7 (by omega))).ay k79
  have hI9:=hI7.ay k79
  have k9:=(k6.ai hk7 (aV (by omega))).trans k79
  have s9:=k79.size
  have r4:Row w9 b4 0 (dc pp.1):=Row.all hA4 rfl
  have r14:=CF hB9
  repeat (first|apply aj|(apply ar;rfl;apply aD<;>rfl))
  refine CG.tail mixed 6 [0,1,2,3,4,5] (by kernel_rfl) ?_
  repeat (apply bZ;rfl;rfl;(first|apply az|apply bf|apply bj|apply aW|apply bM)<;>first|rfl|assumption|exact List.not_mem_nil|apply ah)
  refine aI.tl (fun w10 hk10 _ _=>?_)
  have s10:=hk10.size
  refine SG.mapUpdate (enc:=dv (n:=8)) (V:=Du) (kx:=pp.1) (vy:=pp.2) rfl rfl (ag rfl) (ag rfl) (ag rfl) (hM9.ay hk10) gr.key (fun w11 hk11 hm11=>?_)
  clear r4 r14
  repeat apply aj
  have hp2:(done++pp::(pre++post)).Perm c.ns:=by
   refine List.Perm.trans ?_ hp
   rw[hl]
   exact List.Perm.append_left done (List.perm_middle.symm)
  have hnone:aB done pp.1=none:=by
   rw[dV]
   intro q hq e
   have hn2:((done++pp::(pre++post)).map (·.1)).Nodup:=(hp2.map _).nodup_iff.2 hnd
   rw[List.map_append,List.map_cons] at hn2
   exact(List.nodup_append.1 hn2).2.2 q.1 (List.mem_map.2 ⟨q,hq,rfl⟩) pp.1 (by simp) e
  rw[hZ _ hnone] at hm11
  have s11:=hk11.size
  have n11:∀{z:Nat},z≠nm→z∉[nm]:=fun hz=>bP hz
  exact NG.round (done++[pp],pre++post,some pp) (aS.of rfl) ⟨(k9.trans hk10).ai hk11 (aV (by omega)),by omega,(hB9.ay hk10).kp hk11 (n11 (by omega)),(hI9.ay hk10).kp hk11 (n11 (by omega)) (n11 (by omega)),hm11,by simpa using hp2⟩ (by simp only[hl];simp)
end
section
instance:DecidableEq Kn:=fun a b=>decidable_of_iff (a.parent=b.parent∧a.height=b.height) (by cases a;cases b;simp)
theorem H5:∃m,Tryz.prog.types.size=m+3:=⟨Tryz.prog.types.size-3,by kernel_rfl⟩
theorem Ib:Tryz.prog.cellsOf 5=1:=by kernel_rfl
theorem Gu:Tryz.prog.cellsOf 47=8:=by kernel_rfl
theorem Ic:Tryz.prog.cellsOf 3=1:=by kernel_rfl
theorem B9:Tryz.prog.cellsOf 211=9:=by kernel_rfl
theorem BP(m:Nat)(a0 a1 a2 a3 a4 a5 a6 a7:UInt8)(h:Nat)(hh:h<1000000):(Tryz.prog.keyLits (m+3+1) 211 [bv a0,bv a1,bv a2,bv a3,bv a4,bv a5,bv a6,bv a7,.int .i64 (h:Int)]).isSome=true:=by
 have hw:(Lit.int .i64 (h:Int)).wf=true:=by
  simp[Lit.wf,IntKind.min,IntKind.max,IntKind.signed,IntKind.bits]
  omega
 simp[Program.keyLits,Tryz.underlying211,Tryz.underlying47,Tryz.underlying5,Tryz.underlying3,Ib,Gu,Ic,B9,oY,hw,List.range,List.range.loop]
theorem xU(x:Kn)(hh:x.height<1000000):(Tryz.prog.keyLits (Tryz.prog.types.size+1) 211 (kc x)).isSome=true:=by
 obtain⟨m,hm⟩:=H5
 rw[hm]
 obtain⟨⟨l,hl⟩,h⟩:=x
 match l,hl with
 |[a0,a1,a2,a3,a4,a5,a6,a7],_=>exact BP m a0 a1 a2 a3 a4 a5 a6 a7 h hh
theorem rj(x:Kn):(sF x).formed Tryz.prog 211=true:=by
 simp[Value.formed,Tryz.underlying211,B9,aU]
theorem Gv{a b:Kn}(h:kc a=kc b):a=b:=by
 obtain⟨p,n⟩:=a
 obtain⟨q,m⟩:=b
 have h':=List.append_inj h (by simp[ah])
 have h1:=p7 h'.1
 have h2:(n:Int)=m:=by simpa using h'.2
 have h3:n=m:=by omega
 subst h1
 subst h3
 rfl
theorem Cp{a b:Kn}(ha:a.height<1000000)(hb:b.height<1000000)(w:World):(Op.equal 211 (sF a) (sF b)).run Tryz.prog w= .ok (decide (a=b)) w:=by
 obtain⟨r,h1,h2⟩:=nR (P:=Tryz.prog) (T:=211) 3 (by omega) (by kernel_rfl) (by kernel_rfl) (by rw[Tryz.underlying211]) (by kernel_rfl) (rj a) (rj b) (xU a ha) (xU b hb) w
 rw[h1]
 refine congrArg (fun b=>Result.ok b w) ?_
 by_cases e:a=b
 ·rw[decide_eq_true e]
  exact h2.2 (by rw[e])
 ·rw[decide_eq_false e]
  cases r with
  |false=>rfl
  |true=>exact absurd (Gv (h2.1 rfl)) e
theorem EG:Tryz.prog.eqGuardType Tryz.prog.depth 211=false:=by kernel_rfl
theorem P2{S:List Nat}{w0:World}{F:World→Prop}{L:Env}{d:Option Nat}{ty:TypeId}{pos:String}{af:Array Edge}{g:Option (Nat×Bool)}{x y:Operand}{T':TypeId}{a b:Kn}{c:Bool}(hx:ro L x=some (sF a))(hy:ro L y=some (sF b))(hab:Ar (a.height<1000000∧b.height<1000000))(h:Dc (a=b) c):aK Tryz.prog S w0 F L ⟨d,.binOp .neq 211 x y T',ty,pos,af,g⟩ (.bool (!c)):=fun w _ _=>by
 rw[←h.eq]
 simp[execOp,ag hx,ag hy,eqGuard,binOp,Cp hab.h.1 hab.h.2,EG]
def Tr.sameB(t t':Tr):Bool:=decide (t.first=t'.first)&&(decide (t.depth=t'.depth)&&(decide (t.tip=t'.tip)&&(decide (t.nodes.length=t'.nodes.length)&&t.nodes.all (fun p=>decide (aB t'.nodes p.1=some p.2)))))
theorem zp{t:Tr}(wf:t.WF)(hn:(t.nodes.map (·.1)).Nodup){p:Dg×Kn}(hp:p∈t.nodes):p.2.height<4096:=by
 have h:=dE hn hp
 have hh:t.has p.1=true:=by unfold Tr.has;rw[h];rfl
 have:=wf.bound hh
 unfold Tr.ht Tr.nd at this
 rw[h] at this
 exact this
theorem wE{t:Tr}(wf:t.WF){x:Dg}{n:Kn}(h:aB t.nodes x=some n):n.height<4096:=by
 have hh:t.has x=true:=by unfold Tr.has;rw[h];rfl
 have:=wf.bound hh
 unfold Tr.ht Tr.nd at this
 rw[h] at this
 exact this
attribute [local irreducible] CG NG SG aK aI Row aF aE aM
theorem qC{w:World}{bt bm bt' bm':Nat}{t t':Tr}(hT:cj w bt bm t)(hT':cj w bt' bm' t')(wf:t.WF)(wf':t'.WF):dz Tryz.prog 68 #[.pointer (some ⟨bt,0,none⟩),.pointer (some ⟨bt',0,none⟩)] w (.bool (t.sameB t')):=by
 refine bJ Tryz.func68 rfl Tryz.ntmps68 rfl ?_
 repeat (first|apply aj|(apply ar;rfl;(first|apply az|apply aD|apply cu|apply iC)<;>rfl))
 refine bG rfl ?_
 repeat apply aj
 have hr0:=hT.r0
 have hr8:=hT.r8
 have hr16:=hT.HW
 have hr17:=hT.vT
 have hm:=hT.map
 have kr0:=hT'.r0
 have kr8:=hT'.r8
 have kr16:=hT'.HW
 have kr17:=hT'.vT
 have km:=hT'.map
 refine CG.eQ mixed [0,1,2,3,4,5,6,7,8,9,10,11,12,13,14,15,16,17,18,19,20,21,22,23,24,25,26,27,28,29,30,31,32,33,34,35,36,37,38,39,40,41,42,43] [] (by kernel_rfl) ?_
 have no:∀{L:Env} {w':World},t.sameB t'=false→Kp [] w w'→look L 4=some (.bool false)→NG 91 .ret (bodyPost Tryz.prog Tryz.f68 (fun e w'=>e= .returned (.bool (t.sameB t'))∧Kp [] w w')) L w':=
  fun hb hk' hL=>aO (Or.inl rfl) Tryz.results68 (aC.tmp hL) ⟨by rw[hb],hk'⟩
 by_cases h1:t.first=t'.first
 case neg=>
  repeat (first|(apply bZ;rfl;rfl;(first|apply az|apply bj|apply aW|apply bM|apply cu|apply xM)<;>first|rfl|assumption|(apply bN;first|assumption|omega)|exact List.not_mem_nil|apply ah)|refine aI.skip rfl rfl ?_)
  refine aI.fin (fun w1 hk1 _ _=>?_)
  repeat apply aj
  refine bL rfl ?_
  repeat (first|apply aj|(apply ar;rfl;apply aD<;>rfl))
  exact no (by simp[Tr.sameB,h1]) hk1 rfl
 by_cases h2:(t.depth:Int)=(t'.depth:Int)
 case neg=>
  repeat (first|(apply bZ;rfl;rfl;(first|apply az|apply bf|apply bj|apply aW|apply bM|apply cu|apply dK|apply xM)<;>first|rfl|assumption|(apply bK;first|assumption|omega)|(apply bN;first|assumption|omega)|exact List.not_mem_nil|apply ah)|refine aI.skip rfl rfl ?_)
  refine aI.fin (fun w1 hk1 _ _=>?_)
  repeat apply aj
  refine bL rfl ?_
  repeat (first|apply aj|(apply ar;rfl;apply aD<;>rfl))
  have h2':¬t.depth=t'.depth:=by omega
  exact no (by simp[Tr.sameB,h2']) hk1 rfl
 by_cases h3:t.tip=t'.tip
 case neg=>
  repeat (first|(apply bZ;rfl;rfl;(first|apply az|apply bf|apply bj|apply aW|apply bM|apply cu|apply dK|apply xM)<;>first|rfl|assumption|(apply bK;first|assumption|omega)|(apply bN;first|assumption|omega)|exact List.not_mem_nil|apply ah)|refine aI.skip rfl rfl ?_)
  refine aI.fin (fun w1 hk1 _ _=>?_)
  repeat apply aj
  refine bL rfl ?_
  repeat (first|apply aj|(apply ar;rfl;apply aD<;>rfl))
  exact no (by simp[Tr.sameB,h3]) hk1 rfl
 by_cases h4:(t.nodes.length:Int)=(t'.nodes.length:Int)
 case neg=>
  repeat (apply bZ;rfl;rfl;(first|apply az|apply bf|apply bj|apply aW|apply bM|apply cu|apply dK|apply xM|apply D7)<;>first|rfl|assumption|(apply bK;first|assumption|omega)|(apply bN;first|assumption|omega)|exact List.not_mem_nil|apply ah)
  refine aI.fin (fun w1 hk1 _ _=>?_)
  repeat apply aj
  refine bL rfl ?_
  repeat (first|apply aj|(apply ar;rfl;apply aD<;>rfl))
  have h4':¬t.nodes.length=t'.nodes.length:=by omega
  exact no (by simp[Tr.sameB,h4']) hk1 rfl
 repeat (apply bZ;rfl;rfl;(first|apply az|apply bf|apply bj|apply aW|apply bM|apply cu|apply dK|apply xM|apply D7)<;>first|rfl|assumption|(apply bK;first|assumption|omega)|exact List.not_mem_nil|apply ah)
 refine aI.fin (fun w1 hk1 _ _=>?_)
 repeat apply aj
 refine bG rfl ?_
 have hT1:=hT.ay hk1
 have hr17:=hT1.vT
 have hnd:=hT.map.nodup
 repeat (first|apply aj|(apply ar;rfl;(first|apply az|apply bf|apply aW|apply bM)<;>first|rfl|assumption|exact List.not_mem_nil))
 refine SG.range rfl rfl rfl (ag rfl) hT1.map (fun r w2 hk2 hr2 hI=>?_)
 repeat apply aj
 have h2':t.depth=t'.depth:=by omega
 have h4':t.nodes.length=t'.nodes.length:=by omega
 have eT:=hT.blk.lt
 have eM:=hT.map.lt
 have eT':=hT'.blk.lt
 have eM':=hT'.map.lt
 have s1:=hk1.size
 refine CG.loop (X:=List (Dg×Kn)×Option (Dg×Kn)) (fun _=>[(0,.pointer (some ⟨bt,0,none⟩)),(1,.pointer (some ⟨bt',0,none⟩)),(69,.pointer (some ⟨r,0,none⟩))])
  (fun x w'=>Kp [] w w'∧aM w' r bm (dv (n:=8)) sF t.nodes x.1 x.2∧(∀p∈x.1,p∈t.nodes)∧(∀p∈t.nodes,p∈x.1∨aB t'.nodes p.1=some p.2))
  (fun x=>x.1.length) (t.nodes,none) ⟨hk1.trans hk2,hI,fun p hp=>hp,fun p hp=>Or.inl hp⟩ (aS.of rfl) ?_
 rintro⟨left,cur⟩ w3 ⟨hk,hI,hin,hall⟩
 simp only at hI hin hall
 have eI:=hI.Dw
 repeat apply aj
 refine SG.next rfl rfl rfl (ag rfl) hI (fun h0=>?_) (fun pre p post w4 hl hk4 hI4=>?_)
 ·repeat (first|apply aj|(apply ar;rfl;apply dA<;>rfl))
  refine bG rfl ?_
  repeat (first|apply aj|(apply ar;rfl;apply aD<;>rfl))
  refine aO (Or.inl rfl) Tryz.results68 (aC.tmp rfl) ?_
  subst h0
  have:t.sameB t'=true:=by
   simp only[Tr.sameB,h1,h2',h3,h4',decide_true,Bool.true_and,List.all_eq_true,decide_eq_true_eq]
   intro p hp
   rcases hall p hp with h|h
   ·cases h
   ·exact h
  exact⟨by rw[this],hk⟩
 ·have hpm:p∈t.nodes:=hin p (by rw[hl];simp)
  repeat (first|apply aj|(apply ar;rfl;apply dA<;>rfl))
  refine bL rfl ?_
  repeat (first|apply aj|(apply ar;rfl;(first|apply dA|apply Ge)<;>first|rfl|assumption|exact List.not_mem_nil))
  refine SG.alloc rfl rfl rfl (fun b5 w5 hk5 hb5 hB5=>?_)
  refine SG.alloc rfl rfl rfl (fun b6 w6 hk6 hb6 hB6=>?_)
  have s4:=hk4.size
  have s5:=hk5.size
  have s0:=hk.size
  have e5:=hB5.lt
  refine SG.aN (old:=dc (n:=8) ⟨[0,0,0,0,0,0,0,0],rfl⟩) rfl rfl (ag rfl) (ag rfl) (hB5.ay hk6) (ah _) (ah _) (bu _) (fun w7 hk7 hB5=>?_)
  refine SG.aN (old:=kc xZ) rfl rfl (ag rfl) (ag rfl) (hB6.kp hk7 (by first|exact bP (by omega)|exact fG (by omega) (by omega))) (aU _) (aU _) (fK _) (fun w8 hk8 hB6=>?_)
  have hB5:=hB5.kp hk8 (by first|exact bP (by omega)|exact fG (by omega) (by omega))
  have hk48:=((hk5.trans hk6).ai hk7 (by first|exact aV (by omega)|exact gj (by omega) (by omega))).ai hk8 (by first|exact aV (by omega)|exact gj (by omega) (by omega))
  have hI8:=hI4.ay hk48
  have hk:=hk.ai (hk4.trans hk48.any) (by first|exact aV (by omega)|exact gj (by omega) (by omega))
  have hT8:=hT'.ay hk
  have hR5:Row w8 b5 0 (dc p.1):=Row.all hB5 rfl
  have hR6:Row w8 b6 0 (kc p.2):=Row.all hB6 rfl
  have hr17:=hT8.vT
  have hm8:=hT8.map
  have bp:=zp wf hnd hpm
  repeat apply aj
  refine CG.gZ mixed [0,1,2,3,4,5,6,7,8,11] [(9,10,7,.tmp 82)] (by kernel_rfl) (by kernel_rfl) ?_
  rcases hr:aB t'.nodes p.1 with _|nd
  ·repeat (apply bZ;rfl;rfl;(first|apply az|apply aD|apply bf|apply bj|apply aW|apply bM|apply lL|apply dA)<;>first|rfl|assumption|exact List.not_mem_nil|apply ah|exact tv (by assumption)|fail)
   refine aI.one (fC.of (by rfl) rfl rfl rfl (ag rfl) (by first|exact aU _|rfl) (by rfl) (by first|exact fK _|rfl)) (fun b7 w9 hk9 hb7 hB7=>?_)
   repeat (first|apply aj|(apply ar;rfl;(first|apply az|apply cu|apply fZ)<;>rfl)|refine SG.skip rfl rfl ?_)
   refine bL rfl ?_
   repeat (first|apply aj|(apply ar;rfl;apply aD<;>rfl))
   refine no ?_ (hk.trans hk9) rfl
   have:t.nodes.all (fun p=>decide (aB t'.nodes p.1=some p.2))=false:=by
    rw[List.all_eq_false]
    exact⟨p,hpm,by simp[hr]⟩
   simp[Tr.sameB,this]
  ·have bn:=wE wf' hr
   repeat (apply bZ;rfl;rfl;(first|apply az|apply aD|apply bf|apply bj|apply aW|apply bM|apply lL|apply dA)<;>first|rfl|assumption|exact List.not_mem_nil|apply ah|exact kX (by assumption)|fail)
   refine aI.one (fC.of (by rfl) rfl rfl rfl (ag rfl) (by first|exact aU _|rfl) (by rfl) (by first|exact fK _|rfl)) (fun b7 w9 hk9 hb7 hB7=>?_)
   have hR7:Row w9 b7 0 (kc nd):=Row.all hB7 rfl
   have hR6:=hR6.ay hk9
   by_cases hnd':nd=p.2
   ·repeat (first|apply aj|(apply ar;rfl;(first|apply P2|apply az|apply bj|apply cu|apply fZ)<;>first|rfl|(apply Ar.mk;omega)|assumption|(apply bK;first|assumption|omega)|exact List.not_mem_nil|apply aU))
    refine bG rfl ?_
    repeat apply aj
    refine NG.round (pre++post,some p) (aS.of rfl) ⟨hk.trans hk9,hI8.ay hk9,fun q hq=>hin q (by rw[hl];simp at hq⊢;rcases hq with h|h<;>simp[h]),fun q hq=>?_⟩ (by simp only[hl];simp)
    rcases hall q hq with h|h
    ·rw[hl] at h
     simp only[List.mem_append,List.mem_cons] at h
     rcases h with h|h|h
     ·exact Or.inl (by simp[h])
     ·subst h
      exact Or.inr (by rw[hr,hnd'])
     ·exact Or.inl (by simp[h])
    ·exact Or.inr h
   ·repeat (first|apply aj|(apply ar;rfl;(first|apply P2|apply az|apply bj|apply cu|apply fZ)<;>first|rfl|(apply Ar.mk;omega)|assumption|(apply bN;first|assumption|omega)|exact List.not_mem_nil|apply aU))
    refine bL rfl ?_
    repeat (first|apply aj|(apply ar;rfl;apply aD<;>rfl))
    refine no ?_ (hk.trans hk9) rfl
    have:t.nodes.all (fun p=>decide (aB t'.nodes p.1=some p.2))=false:=by
     rw[List.all_eq_false]
     exact⟨p,hpm,by simp[hr,hnd']⟩
    simp[Tr.sameB,this]
end
section
def S5(d i h:Int):Bool:=decide (0≤i)&&(decide (0≤h)&&decide (i≤h-d))
attribute [local irreducible] CG NG SG aK aI Row aF aE aM aR qB
def BQ(ns:List (Dg×Nat×Nm))(d:Dg):Bl:=((aB ns d).map (fun q=>q.2.x.b)).getD ⟨zd,0,zd,[]⟩
structure TP(w0 w:World)(ns:List (Dg×Nat×Nm))(l:List Dg)(v:Value)(ys:List Bm):Prop where
 own:w.ownsRow w0.heap.size 50 18 v ys.length (bO dq ys)
 ins:∀y∈ys,y.In 0 w
 eq:ys.map Bm.b=l.map (BQ ns)
 nw:∀y∈ys,∀b off,y.a=some ⟨b,off,none⟩→w0.heap.size≤b
end
section
def TO(w:World)(n:Nat)(vs:Value)(e:Ending)(w':World):Prop:=
 ∃(y:Bm) (ok:Bool),e= .returned (.tuple #[iH y,.bool ok])∧y.In n w'∧Kp [] w w'∧(y.xs≠[]→∀b off,y.a=some ⟨b,off,none⟩→b∉aP vs)
theorem Gn(b:Bl)(d:Dg):∃(D:Dg) (z:Int),oS b d= .tuple #[dv D,.int .i64 z]:=by
 unfold oS
 by_cases h:bD b=0
 ·exact⟨d,0,by rw[if_pos h]⟩
 ·exact⟨zd,bD b,by rw[if_neg h]⟩
theorem G7(n:Nat)(w:World):hG.In n w:=⟨⟨Sl.nil,Or.inl (fun h=>absurd rfl h),fun _ h=>by cases h⟩,by decide⟩
theorem Bm.In.up{m n:Nat}{x:Bm}{w:World}(h:x.In m w)(hn:m≤n):x.In n w:=⟨⟨h.tx.sl,h.tx.tg.imp id (fun g b off e=>Nat.lt_of_lt_of_le (g b off e) hn),fun y hy=>(h.tx.ins y hy).mono hn⟩,h.len⟩
theorem Bm.In.wr{n b:Nat}{x:Bm}{w w':World}{cs:Array Value}(h:x.In n w)(hk:Kp [b] w w')(hb:n≤b)(hB:aF w b (.cells cs 50)):x.In n w':=⟨h.tx.kp hk (dh.cons hb (dh.cells hB (by decide)) dh.nil) (dX.cons hb (dX.cells hB (by decide)) dX.nil),h.len⟩
attribute [local irreducible] CG NG SG aK aI Row aF aE aM bE aQ bD oS
theorem vm{w:World}{n bw:Nat}{tot:Int}{q:Wl}(h:df w n tot bw q){H:Int}(ok:fD q.c H)(hH:H≤500)(ht:tot≤1000000000)(hb0:0<q.bs.length)(hbl:q.bs.length≤1000)(hbh:∀x∈q.bs,0≤x.ht∧x.ht≤1000)(jE:q.ss.length≤1000){a:Ax}(ha:a.In n w):
  Calls Tryz.prog 45 #[.pointer (some ⟨bw,0,none⟩),.pointer (some ⟨q.c.cb,0,none⟩),Hf a] w (TO w n q.vs):=by
 refine ey Tryz.func45 rfl Tryz.ntmps45 rfl ?_
 obtain⟨av,cv,ev,hcv,hSv⟩:=Sl.own aJ h.bl rfl
 obtain⟨j,hj⟩:∃j,j=a.wh.toNat%q.bs.length:=⟨_,rfl⟩
 have hjl:j<q.bs.length:=by rw[hj];exact Nat.mod_lt _ hb0
 have hjz:(a.wh.toNat:Int)%(q.bs.length:Int)=(j:Int):=by rw[hj];rfl
 have hwz:0≤(a.wh.toNat:Int)∧0<(q.bs.length:Int):=by omega
 obtain⟨bv',ov,rfl,hrv⟩:=hSv.at hjl
 repeat apply aj
 refine SG.box rfl rfl rfl (ag rfl) (fun b5 w1 hk1 hb5 hB5=>?_)
 have hB5:aF w1 b5 (.cells (qx a).toArray 35):=hB5
 refine SG.alloc rfl rfl rfl (fun b6 w2 hk2 hb6 hB6=>?_)
 have hB6:aF w2 b6 (.cells (dq hG).toArray 50):=hB6
 have k2:=hk1.trans hk2
 have hB52:=hB5.ay hk2
 have h2:=h.ay k2
 have hnb6:w.heap.size≤b6:=Nat.le_trans hk1.size hb6
 obtain⟨-,-,-,-,-,-,-,-,r7,-⟩:=fB hB52
 obtain⟨-,-,-,z3⟩:=cy h2.blk
 rw[ev] at z3
 have hrv:=hrv.ay k2
 repeat (first|apply aj|(apply ar;rfl;apply aD<;>rfl))
 refine CG.gZ mixed [0,1,2,3,4,5,6,7,8,9,10,11,12,13,14] [(15,16,8,.tmp 34)] (by kernel_rfl) (by kernel_rfl) ?_
 repeat (apply bZ;rfl;rfl;(first|apply Fz|apply Jc|apply az|apply bf|apply aW|apply bM|apply dy)<;>first|rfl|(apply Ar.mk;omega)|assumption|exact List.not_mem_nil)
 rw[hjz]
 repeat (apply bZ;rfl;rfl;(first|apply bj|apply fv)<;>first|rfl|(apply Ar.mk;omega)|assumption|exact List.not_mem_nil|apply aJ)
 refine aI.one (fC.of (by rfl) rfl rfl rfl (ag rfl) (by exact aJ _) (by rfl) (by exact dU _)) (fun b8 w3 hk3 hb8 hB8=>?_)
 obtain⟨x,hx⟩:∃x,q.bs[j]=x:=⟨_,rfl⟩
 have hxm:x∈q.bs:=by rw[←hx];exact List.getElem_mem hjl
 rw[hx] at hB8
 have hB8:aF w3 b8 (.cells (dq x).toArray 50):=hB8
 have k3:=k2.trans hk3
 have hxI:=(h.bi x hxm).ay k3
 clear r7 z3 hrv
 obtain⟨D,z,eD⟩:=Gn x.b (aQ x.b)
 have hnm:=fM hxI
 rw[eD] at hnm
 have r8:Row w3 b8 0 (dq x):=Row.all hB8 rfl
 repeat (first|apply aj|(apply ar;rfl;apply bj<;>first|rfl|assumption|exact List.not_mem_nil|apply aJ))
 refine SG.ret rfl rfl rfl (vs:=[iH x]) (bz.of rfl) hnm (fun w4 hk4=>?_)
 clear r8
 repeat (apply ar;rfl;(first|apply az|apply dA)<;>rfl)
 refine SG.alloc rfl rfl rfl (fun b9 w5 hk5 hb9 hB9=>?_)
 refine SG.aN (l:=dc D) rfl rfl (ag rfl) (ag rfl) hB9 (ah _) rfl (bu _) (fun w6 hk6 hB9=>?_)
 have k46:=hk4.trans (hk5.ai hk6 (aV hb9))
 have k6:=k3.trans k46
 have hB56:=hB52.ay (hk3.trans k46)
 have hB66:=hB6.ay (hk3.trans k46)
 have hB86:=hB8.ay k46
 obtain⟨-,r0,-⟩:=fB hB56
 obtain⟨K,hK⟩:∃K:UInt8,a.dO%UInt8.ofNat (Int.toNat 4)=K:=⟨_,rfl⟩
 repeat (first|apply aj|(apply ar;rfl;(first|apply Hr|apply aD|apply bf|apply aW|apply fF)<;>first|rfl|(apply Ar.mk;omega)|assumption|exact List.not_mem_nil|exact CA))
 rw[hK]
 clear r0
 refine CG.to [(0,.pointer (some ⟨bw,0,none⟩)),(1,.pointer (some ⟨q.c.cb,0,none⟩)),(5,.pointer (some ⟨b5,0,none⟩)),(6,.pointer (some ⟨b6,0,none⟩)),(7,.bool false),(8,.pointer (some ⟨b8,0,none⟩)),(9,.pointer (some ⟨b9,0,none⟩)),(42,bv K),(43,.bool (decide ((K.toNat:Int)=1)))] (aS.of rfl) ?_
 by_cases hk1:(K.toNat:Int)=1
 ·refine CG.kh rfl (ag rfl) (decide_eq_true hk1) ?_
  have h6:=h.ay k6
  repeat (first|apply aj|(apply ar;rfl;apply az<;>rfl))
  refine SG.call rfl rfl rfl (vs:=[.pointer (some ⟨q.c.cb,0,none⟩)]) (bz.of rfl) ((vu h6.ch ok.pool).mono (fun e w7 hh=>?_))
  obtain⟨v7,he,ho7,hk7⟩:=hh
  refine⟨_,he,?_⟩
  clear he
  obtain⟨ws,hws⟩:∃ws,(jZ (q.c.ps.map Em.en)).map (fun e=>aR e.t)=ws:=⟨_,rfl⟩
  rw[hws] at ho7
  obtain⟨aw,cw,rfl,hcw,hSw⟩:=Sl.own ah ho7 rfl
  have k7:=k6.trans hk7
  have hB57:=hB56.ay hk7
  obtain⟨-,-,-,-,-,-,-,-,-,rl⟩:=fB hB57
  have hla:=ha.l.sl
  have hl2:=ha.l2
  obtain⟨la,ela⟩:∃la,a.la=la:=⟨_,rfl⟩
  rw[ela] at rl hla
  repeat (first|apply aj|(apply ar;rfl;(first|apply az|apply aD|apply bf|apply aW|apply dy)<;>first|rfl|assumption|exact List.not_mem_nil))
  refine CG.loop (X:=Nat×Value×List Dg) (fun q'=>[(0,.pointer (some ⟨bw,0,none⟩)),(1,.pointer (some ⟨q.c.cb,0,none⟩)),(5,.pointer (some ⟨b5,0,none⟩)),(6,.pointer (some ⟨b6,0,none⟩)),(7,.bool false),(8,.pointer (some ⟨b8,0,none⟩)),(9,.pointer (some ⟨b9,0,none⟩)),(11,.slice aw ws.length cw),(12,q'.2.1),(48,.slice la a.lv.length a.lc),(49,.int .i64 (a.lv.length:Int)),(50,.int .i64 (q'.1:Int))])
   (fun q' w'=>q'.1≤a.lv.length∧Kp [] w7 w'∧w'.ownsRow w7.heap.size 47 8 q'.2.1 q'.2.2.length (bO dc q'.2.2)∧q'.2.2.length≤q'.1)
   (fun q'=>a.lv.length-q'.1) (0,.slice none 0 0,[]) ⟨Nat.zero_le _,Kp.refl _ _,⟨rfl,Or.inl ⟨rfl,rfl⟩⟩,Nat.le_refl _⟩ (aS.of rfl) ?_
  clear rl
  rintro⟨i,v,ls⟩ w8 ⟨hi,hk8,ho8,hli⟩
  simp only at hi ho8 hli
  refine CG.to [(0,.pointer (some ⟨bw,0,none⟩)),(1,.pointer (some ⟨q.c.cb,0,none⟩)),(5,.pointer (some ⟨b5,0,none⟩)),(6,.pointer (some ⟨b6,0,none⟩)),(7,.bool false),(8,.pointer (some ⟨b8,0,none⟩)),(9,.pointer (some ⟨b9,0,none⟩)),(11,.slice aw ws.length cw),(12,v),(48,.slice la a.lv.length a.lc),(49,.int .i64 (a.lv.length:Int)),(50,.int .i64 (i:Int))] (aS.of rfl) ?_
  by_cases hlt:i<a.lv.length
  ·have g1:(i:Int)<(a.lv.length:Int):=by omega
   obtain⟨ba,off,rfl,hrow⟩:=(hla.ay (k7.trans hk8)).at hlt
   repeat (first|apply aj|(apply ar;rfl;apply cG<;>first|rfl|(apply bK;first|assumption|omega)))
   refine bL rfl ?_
   repeat (first|apply aj|(apply ar;rfl;(first|apply az|apply aD|apply bf|apply fv|apply dy|apply fW)<;>first|rfl|(apply Ar.mk;omega)|assumption|exact List.not_mem_nil|exact CA))
   by_cases hw0:0<ws.length
   ·refine CG.kh rfl (ag rfl) (decide_eq_true (by omega:(0:Int)<(ws.length:Int))) ?_
    obtain⟨j2,hj2⟩:∃j2,j2=a.lv[i].toNat%ws.length:=⟨_,rfl⟩
    have hjl2:j2<ws.length:=by rw[hj2];exact Nat.mod_lt _ hw0
    have hjz2:(a.lv[i].toNat:Int)%(ws.length:Int)=(j2:Int):=by rw[hj2];rfl
    have hwz2:0≤(a.lv[i].toNat:Int)∧0<(ws.length:Int):=by omega
    obtain⟨bwv,ow,rfl,hrw⟩:=(hSw.ay hk8).at hjl2
    repeat (first|apply aj|(apply ar;rfl;(first|apply Fz|apply Jc|apply az|apply dy)<;>first|rfl|(apply Ar.mk;omega)))
    rw[hjz2]
    repeat (apply ar;rfl;(first|apply bj|apply fv)<;>first|rfl|(apply Ar.mk;omega)|assumption|exact List.not_mem_nil|apply ah)
    refine SG.buildSlice rfl rfl rfl rfl (E3 _) (fun b9' w9 hk9 hb9' hB9'=>?_)
    have s8:=hk8.size
    have s9:=hk9.size
    have ho9:=aT ho8 hk9
    refine SG.kr (enc:=dc) (xs:=ls) (ys:=[ws[j2]]) (base:=w7.heap.size) rfl rfl rfl (ag rfl) (ag rfl) rfl rfl rfl rfl ah bu ho9 (iA (enc:=dc) (sz:=8) (x:=ws[j2]) ah hB9') (by simp only[maxLen,List.length_singleton];omega) (by show(ls.length+1)*8≤_;omega) (by omega) (fun v8 w10 hk10 ho10 hv10=>?_)
    repeat (first|apply aj|(apply ar;rfl;(first|apply az|apply aD|apply dG)<;>first|rfl|(apply Ar.mk;omega)))
    refine NG.round (i+1,v8,ls++[ws[j2]]) (aS.of rfl) ⟨hlt,(hk8.trans hk9).ai hk10 (eO ho9 (Nat.le_refl _)),ho10,by simp only[List.length_append,List.length_singleton];omega⟩ (by simp only;omega)
   ·refine CG.ki rfl (ag rfl) (decide_eq_false (by omega:¬(0:Int)<(ws.length:Int))) ?_
    repeat (first|apply aj|(apply ar;rfl;(first|apply az|apply dG)<;>first|rfl|(apply Ar.mk;omega)))
    refine NG.round (i+1,v,ls) (aS.of rfl) ⟨hlt,hk8,ho8,by simp only;omega⟩ (by simp only;omega)
  ·have g1:¬(i:Int)<(a.lv.length:Int):=by omega
   have k8:=k7.trans hk8
   have hB58:=hB57.ay hk8
   obtain⟨-,-,rw5,-⟩:=fB hB58
   have r9:Row w8 b9 0 (dc D):=Row.all ((hB9.ay hk7).ay hk8) rfl
   have hB68:=(hB66.ay hk7).ay hk8
   obtain⟨al,cl,rfl,hcl,hSl⟩:=Sl.own ah ho8 rfl
   repeat (first|apply aj|(apply ar;rfl;apply cG<;>first|rfl|(apply bN;first|assumption|omega)))
   refine bG rfl ?_
   repeat (first|apply aj|(apply ar;rfl;(first|apply Hr|apply Og|apply az|apply bf|apply bj|apply aW)<;>first|rfl|(apply Ar.mk;omega)|assumption|exact List.not_mem_nil|apply ah))
   refine SG.val rfl rfl rfl rfl (aG rfl (DE _)) ?_
   obtain⟨M,hM⟩:∃M:UInt8,UInt8.ofNat (5:Int).toNat+a.who%UInt8.ofNat (3:Int).toNat=M:=⟨_,rfl⟩
   rw[hM]
   repeat (apply ar;rfl;apply az<;>rfl)
   have h8:=h.ay k8
   have hmk:Calls Tryz.prog 36 #[.pointer (some ⟨q.c.cb,0,none⟩),dv D,dv (d1 M),.slice al ls.length cl] w8 (fun e w'=>∃(y:Bm) (z':Int),e= .returned (.tuple #[iH y,.int .i64 z'])∧y.In 0 w'∧(∀b off,y.a=some ⟨b,off,none⟩→w8.heap.size≤b)∧Kp [] w8 w'):=by
    cases hp:aB q.c.ns D with
    |none=>exact(zr h8.ch D (d1 M) hp _).mono (fun e w' hh=>⟨hG,24,hh.1,G7 _ _,(fun _ _ e=>by cases e),hh.2⟩)
    |some p=>
     obtain⟨n1,n2,n3⟩:=ok.nd D p hp
     exact(rm h8.ch ht ok.pool D (d1 M) hp ⟨n1,by omega⟩ (by omega) hSl (by omega)).mono (fun e w' hh=>by
      obtain⟨y,e1,-,e2,e3,e4⟩:=hh
      exact⟨y,0,e1,e2,e3,e4⟩)
   refine SG.call rfl rfl rfl (vs:=[.pointer (some ⟨q.c.cb,0,none⟩),dv D,dv (d1 M),.slice al ls.length cl]) (bz.of rfl) (hmk.mono (fun e w9 hh=>?_))
   obtain⟨y,z',he,hy,hyn,hk9⟩:=hh
   refine⟨_,he,?_⟩
   clear he rw5 r9 hmk
   repeat (apply ar;rfl;(first|apply az|apply dA)<;>rfl)
   refine SG.alloc rfl rfl rfl (fun b15 wA hkA hb15 hB15=>?_)
   refine SG.aN (l:=dq y) rfl rfl (ag rfl) (ag rfl) hB15 (aJ _) rfl (dU _) (fun wB hkB hB15=>?_)
   have k9B:=hk9.trans (hkA.ai hkB (aV hb15))
   have hB6B:=hB68.ay k9B
   have r15:Row wB b15 0 (dq y):=Row.all hB15 rfl
   repeat (first|apply aj|(apply ar;rfl;(first|apply az|apply aD|apply bj|apply fF)<;>first|rfl|assumption|exact List.not_mem_nil|apply aJ|exact CA))
   refine SG.aN (l:=dq y) rfl rfl (ag rfl) (ag rfl) hB6B (aJ _) rfl (dU _) (fun wC hkC hBC=>?_)
   have hr:Row wC b6 0 (dq y):=Row.all hBC rfl
   clear r15
   repeat (first|apply aj|(apply ar;rfl;apply aD<;>rfl))
   refine dJ (Or.inl rfl) Tryz.results45 (aC.agg rfl rfl hr (aJ _)) (aC.tmp rfl) ?_
   have s8:=k8.size
   have s9:=k9B.size
   have s5:=hk5.size
   have s3:=k3.size
   have kC:Kp [] w wC:=(k8.trans k9B).ai hkC (aV hnb6)
   exact⟨y,_,rfl,(((hy.up (Nat.zero_le n)).ay (hkA.ai hkB (aV hb15))).wr hkC (Nat.le_trans h.ch.w0 hnb6) hB6B),kC,fun _ b off e hm=>by have h1:=cD h.sg b (aH hm);have h2:=hyn b off e;omega⟩
 refine CG.ki rfl (ag rfl) (decide_eq_false hk1) ?_
 repeat (first|apply aj|(apply ar;rfl;(first|apply aD|apply fF)<;>first|rfl|exact CA))
 refine CG.to [(0,.pointer (some ⟨bw,0,none⟩)),(1,.pointer (some ⟨q.c.cb,0,none⟩)),(5,.pointer (some ⟨b5,0,none⟩)),(6,.pointer (some ⟨b6,0,none⟩)),(7,.bool false),(8,.pointer (some ⟨b8,0,none⟩)),(9,.pointer (some ⟨b9,0,none⟩)),(84,.bool (decide ((K.toNat:Int)=2)))] (aS.of rfl) ?_
 obtain⟨hx0,hx1⟩:=hbh x hxm
 by_cases hk2':(K.toNat:Int)=2
 rotate_left
 ·refine CG.ki rfl (ag rfl) (decide_eq_false hk2') ?_
  have r8:Row w6 b8 0 (dq x):=Row.all hB86 rfl
  repeat (first|apply aj|(apply ar;rfl;apply bj<;>first|rfl|assumption|exact List.not_mem_nil|apply aJ))
  refine SG.aN (l:=dq x) rfl rfl (ag rfl) (ag rfl) hB66 (aJ _) rfl (dU _) (fun wC hkC hBC=>?_)
  have hr:Row wC b6 0 (dq x):=Row.all hBC rfl
  clear r8
  repeat (first|apply aj|(apply ar;rfl;apply aD<;>rfl))
  refine dJ (Or.inl rfl) Tryz.results45 (aC.agg rfl rfl hr (aJ _)) (aC.tmp rfl) ?_
  exact⟨x,_,rfl,(hxI.ay k46).wr hkC (Nat.le_trans h.ch.w0 hnb6) hB66,k6.ai hkC (aV hnb6),h.sb x hxm⟩
 refine CG.kh rfl (ag rfl) (decide_eq_true hk2') ?_
 obtain⟨asv,csv,evs,hcs,hSs⟩:=Sl.own au h.sg rfl
 have hxn: -9223372036854775808≤x.ht+1∧x.ht+1≤9223372036854775807:=by omega
 obtain⟨-,-,r8,-,-⟩:=cE hB86
 obtain⟨-,-,rw5,-⟩:=fB hB56
 have r9:Row w6 b9 0 (dc D):=Row.all hB9 rfl
 repeat (first|apply aj|(apply ar;rfl;(first|apply Hr|apply Og|apply bf|apply bj|apply aW|apply dG)<;>first|rfl|(apply Ar.mk;omega)|assumption|exact List.not_mem_nil|apply ah))
 refine SG.val rfl rfl rfl rfl (aG rfl (DE _)) ?_
 obtain⟨M,hM⟩:∃M:UInt8,UInt8.ofNat (5:Int).toNat+a.who%UInt8.ofNat (3:Int).toNat=M:=⟨_,rfl⟩
 rw[hM]
 skip
 refine SG.val rfl rfl rfl rfl (aG rfl (QO D (d1 M) (x.ht+1))) ?_
 refine SG.alloc rfl rfl rfl (fun b17 w7 hk7 hb17 hB17=>?_)
 refine SG.aN (l:=oO D (x.ht+1) (d1 M) (.slice none 0 0)) rfl rfl (ag rfl) (ag rfl) hB17 (iz _ _ _ _) rfl (pf _ _ _ _ rfl) (fun w8 hk8 hB17=>?_)
 have k68:=hk7.ai hk8 (aV hb17)
 have k8:=k6.trans k68
 have hB58:=hB56.ay k68
 have hB68:=hB66.ay k68
 clear r8 r9 rw5
 obtain⟨-,-,-,-,-,-,-,-,-,rl⟩:=fB hB58
 have hla:=ha.l.sl
 have hll:=ha.ll
 obtain⟨la,ela⟩:∃la,a.la=la:=⟨_,rfl⟩
 rw[ela] at rl hla
 obtain⟨m,hm,hml,hm10⟩:∃m:Nat,(if(10:Int)<(a.lv.length:Int) then(10:Int) else(a.lv.length:Int))=(m:Int)∧m≤a.lv.length∧m≤10:=by
  by_cases h:(10:Int)<(a.lv.length:Int)
  ·exact⟨10,by rw[if_pos h];rfl,by omega,by omega⟩
  ·exact⟨a.lv.length,by rw[if_neg h],Nat.le_refl _,by omega⟩
 repeat (first|apply aj|(apply ar;rfl;(first|apply Oc|apply az|apply bf|apply aW|apply dy|apply Ja)<;>first|rfl|(apply Ar.mk;omega)|assumption|exact List.not_mem_nil))
 refine CG.loop (X:=Nat×Value×List Tm) (fun q'=>[(0,.pointer (some ⟨bw,0,none⟩)),(6,.pointer (some ⟨b6,0,none⟩)),(17,.pointer (some ⟨b17,0,none⟩)),(102,.slice la m a.lc),(103,.int .i64 (m:Int)),(104,.int .i64 (q'.1:Int))])
  (fun q' w'=>q'.1≤m∧Kp [] w w'∧(aF w' b17 (.cells (oO D (x.ht+1) (d1 M) q'.2.1).toArray 50)∧aF w' b6 (.cells (dq hG).toArray 50)∧w8.heap.size≤w'.heap.size)∧w'.ownsRow w8.heap.size 52 13 q'.2.1 q'.2.2.length (bO bV q'.2.2)∧q'.2.2.length≤q'.1∧∀y∈q'.2.2,y∈q.ss)
  (fun q'=>m-q'.1) (0,.slice none 0 0,[]) ⟨Nat.zero_le _,k8,⟨hB17,hB68,Nat.le_refl _⟩,⟨rfl,Or.inl ⟨rfl,rfl⟩⟩,Nat.le_refl _,fun y hy=>by cases hy⟩ (aS.of rfl) ?_
 clear rl
 have l17:=hB17.lt
 have l68:=hB68.lt
 have s5':=hk5.size
 have s6':=k6.size
 have s66:=hB66.lt
 have s17:=hk7.size
 rintro⟨i,v,ys⟩ w9 ⟨hi,k9,⟨hB179,hB69,s89⟩,ho9,hli,hys⟩
 simp only at hi hB179 hB69 ho9 hli hys
 refine CG.to [(0,.pointer (some ⟨bw,0,none⟩)),(6,.pointer (some ⟨b6,0,none⟩)),(17,.pointer (some ⟨b17,0,none⟩)),(102,.slice la m a.lc),(103,.int .i64 (m:Int)),(104,.int .i64 (i:Int))] (aS.of rfl) ?_
 have h9:=h.ay k9
 by_cases hlt:i<m
 ·have g1:(i:Int)<(m:Int):=by omega
  have hlt':i<a.lv.length:=by omega
  obtain⟨ba,off,rfl,hrow⟩:=(hla.ay k9).at hlt'
  obtain⟨-,-,z2,-⟩:=cy h9.blk
  rw[evs] at z2
  repeat (first|apply aj|(apply ar;rfl;apply cG<;>first|rfl|(apply bK;first|assumption|omega)))
  refine bL rfl ?_
  repeat (first|apply aj|(apply ar;rfl;(first|apply az|apply aD|apply bf|apply aW|apply bM|apply fv|apply dy|apply fW)<;>first|rfl|(apply Ar.mk;omega)|assumption|exact List.not_mem_nil|exact CA))
  by_cases hw0:0<q.ss.length
  ·refine CG.kh rfl (ag rfl) (decide_eq_true (by omega:(0:Int)<(q.ss.length:Int))) ?_
   obtain⟨j2,hj2⟩:∃j2,j2=a.lv[i].toNat%q.ss.length:=⟨_,rfl⟩
   have hjl2:j2<q.ss.length:=by rw[hj2];exact Nat.mod_lt _ hw0
   have hjz2:(a.lv[i].toNat:Int)%(q.ss.length:Int)=(j2:Int):=by rw[hj2];rfl
   have hwz2:0≤(a.lv[i].toNat:Int)∧0<(q.ss.length:Int):=by omega
   obtain⟨bwv,ow,rfl,hrw⟩:=(hSs.ay k9).at hjl2
   obtain⟨-,-,u17⟩:=mZ hB179
   refine CG.dM mixed 17 [0,1,2,3,4,5,6,7,8,9,10,11,12,13,14,15,16] [16] [] (fun _=>True) (by kernel_rfl) trivial (fun _ _ _ _=>trivial) ?_
   repeat (apply bZ;rfl;rfl;(first|apply Fz|apply Jc|apply az|apply bf|apply aW|apply bM|apply dy)<;>first|rfl|(apply Ar.mk;omega)|assumption|exact List.not_mem_nil)
   rw[hjz2]
   repeat (apply bZ;rfl;rfl;(first|apply bj|apply fv)<;>first|rfl|(apply Ar.mk;omega)|assumption|exact List.not_mem_nil|apply au)
   refine aI.jt (cs:=(bV q.ss[j2]).toArray) (E:=52) rfl rfl rfl rfl rfl (fun W=>zU _ W) (by simp) (fun _ _ _ _=>trivial) (fun _ _ _ _=>trivial) (fun bn=>?_)
   refine aI.tl (fun wA hkA hF _=>?_)
   obtain⟨-,hbn,hBn⟩:=hF
   have sA:=hkA.size
   have hoA:=aT ho9 hkA
   have hsz:w.heap.size≤w8.heap.size:=k8.size
   have hB17A:=hB179.ay hkA
   clear u17
   refine SG.kr (enc:=bV) (xs:=ys) (ys:=[q.ss[j2]]) (base:=w8.heap.size) rfl rfl rfl (ag rfl) (ag rfl) rfl rfl rfl rfl au cC hoA (iA (enc:=bV) (sz:=13) (x:=q.ss[j2]) au hBn) (by simp only[maxLen,List.length_singleton];omega) (by show(ys.length+1)*80≤_;omega) (by omega) (fun v6 W6 hk6' ho6 hv6=>?_)
   obtain⟨a6,c6,rfl⟩:=gF ho6
   have nA:∀{z:Nat},z<w8.heap.size→z∉aP v:=fun hz hm=>by have:=cp hoA _ (aH hm);omega
   have hB17:=hB17A.kp hk6' (nA l17)
   have hB6':=(hB69.ay hkA).kp hk6' (nA l68)
   have s6':=hk6'.size
   have k6':=(k9.trans hkA).ai hk6' (fun z hz=>Or.inr (by have:=cp hoA z (aH hz);omega))
   repeat (apply ar;rfl;apply aW<;>rfl)
   refine SG.cr (dc D++(.int .i64 (x.ht+1)::dc (d1 M))) [v] [] rfl rfl (ag rfl) (ag rfl) hB17 (yp _ _ _ _) rfl rfl (yo _ _ _) rfl (fun W7 hk7' hB7=>?_)
   have hB7:aF W7 b17 (.cells (oO D (x.ht+1) (d1 M) (.slice a6 (ys++[q.ss[j2]]).length c6)).toArray 50):=by
    have e:=uY D (d1 M) (x.ht+1) (.slice a6 (ys++[q.ss[j2]]).length c6)
    rw[←e]
    exact hB7
   repeat (first|apply aj|(apply ar;rfl;(first|apply az|apply dG)<;>first|rfl|(apply Ar.mk;omega)))
   have n68:b6≠b17:=by omega
   refine NG.round (i+1,.slice a6 (ys++[q.ss[j2]]).length c6,ys++[q.ss[j2]]) (aS.of rfl) ⟨hlt,k6'.ai hk7' (aV (by omega)),⟨hB7,hB6'.kp hk7' (bP n68),by have:=hk7'.size;omega⟩,bW ho6 hk7' (cK ho6 (by decide) hB17),by simp only[List.length_append,List.length_singleton];omega,fun y hy=>(List.mem_append.1 hy).elim (hys y) (fun e=>by rw[List.mem_singleton] at e;rw[e];exact List.getElem_mem hjl2)⟩ (by simp only;omega)
  ·refine CG.ki rfl (ag rfl) (decide_eq_false (by omega:¬(0:Int)<(q.ss.length:Int))) ?_
   repeat (first|apply aj|(apply ar;rfl;(first|apply az|apply dG)<;>first|rfl|(apply Ar.mk;omega)))
   refine NG.round (i+1,v,ys) (aS.of rfl) ⟨hlt,k9,⟨hB179,hB69,s89⟩,ho9,by simp only;omega,hys⟩ (by simp only;omega)
 ·have g1:¬(i:Int)<(m:Int):=by omega
  obtain⟨aY,cY,rfl,hcY,hSY⟩:=Sl.own au ho9 rfl
  have tY:Ty 52 w9 aY ys:=Ty.own ho9
  have gY:=fN ho9
  obtain⟨u0,-,-⟩:=mZ hB179
  have e0:oO D (x.ht+1) (d1 M) (.slice aY ys.length cY)=dq ⟨D,x.ht+1,d1 M,aY,cY,ys⟩:=rfl
  rw[e0] at u0
  repeat (first|apply aj|(apply ar;rfl;apply cG<;>first|rfl|(apply bN;first|assumption|omega)))
  refine bG rfl ?_
  repeat (first|apply aj|(apply ar;rfl;apply bj<;>first|rfl|assumption|exact List.not_mem_nil|apply aJ))
  refine SG.aN (l:=dq ⟨D,x.ht+1,d1 M,aY,cY,ys⟩) rfl rfl (ag rfl) (ag rfl) hB69 (aJ _) rfl (dU _) (fun wC hkC hBC=>?_)
  have hr:Row wC b6 0 (dq ⟨D,x.ht+1,d1 M,aY,cY,ys⟩):=Row.all hBC rfl
  clear u0
  repeat (first|apply aj|(apply ar;rfl;apply aD<;>rfl))
  refine dJ (Or.inl rfl) Tryz.results45 (aC.agg rfl rfl hr (aJ _)) (aC.tmp rfl) ?_
  have s8:=k8.size
  have hy9:Bm.In ⟨D,x.ht+1,d1 M,aY,cY,ys⟩ n w9:=⟨⟨hSY,Or.inl tY,fun y hy=>h9.si y (hys y hy)⟩,by show ys.length≤_;omega⟩
  exact⟨_,_,rfl,hy9.wr hkC (Nat.le_trans h.ch.w0 hnb6) hB69,k9.ai hkC (aV hnb6),fun _ b off e hm=>by have h1:=cD h.sg b (aH hm);have h2:=gY b off e;omega⟩
end
section
theorem Bg{nb:eA}{h:Int}{mk:Dg}:∀(l:List Tx) {f:Fb} {t:Tl} {es:List Int},(eS nb h mk f t es l).2.2.1.n≤t.n+l.length
 |[],_,t,_=>Nat.le_refl _
 |x::l,f,t,es=>by
  unfold eS
  by_cases h1:fl nb x≠0
  ·rw[if_pos h1];simp only[List.length_cons];omega
  ·rw[if_neg h1]
   by_cases h2:fq f x≠0
   ·rw[if_pos h2];simp only[List.length_cons];omega
   ·rw[if_neg h2]
    have h3:=Bg l (nb:=nb) (h:=h) (mk:=mk) (f:=oM f mk x) (t:=dot t f h mk x) (es:=mc es f mk x)
    have h4:=Cy t f h mk x
    simp only[List.length_cons]
    omega
theorem xu{nb:eA}{c:Cm}{b:Bl}(h:qy nb c b=0):bD b=0∧aB c.ns (aQ b)=none∧∃q,aB c.ns b.par=some q∧jr b q.2.x.b=0∧c.tr.addE (aQ b) b.par=0:=by
 by_cases h1:bD b=0
 ·cases h2:aB c.ns (aQ b) with
  |some q=>rw[om h1 h2] at h;cases h
  |none=>
   cases h3:aB c.ns b.par with
   |none=>rw[yz h1 h2 h3] at h;cases h
   |some q=>
    rw[xv h1 h2 h3] at h
    split at h
    ·rename_i g;exact absurd h g
    ·rename_i g
     split at h
     ·rename_i g2;exact absurd h g2
     ·exact⟨h1,rfl,q,rfl,Classical.byContradiction g,h⟩
 ·rw[rN h1] at h;exact absurd h h1
theorem fD.mono{c:Cm}{H H':Int}(h:fD c H)(hH:H≤H'):fD c H':=⟨h.wf,h.dep,h.pool,h.has,fun d q hq=>by obtain⟨h1,h2,h3⟩:=h.nd d q hq;exact⟨h1,by omega,h3⟩⟩
theorem fD.sub{c:Cm}{H:Int}(h:fD c H){pv:Value}{ps:List Em}{nb:eA}{q:Nm}{t:Tx}(e:ps.map Em.en=rV nb q (c.ps.map Em.en) t):fD {c with pv:=pv,ps:=ps} H:=by
 refine⟨h.wf,h.dep,?_,h.has,h.nd⟩
 show dF 256 (ps.map Em.en)
 rw[e]
 unfold rV
 split
 ·exact vi h.pool
 ·exact h.pool
theorem fD.added{c:Cm}{H:Int}(h:fD c H){nb:eA}{b:Bl}(hz:qy nb c b=0){pv:Value}{ps:List Em}{z:Nat}{q:Nm}(hq:q.x.b=b)(hr:∃p,aB c.ns b.par=some p∧eS nb b.ht b.mkr p.2.f p.2.t [] b.txs=(0,q.f,q.t,q.es))
  (hp:ps.map Em.en=(if(c.tr.add (aQ b) b.par).tip=c.tr.tip then c.ps.map Em.en else HK (cF c.ns (aQ b) (z,q)) (c.tr.add (aQ b) b.par) (c.ps.map Em.en) c.tr.tip (c.tr.add (aQ b) b.par).tip)):
  fD {c with pv:=pv,ps:=ps,tr:=c.tr.add (aQ b) b.par,ns:=cF c.ns (aQ b) (z,q)} (H+1):=by
 obtain⟨h1,h2,p,h3,h4,h5⟩:=xu hz
 have h7:=xg h4
 obtain⟨a1,a2,-⟩:=qm h.wf (aQ b) b.par
 obtain⟨p',hp1,hp2⟩:=hr
 rw[h3] at hp1
 obtain rfl:=Option.some.inj hp1
 obtain⟨g1,g2,g3⟩:=h.nd _ _ h3
 have eh:q.x.ht=b.ht:=by rw[←hq];rfl
 have ep:p.2.x.b.ht=p.2.x.ht:=rfl
 refine⟨a1,by show(c.tr.add (aQ b) b.par).depth≤_;rw[a2];exact h.dep,?_,fun d=>?_,fun d x hx=>?_⟩
 ·show dF 256 (ps.map Em.en)
  rw[hp]
  split
  ·exact h.pool
  ·exact pZ (na h.pool _) _
 ·show(c.tr.add (aQ b) b.par).has d=(aB (cF c.ns (aQ b) (z,q)) d).isSome
  unfold Tr.add
  rw[if_pos h5]
  show(aB (cF c.tr.nodes (aQ b) _) d).isSome=_
  by_cases e:aQ b=d
  ·subst e
   rw[bR,bR]
   simp
  ·have:=h.has d
   unfold Tr.has at this
   rw[bR,bR]
   simp[e,this]
 ·have hx:aB (cF c.ns (aQ b) (z,q)) d=some x:=hx
  rw[bR] at hx
  by_cases e:aQ b=d
  ·simp[e] at hx
   subst hx
   have h8:=Bg b.txs (nb:=nb) (h:=b.ht) (mk:=b.mkr) (f:=p.2.f) (t:=p.2.t) (es:=[])
   rw[hp2] at h8
   have h9:=nE h1
   show 0≤q.x.ht∧q.x.ht≤H+1∧(q.t.n:Int)≤64*q.x.ht
   have h8:q.t.n≤p.2.t.n+b.txs.length:=h8
   omega
  ·simp[e] at hx
   obtain⟨k1,k2,k3⟩:=h.nd d x hx
   exact⟨k1,by omega,k3⟩
end
section
theorem Bm.In.zR{n:Nat}{Ts:List TypeId}{A S:List Nat}{w w':World}{x:Bm}(h:x.In n w)(hk:Kp S w w')(hS:dt n Ts A w S)(hT:5∉Ts)(hx:x.xs≠[]→∀b off,x.a=some ⟨b,off,none⟩→b∉S):x.In n w':=by
 refine⟨⟨?_,h.tx.tg.elim (fun g=>Or.inl (g.kp hk hx)) Or.inr,fun y hy=>(h.tx.ins y hy).rI hk hS hT⟩,h.len⟩
 by_cases e:x.xs=[]
 ·rw[e];exact Sl.nil
 ·exact h.tx.sl.kp hk (hx e)
theorem Bm.In.lt{n:Nat}{w:World}{x:Bm}(h:x.In n w)(hne:x.xs≠[]){b off:Nat}(e:x.a=some ⟨b,off,none⟩):b<w.heap.size:=by
 have h0:0<x.xs.length:=List.length_pos_iff.2 hne
 obtain⟨ba,o,e',hr⟩:=h.tx.sl.at h0
 rw[e] at e'
 cases e'
 exact hr.lt
theorem dm.rI{w w':World}{n base bb pm:Nat}{v:Value}{m:eA}{Ts:List TypeId}{A S:List Nat}(h:dm w base bb pm v m)(hb:n≤base)(hk:Kp S w w')(hS:dt n Ts A w S)(h1:162∉Ts)(h2:341∉Ts)(hA:pm∉A):dm w' base bb pm v m:=
 ⟨hS.blk hk h.blk h1,dS h.own hk (dN h.own (hS.not h2)),hS.wD hk h.map hA,h.bp,h.pp⟩
theorem df.DC{w w':World}{n bw:Nat}{tot:Int}{q:Wl}{S:List Nat}(h:df w n tot bw q)(hk:Kp S w w')(hS:dt n CT [q.c.tm,q.c.nm] w S){c':Cm}(hC:cL w' n [q.c.tm,q.c.nm,q.pm] tot c')(e:c'.cb=q.c.cb∧c'.vb=q.c.vb∧c'.tm=q.c.tm∧c'.nm=q.c.nm)
  (hns:∀p∈c'.ns,p∈q.c.ns∨∀b off,p.2.2.x.a=some ⟨b,off,none⟩→w.heap.size≤b):df w' n tot bw {q with c:=c'}:=by
 obtain⟨e1,e2,e3,e4⟩:=e
 refine⟨?_,?_,?_,dS h.sg hk (dN h.sg (hS.not (by decide))),fun x hx=>(h.si x hx).rI hk hS (by decide),dS h.bl hk (dN h.bl (hS.not (by decide))),fun x hx=>(h.bi x hx).mn hk hS (by decide) (by decide),fun p hp hne b off e hm=>?_,h.sb,?_,h.bn⟩
 ·have e:Ap {q with c:=c'}=Ap q:=by unfold Ap;rw[e1,e2]
  rw[e]
  exact hS.blk hk h.blk (by decide)
 ·show cL w' n [c'.tm,c'.nm,q.pm] tot c'
  rw[e3,e4]
  exact hC
 ·show dm w' n c'.vb q.pm q.vN q.nb
  rw[e2]
  exact h.nb.rI (Nat.le_refl _) hk hS (by decide) (by decide) (fun hm=>by
   rcases List.mem_cons.1 hm with e|hm
   ·exact h.pn.1 e
   ·exact h.pn.2 (List.mem_singleton.1 hm))
 ·rcases hns p hp with g|g
  ·exact h.sn p g hne b off e hm
  ·have h1:=cD h.sg b (aH hm)
   have h2:=g b off e
   omega
 ·show q.pm≠c'.tm∧q.pm≠c'.nm
  rw[e3,e4]
  exact h.pn
theorem df.sgn{w w':World}{n bw:Nat}{tot:Int}{q:Wl}(h:df w n tot bw q){v':Value}{nb':eA}(hk:Kp (q.c.vb::q.pm::aP q.vN) w w')(hN:dm w' n q.c.vb q.pm v' nb'):df w' n tot bw {q with vN:=v',nb:=nb'}:=by
 have hS:dt n [162,341] [q.pm] w (q.c.vb::q.pm::aP q.vN):=(dt.cells h.nb.bp h.nb.blk (by decide)).cons ((dt.map h.nb.pp h.nb.map (by simp)).cons (dt.own h.nb.own (Nat.le_refl _) (by decide)))
 exact⟨hS.blk hk h.blk (by decide),h.ch.P6 hk hS (fun z hz=>by rw[List.mem_singleton] at hz;subst hz;exact⟨by simp,h.pn.1,h.pn.2⟩) (by decide) (fun p hp=>(h.ch.nd p hp).x.mn hk hS (by decide) (by decide)),hN,dS h.sg hk (dN h.sg (hS.not (by decide))),fun x hx=>(h.si x hx).rI hk hS (by decide),dS h.bl hk (dN h.bl (hS.not (by decide))),fun x hx=>(h.bi x hx).mn hk hS (by decide) (by decide),h.sn,h.sb,h.pn,h.bn⟩
theorem df.put{w w1 w2:World}{n bw:Nat}{tot:Int}{q:Wl}(h:df w n tot bw q){v':Value}{y:Tm}(k1:Kp (aP q.vs) w w1)(ho:w1.ownsRow n 52 13 v' (q.ss++[y]).length (bO bV (q.ss++[y])))(hv:∀g,v'.ownBlock=some g→q.vs.ownBlock=some g∨w.heap.size≤g)(hy:y.In n w)(k2:Kp [bw] w1 w2)(hB:aF w2 bw (.cells (Ap {q with vs:=v',ss:=q.ss++[y]}).toArray 44)):df w2 n tot bw {q with vs:=v',ss:=q.ss++[y]}:=by
 have hS:dt n [52] [] w (aP q.vs):=dt.own h.sg (Nat.le_refl _) (by decide)
 have hb1:=hS.blk k1 h.blk (by decide)
 have hS2:dt n [44] [] w1 [bw]:=dt.cells h.bn hb1 (by decide)
 have hbl:=dS h.bl k1 (dN h.bl (hS.not (by decide)))
 have t2:∀{x:Bm},x.In n w→(x.xs≠[]→∀b off,x.a=some ⟨b,off,none⟩→b∉aP q.vs)→x.In n w1:=fun hx g=>hx.zR k1 hS (by decide) g
 have hC1:=h.ch.Ia k1 hS (by decide) (fun p hp=>t2 (h.ch.nd p hp).x (h.sn p hp))
 have key:∀{x:Bm},x.In n w→x.xs≠[]→∀b off,x.a=some ⟨b,off,none⟩→b∉aP q.vs→b∉aP v':=fun hx hne b off e g hm=>by
  rcases hv b (aH hm) with g2|g2
  ·exact g (gg g2)
  ·have:=hx.lt hne e;omega
 refine⟨hB,hC1.Ia k2 hS2 (by decide) (fun p hp=>(hC1.nd p hp).x.mn k2 hS2 (by decide) (by decide)),(h.nb.rI (Nat.le_refl _) k1 hS (by decide) (by decide) (by simp)).rI (Nat.le_refl _) k2 hS2 (by decide) (by decide) (by simp),dS ho k2 (dN ho (hS2.not (by decide))),fun x hx=>?_,dS hbl k2 (dN hbl (hS2.not (by decide))),fun x hx=>(t2 (h.bi x hx) (h.sb x hx)).mn k2 hS2 (by decide) (by decide),fun p hp hne b off e=>key (h.ch.nd p hp).x hne b off e (h.sn p hp hne b off e),fun x hx hne b off e=>key (h.bi x hx) hne b off e (h.sb x hx hne b off e),h.pn,h.bn⟩
 have hx:x.In n w:=(List.mem_append.1 hx).elim (h.si x) (fun e=>by rw[List.mem_singleton] at e;rw[e];exact hy)
 exact(hx.rI k1 hS (by decide)).rI k2 hS2 (by decide)
theorem df.Gg{w w1 w2:World}{n bw:Nat}{tot:Int}{q:Wl}(h:df w n tot bw q){v':Value}{y:Bm}(k1:Kp (aP q.vb) w w1)(ho:w1.ownsRow n 50 18 v' (q.bs++[y]).length (bO dq (q.bs++[y])))(hy:y.In n w)(hys:y.xs≠[]→∀b off,y.a=some ⟨b,off,none⟩→b∉aP q.vs)(k2:Kp [bw] w1 w2)(hB:aF w2 bw (.cells (Ap {q with vb:=v',bs:=q.bs++[y]}).toArray 44)):df w2 n tot bw {q with vb:=v',bs:=q.bs++[y]}:=by
 have hS:dt n [50] [] w (aP q.vb):=dt.own h.bl (Nat.le_refl _) (by decide)
 have hb1:=hS.blk k1 h.blk (by decide)
 have hS2:dt n [44] [] w1 [bw]:=dt.cells h.bn hb1 (by decide)
 have hsg:=dS h.sg k1 (dN h.sg (hS.not (by decide)))
 have hC1:=h.ch.Ia k1 hS (by decide) (fun p hp=>(h.ch.nd p hp).x.mn k1 hS (by decide) (by decide))
 refine⟨hB,hC1.Ia k2 hS2 (by decide) (fun p hp=>(hC1.nd p hp).x.mn k2 hS2 (by decide) (by decide)),(h.nb.rI (Nat.le_refl _) k1 hS (by decide) (by decide) (by simp)).rI (Nat.le_refl _) k2 hS2 (by decide) (by decide) (by simp),dS hsg k2 (dN hsg (hS2.not (by decide))),fun x hx=>((h.si x hx).rI k1 hS (by decide)).rI k2 hS2 (by decide),dS ho k2 (dN ho (hS2.not (by decide))),fun x hx=>?_,h.sn,fun x hx=>(List.mem_append.1 hx).elim (h.sb x) (fun e=>by rw[List.mem_singleton] at e;rw[e];exact hys),h.pn,h.bn⟩
 have hx:x.In n w:=(List.mem_append.1 hx).elim (h.bi x) (fun e=>by rw[List.mem_singleton] at e;rw[e];exact hy)
 exact(hx.mn k1 hS (by decide) (by decide)).mn k2 hS2 (by decide) (by decide)
theorem cL.qI{w:World}{n:Nat}{A:List Nat}{tot:Int}{c:Cm}(h:cL w n A tot c):dt n CT [c.tm,c.nm] w (lA c):=
 (dt.cells h.bn h.tree.blk (by decide)).cons ((dt.map h.tn h.tree.map (by simp)).cons ((dt.map h.nn h.map (by simp)).cons h.pool.rI))
def l7(bw:Nat)(q:Wl):List Nat:=bw::q.c.vb::q.pm::(aP q.vN++(lA q.c++(aP q.vs++aP q.vb)))
theorem dT{bw x:Nat}{q:Wl}:x∈l7 bw q↔x=bw∨x=q.c.vb∨x=q.pm∨x∈aP q.vN∨x=q.c.tb∨x=q.c.tm∨x=q.c.nm∨x=q.c.pb∨x∈aP q.c.pv∨x∈aP q.vs∨x∈aP q.vb:=by
 unfold l7 lA
 simp[or_assoc]
structure nu(w w':World)(bw:Nat)(q q':Wl):Prop where
 kp:Kp (l7 bw q) w w'
 sub:∀x∈l7 bw q',x∈l7 bw q∨w.heap.size≤x
theorem nu.ay{w w':World}{bw:Nat}{q:Wl}(hk:Kp [] w w'):nu w w' bw q q:=⟨hk.any,fun x hx=>Or.inl hx⟩
theorem nu.trans{w w1 w2:World}{bw:Nat}{q q1 q2:Wl}(h:nu w w1 bw q q1)(h':nu w1 w2 bw q1 q2):nu w w2 bw q q2:=
 ⟨h.kp.st h'.kp h.sub,fun x hx=>(h'.sub x hx).elim (h.sub x) (fun g=>Or.inr (Nat.le_trans h.kp.size g))⟩
theorem o6{v v':Value}{n x:Nat}(h:∀g,v'.ownBlock=some g→v.ownBlock=some g∨n≤g)(hx:x∈aP v'):x∈aP v∨n≤x:=(h x (aH hx)).elim (fun e=>Or.inl (gg e)) Or.inr
theorem nu.sgn{w w':World}{bw:Nat}{q:Wl}{v':Value}{nb':eA}(hk:Kp (q.c.vb::q.pm::aP q.vN) w w')(hv:∀g,v'.ownBlock=some g→q.vN.ownBlock=some g∨w.heap.size≤g):nu w w' bw q {q with vN:=v',nb:=nb'}:=by
 refine⟨hk.mono (fun x hx=>?_),fun x hx=>?_⟩
 ·rw[dT]
  rcases List.mem_cons.1 hx with h|h
  ·exact Or.inr (Or.inl h)
  ·rcases List.mem_cons.1 h with h|h
   ·exact Or.inr (Or.inr (Or.inl h))
   ·exact Or.inr (Or.inr (Or.inr (Or.inl h)))
 ·rw[dT] at hx⊢
  simp only at hx
  by_cases h:x∈aP v'
  ·exact(o6 hv h).elim (fun g=>Or.inl (Or.inr (Or.inr (Or.inr (Or.inl g))))) Or.inr
  ·simp only[h,false_or] at hx
   left
   rcases hx with h|h|h|h
   ·exact Or.inl h
   ·exact Or.inr (Or.inl h)
   ·exact Or.inr (Or.inr (Or.inl h))
   ·exact Or.inr (Or.inr (Or.inr (Or.inr h)))
theorem nu.put{w w1 w2:World}{bw:Nat}{q:Wl}{v':Value}{s':List Tm}(h1:Kp (aP q.vs) w w1)(h2:Kp [bw] w1 w2)(hv:∀g,v'.ownBlock=some g→q.vs.ownBlock=some g∨w.heap.size≤g):nu w w2 bw q {q with vs:=v',ss:=s'}:=by
 refine⟨(h1.mono (fun x hx=>?_)).trans (h2.mono (fun x hx=>?_)),fun x hx=>?_⟩
 ·rw[dT];simp[hx]
 ·rw[List.mem_singleton] at hx;rw[dT];exact Or.inl hx
 ·rw[dT] at hx⊢
  simp only at hx
  by_cases h:x∈aP v'
  ·exact(o6 hv h).elim (fun g=>Or.inl (by simp[g])) Or.inr
  ·simp only[h,false_or] at hx
   exact Or.inl (by rcases hx with h|h|h|h|h|h|h|h|h|h<;>simp[h])
theorem nu.Gg{w w1 w2:World}{bw:Nat}{q:Wl}{v':Value}{s':List Bm}(h1:Kp (aP q.vb) w w1)(h2:Kp [bw] w1 w2)(hv:∀g,v'.ownBlock=some g→q.vb.ownBlock=some g∨w.heap.size≤g):nu w w2 bw q {q with vb:=v',bs:=s'}:=by
 refine⟨(h1.mono (fun x hx=>?_)).trans (h2.mono (fun x hx=>?_)),fun x hx=>?_⟩
 ·rw[dT];simp[hx]
 ·rw[List.mem_singleton] at hx;rw[dT];exact Or.inl hx
 ·rw[dT] at hx⊢
  simp only at hx
  by_cases h:x∈aP v'
  ·exact(o6 hv h).elim (fun g=>Or.inl (by simp[g])) Or.inr
  ·simp only[h,or_false] at hx
   exact Or.inl (by rcases hx with h|h|h|h|h|h|h|h|h|h<;>simp[h])
theorem nu.DC{w w':World}{bw:Nat}{q:Wl}{c':Cm}{S:List Nat}(hk:Kp S w w')(hS:∀x∈S,x∈lA q.c)(e:c'.vb=q.c.vb∧c'.tb=q.c.tb∧c'.tm=q.c.tm∧c'.nm=q.c.nm∧c'.pb=q.c.pb)(hv:∀g,c'.pv.ownBlock=some g→q.c.pv.ownBlock=some g∨w.heap.size≤g):nu w w' bw q {q with c:=c'}:=by
 obtain⟨e1,e2,e3,e4,e5⟩:=e
 refine⟨hk.mono (fun x hx=>?_),fun x hx=>?_⟩
 ·have:=hS x hx
  unfold l7
  simp[this]
 ·rw[dT] at hx⊢
  simp only[e1,e2,e3,e4,e5] at hx
  by_cases h:x∈aP c'.pv
  ·exact(o6 hv h).elim (fun g=>Or.inl (by simp[g])) Or.inr
  ·simp only[h,false_or] at hx
   exact Or.inl (by rcases hx with h|h|h|h|h|h|h|h|h|h<;>simp[h])
theorem so{w:World}{base n sz:Nat}{T:TypeId}{v:Value}{xs:List Value}(h:w.ownsRow base T sz v n xs):∀x∈aP v,base≤x:=fun x hx=>cp h x (aH hx)
theorem df.ge{w:World}{n bw:Nat}{tot:Int}{q:Wl}(h:df w n tot bw q):∀x∈l7 bw q,n≤x:=fun x hx=>by
 rw[dT] at hx
 have hc:∀x∈lA q.c,n≤x:=fun x hx=>(h.ch.qI x hx).1
 unfold lA at hc
 simp only[List.mem_cons] at hc
 rcases hx with h1|h1|h1|h1|h1|h1|h1|h1|h1|h1|h1
 ·rw[h1];exact h.bn
 ·rw[h1];exact h.nb.bp
 ·rw[h1];exact h.nb.pp
 ·exact so h.nb.own x h1
 ·exact hc x (Or.inl h1)
 ·exact hc x (Or.inr (Or.inl h1))
 ·exact hc x (Or.inr (Or.inr (Or.inl h1)))
 ·exact hc x (Or.inr (Or.inr (Or.inr (Or.inl h1))))
 ·exact hc x (Or.inr (Or.inr (Or.inr (Or.inr h1))))
 ·exact so h.sg x h1
 ·exact so h.bl x h1
structure ni(q:Wl)(H:Int):Prop where
 ch:fD q.c H
 bs:∀x∈q.bs,∃p,aB q.c.ns (aQ x.b)=some p∧p.2.x.b=x.b
 ne:0<q.bs.length
 nl:(q.nb.length:Int)≤100+H
 sl:(q.ss.length:Int)≤100+H
 bl:(q.bs.length:Int)≤100+H
theorem ni.ht{q:Wl}{H:Int}(h:ni q H){x:Bm}(hx:x∈q.bs):0≤x.ht∧x.ht≤H:=by
 obtain⟨p,h1,h2⟩:=h.bs x hx
 obtain⟨g1,g2,-⟩:=h.ch.nd _ _ h1
 have e:p.2.x.ht=x.ht:=by
  have:p.2.x.b.ht=x.b.ht:=by rw[h2]
  exact this
 rw[e] at g1 g2
 exact⟨g1,g2⟩
end
section
theorem qg(a:Ax):(qx a).length=9:=rfl
def ti(nb:eA)(c c':Cm):Prop:=(c'.bd=c.bd∧c'.first=c.first∧c'.cb=c.cb∧c'.vb=c.vb)∧((c'.tr=c.tr∧c'.ns=c.ns)∨
 ∃b z qn,qy nb c b=0∧c'.tr=c.tr.add (aQ b) b.par∧c'.ns=cF c.ns (aQ b) (z,qn)∧qn.x.b=b∧∃p,aB c.ns b.par=some p∧eS nb b.ht b.mkr p.2.f p.2.t [] b.txs=(0,qn.f,qn.t,qn.es))
def TM(c c':Cm):Prop:=c'.ps.map Em.en=c.ps.map Em.en∧c'.tr=c.tr∧c'.ns=c.ns
def PV(w:World)(n:Nat)(tot:Int)(bw:Nat)(q:Wl)(H:Int)(e:Ending)(w':World):Prop:=
 ∃(q':Wl) (z:Int),e= .returned (.int .i64 z)∧df w' n tot bw q'∧ni q' (H+1)∧ti q.nb q.c q'.c∧(z≠0→TM q.c q'.c)∧ku q.nb q'.nb∧nu w w' bw q q'
theorem ni.mono{q:Wl}{H H':Int}(h:ni q H)(hH:H≤H'):ni q H':=⟨h.ch.mono hH,h.bs,h.ne,by have:=h.nl;omega,by have:=h.sl;omega,by have:=h.bl;omega⟩
theorem ti.same{nb:eA}{c:Cm}:ti nb c c:=⟨⟨rfl,rfl,rfl,rfl⟩,Or.inl ⟨rfl,rfl⟩⟩
theorem qi{κ ν:Type}[DecidableEq κ]{k:κ}{v:ν}:∀{m:List (κ×ν)} {p:κ×ν},p∈cF m k v→p=(k,v)∨p∈m
 |[],p,h=>by
  simp only[cF,List.mem_singleton] at h
  exact Or.inl h
 |(a,b)::m,p,h=>by
  simp only[cF] at h
  split at h
  ·rename_i e
   rcases List.mem_cons.1 h with h|h
   ·exact Or.inl (by rw[h,e])
   ·exact Or.inr (List.mem_cons_of_mem _ h)
  ·rcases List.mem_cons.1 h with h|h
   ·exact Or.inr (h▸List.mem_cons_self)
   ·rcases qi h with h|h
    ·exact Or.inl h
    ·exact Or.inr (List.mem_cons_of_mem _ h)
def Jk(n:Nat)(vs:Value):GD:=⟨Bm×Bool,(hG,false),fun x=> .tuple #[iH x.1,.bool x.2],fun x w=>x.1.In n w∧(x.1.xs≠[]→∀b off,x.1.a=some ⟨b,off,none⟩→b∉aP vs)⟩
theorem Ci{n:Nat}{vs:Value}(x:(Jk n vs).X):cm [] ((Jk n vs).phi x):=fun w w' hk h=>⟨h.1.ay hk,h.2⟩
attribute [local irreducible] CG NG SG aK aI Row aF aE aM bE aQ bD
theorem ux{w:World}{n bw:Nat}{tot:Int}{q:Wl}(h:df w n tot bw q){H:Int}(ok:ni q H)(hH:H≤200)(ht:tot≤1000000000){a:Ax}(ha:a.In n w)(hbl:a.body.length≤10000000):
  Calls Tryz.prog 14 #[.pointer (some ⟨bw,0,none⟩),Hf a] w (PV w n tot bw q H):=by
 refine bJ Tryz.func14 rfl Tryz.ntmps14 rfl ?_
 have hnl:=ok.nl
 have jE:=ok.sl
 have hbll:=ok.bl
 have hw0:=h.ch.w0
 repeat apply aj
 refine SG.box rfl rfl rfl (ag rfl) (fun b3 w1 hk1 hb3 hB3=>?_)
 have hB3:aF w1 b3 (.cells (qx a).toArray 35):=hB3
 have r3:Row w1 b3 0 (qx a):=Row.all hB3 rfl
 obtain⟨-,r0,-⟩:=fB hB3
 obtain⟨K,hK⟩:∃K:UInt8,a.dO%UInt8.ofNat (Int.toNat 4)=K:=⟨_,rfl⟩
 repeat (first|apply aj|(apply ar;rfl;(first|apply Hr|apply aD|apply bf|apply aW|apply fF)<;>first|rfl|(apply Ar.mk;omega)|assumption|exact List.not_mem_nil|exact CA))
 rw[hK]
 clear r0
 refine CG.to [(0,.pointer (some ⟨bw,0,none⟩)),(3,.pointer (some ⟨b3,0,none⟩)),(4,.int .i64 0),(12,.bool (decide ((K.toNat:Int)=0)))] (aS.of rfl) ?_
 by_cases hk0:(K.toNat:Int)=0
 ·refine CG.kh rfl (ag rfl) (decide_eq_true hk0) ?_
  repeat (first|apply aj|(apply ar;rfl;(first|apply az|apply bj)<;>first|rfl|assumption|exact List.not_mem_nil))
  refine SG.call rfl rfl rfl (vs:=[.pointer (some ⟨bw,0,none⟩),Hf a]) (bz.of rfl) ((BI (h.ay hk1) (Nat.le_trans hw0 hk1.size) (by omega) (ha.ay hk1) hbl).mono (fun e w2 hh=>?_))
  obtain⟨y,v',nb',rfl,hy,hN2,hk2,hv',hnl',hle'⟩:=hh
  refine⟨_,rfl,?_⟩
  have h2:=(h.ay hk1).sgn hk2 hN2
  refine SG.alloc rfl rfl rfl (fun b5 w3 hk3 hb5 hB5=>?_)
  refine SG.aN (l:=bV y) rfl rfl (ag rfl) (ag rfl) hB5 (au _) rfl (cC _) (fun w4 hk4 hB5=>?_)
  have hB5:aF w4 b5 (.cells (bV y).toArray 52):=hB5
  have k24:=hk3.ai hk4 (aV hb5)
  have h4:=h2.ay k24
  have K4:=((nu.ay (bw:=bw) hk1).trans (nu.sgn (nb':=nb') hk2 hv')).trans (nu.ay k24)
  have hy4:=hy.ay k24
  obtain⟨q2,hq2⟩:∃q2,({q with vN:=v',nb:=nb'}:Wl)=q2:=⟨_,rfl⟩
  have e1:q2.c=q.c:=by rw[←hq2]
  have e2:q2.ss=q.ss:=by rw[←hq2]
  have e3:q2.bs=q.bs:=by rw[←hq2]
  have e4:q2.nb=nb':=by rw[←hq2]
  rw[hq2] at h4 K4
  obtain⟨-,-,z2,-⟩:=cy h4.blk
  have r5:Row w4 b5 0 (bV y):=Row.all hB5 rfl
  clear r3
  have hSl:∀z∈aP q2.vs,z<w4.heap.size:=fun z hz=>cD h4.sg z (aH hz)
  have hso:q2.vs=q.vs:=by rw[←hq2]
  have n5:b5∉aP q2.vs:=fun hm=>by
   rw[hso] at hm
   have h1:=cD h.sg b5 (aH hm)
   have:=hk1.size
   have:=hk2.size
   omega
  have nw:bw∉aP q2.vs:=fun hm=>cK h4.sg (by decide) h4.blk bw (aH hm) (List.mem_singleton.2 rfl)
  have hsl2:q2.ss.length≤1000:=by rw[e2];omega
  have hnw4:=h4.ch.w0
  repeat apply aj
  refine CG.dM mixed 8 [0,1,2,3,4,5,6,7] [6,7] (aP q2.vs) (fun W=>W.ownsRow n 52 13 q2.vs q2.ss.length (bO bV q2.ss)) (by kernel_rfl) h4.sg (fun _ _ hk h=>aT h hk) ?_
  repeat (apply bZ;rfl;rfl;(first|apply az|apply bf|apply bj|apply aW|apply bM)<;>first|rfl|assumption|apply au)
  refine aI.jt (cs:=(bV y).toArray) (E:=52) rfl rfl rfl rfl rfl (fun W=>zU y W) hSl (fun W W' hk h=>trivial) (fun _ _ hk h=>aT h hk) (fun bn=>?_)
  apply aI.jy (P:=Tryz.prog) (t:=41) (base:=n) (e:=52) (i:=Tryz.t52) (f:=ty.i52) (v:=q2.vs) (nn:=q2.ss.length) (xs:=bO bV q2.ss) (b:=bn) (off:=0) (m:=1) (c:=1) (news:=bV y)
  iterate 4 exact rfl
  iterate 2 exact ag rfl
  iterate 3 exact rfl
  ·exact fun W hk hF=>Row.all hF.2.2 rfl
  ·rw[au];rfl
  ·exact cC _
  ·simp only[maxLen];omega
  ·show(q2.ss.length+1)*80≤_;omega
  ·omega
  ·exact fun _ h=>h
  ·exact fun W W' hk hF=>⟨trivial,hF.2.1,hF.2.2.kp hk (fun hm=>by have:=hSl _ hm;have:=hF.2.1;omega)⟩
  intro v7
  refine aI.tl (fun w5 hk5 hF ho7=>?_)
  obtain⟨-,hv7⟩:=hF
  have ho7:w5.ownsRow n 52 13 v7 (q2.ss++[y]).length (bO bV (q2.ss++[y])):=by
   rw[dx,gp,List.length_append]
   exact ho7
  obtain⟨a7,c7,rfl⟩:=gF ho7
  have hbw5:=h4.blk.kp hk5 nw
  clear z2 r5
  repeat (apply ar;rfl;(first|apply aW|apply bM)<;>rfl)
  refine SG.cr [.pointer (some ⟨q2.c.cb,0,none⟩),.pointer (some ⟨q2.c.vb,0,none⟩)] [q2.vs] [q2.vb] rfl rfl (ag rfl) (ag rfl) hbw5 rfl rfl rfl rfl rfl (fun w6 hk6 hB6=>?_)
  have h6:=h4.put hk5 ho7 hv7 hy4 hk6 hB6
  have K6:=K4.trans (nu.put (s':=q2.ss++[y]) hk5 hk6 hv7)
  have lw:=hbw5.lt
  have nb5:b5≠bw:=fun e=>by
   subst e
   have:=aF.uniq hB5 h4.blk
   simp only[Obj.cells.injEq] at this
   exact absurd this.2.1 (by decide)
  have hB56:=(hB5.kp hk5 n5).kp hk6 (bP nb5)
  obtain⟨q3,hq3⟩:∃q3,({q2 with vs:= .slice a7 (q2.ss++[y]).length c7,ss:=q2.ss++[y]}:Wl)=q3:=⟨_,rfl⟩
  have f1:q3.c=q.c:=by rw[←hq3];exact e1
  have f2:q3.ss=q.ss++[y]:=by rw[←hq3,←e2]
  have f3:q3.bs=q.bs:=by rw[←hq3];exact e3
  have f4:q3.nb=nb':=by rw[←hq3];exact e4
  rw[hq3] at h6 K6
  obtain⟨z0,-,-,-⟩:=cy h6.blk
  have r5:Row w6 b5 0 (bV y):=Row.all hB56 rfl
  have hy6:y.In n w6:=h6.si y (by rw[f2];simp)
  repeat apply aj
  refine CG.tail mixed 5 [0,1,2,3,4] (by kernel_rfl) ?_
  repeat (apply bZ;rfl;rfl;(first|apply az|apply bf|apply bj|apply aW|apply bM)<;>first|rfl|assumption|exact List.not_mem_nil|apply au)
  refine aI.tl (fun w7 hk7 _ _=>?_)
  have h7:=h6.ay hk7
  have hpool:dF 256 (q3.c.ps.map Em.en):=by rw[f1];exact ok.ch.pool
  obtain⟨qn,hqn⟩:∃qn,aB q3.c.ns q3.c.tr.tip=some qn:=by rw[f1];exact ok.ch.tip
  clear z0 r5
  refine SG.call rfl rfl rfl (vs:=[.pointer (some ⟨q3.c.cb,0,none⟩),eR y]) (bz.of rfl) ((oz h7.ch h7.nb hpool (hy6.ay hk7) hqn).mono (fun e w8 hh=>?_))
  obtain⟨rfl,pv',ps',hC8,eps,hk8,hpv8⟩:=hh
  refine⟨_,rfl,?_⟩
  have h8:=h7.DC hk8 h7.ch.pool.rI hC8 ⟨rfl,rfl,rfl,rfl⟩ (fun p hp=>Or.inl hp)
  repeat (first|apply aj|(apply ar;rfl;apply aD<;>rfl))
  refine aO (Or.inl rfl) Tryz.results14 (aC.tmp rfl) ?_
  refine⟨_,_,rfl,h8,⟨?_,?_,?_,?_,?_,?_⟩,?_,?_,by show ku q.nb q3.nb;rw[f4];exact hle',(K6.trans (nu.ay hk7)).trans (nu.DC hk8 (fun x hx=>by unfold lA;rcases List.mem_cons.1 hx with h|h<;>simp[h]) ⟨rfl,rfl,rfl,rfl,rfl⟩ hpv8)⟩
  ·have ok3:fD q3.c H:=by rw[f1];exact ok.ch
   exact(ok3.sub eps).mono (by omega)
  ·show∀x∈q3.bs,∃p,aB q3.c.ns (aQ x.b)=some p∧p.2.x.b=x.b
   rw[f3,f1]
   exact ok.bs
  ·show 0<q3.bs.length
   rw[f3]
   exact ok.ne
  ·show(q3.nb.length:Int)≤100+(H+1)
   rw[f4]
   omega
  ·show(q3.ss.length:Int)≤100+(H+1)
   rw[f2,List.length_append,List.length_singleton]
   omega
  ·show(q3.bs.length:Int)≤100+(H+1)
   rw[f3]
   omega
  ·rw[←f1]
   exact⟨⟨rfl,rfl,rfl,rfl⟩,Or.inl ⟨rfl,rfl⟩⟩
  ·rw[←f1]
   exact fun hz=>⟨by show ps'.map Em.en=_;rw[eps];exact if_neg hz,rfl,rfl⟩
 refine CG.ki rfl (ag rfl) (decide_eq_false hk0) ?_
 have h1:=h.ay hk1
 obtain⟨z0,-,-,-⟩:=cy h1.blk
 have hbh:∀x∈q.bs,0≤x.ht∧x.ht≤1000:=fun x hx=>by have:=ok.ht hx;omega
 repeat apply aj
 refine CG.free mixed 12 [0,1,2,3,4,5,6,7,8,9,10,11] [(6,Jk n q.vs),(10,gV w1.heap.size 50 18),(11,gP w1.heap.size 50)] (by kernel_rfl) ?_ ?_
 ·intro p hp
  simp only[List.mem_cons,List.mem_nil_iff,or_false] at hp
  rcases hp with rfl|rfl|rfl
  ·exact Ci
  ·exact o9
  ·exact pc
 repeat (apply yd;rfl;rfl;(first|apply az|apply bf|apply bj|apply aW|apply bM)<;>first|rfl|assumption|exact List.not_mem_nil)
 refine bE.uV (vs:=[.pointer (some ⟨bw,0,none⟩),.pointer (some ⟨q.c.cb,0,none⟩),Hf a]) (Jk n q.vs) rfl rfl rfl rfl (bz.of rfl) (fun W hk _=>(vm (h1.ay hk) ok.ch (by omega) ht ok.ne (by omega) hbh (by omega) ((ha.ay hk1).ay hk)).mono (fun e W' hh=>?_)) (fun y=>?_)
 ·obtain⟨y,o,he,hy,hk',hs⟩:=hh
  exact⟨(y,o),he,⟨hy,hs⟩,hk'⟩
 repeat (apply yd;rfl;rfl;(first|apply az|apply dA)<;>rfl)
 refine bE.td rfl rfl rfl rfl rfl (Nat.le_refl _) (fun b6=>?_)
 refine bE.rW (l:=dq y.1) rfl rfl rfl rfl (by kernel_rfl) (ag rfl) (ag rfl) (aJ _) (Nat.le_refl _) (fun W hk hF=>⟨hF _ (.head _) (by kernel_rfl),dU _⟩) ?_ ?_
 ·intro p hp hne y w w' cs g0 g1 g2 g3 g4 g5
  simp only[List.mem_cons,List.not_mem_nil,or_false] at hp
  rcases hp with rfl|rfl|rfl
  ·exact⟨g5.1.wr g3 (by have:=hk1.size;omega) g1,g5.2⟩
  ·exact pa (aJ _) g3 g4 g5
  ·exact absurd rfl hne
 refine bE.tl (fun w2 hk2 hF=>?_)
 obtain⟨lb6,hB6⟩:w1.heap.size≤b6∧aF w2 b6 (.cells (dq y.1).toArray 50):=hF _ (.head _)
 obtain⟨hy,hys⟩:y.1.In n w2∧(y.1.xs≠[]→∀b off,y.1.a=some ⟨b,off,none⟩→b∉aP q.vs):=hF _ (.tail _ (.tail _ (.head _)))
 obtain⟨y,o⟩:=y
 simp only at hB6 hy hys
 clear hF z0 r3
 have h2:=h1.ay hk2
 cases o with
 |false=>
  repeat (first|apply aj|(apply ar;rfl;(first|apply az|apply aD|apply fZ)<;>rfl))
  refine bL rfl ?_
  repeat (first|apply aj|(apply ar;rfl;apply aD<;>rfl))
  refine aO (Or.inl rfl) Tryz.results14 (aC.tmp rfl) ?_
  exact⟨q,9,rfl,h2,ok.mono (by omega),ti.same,fun _=>⟨rfl,rfl,rfl⟩,ku.refl _,nu.ay (hk1.trans hk2)⟩
 |true=>
  obtain⟨z0,-,-,-⟩:=cy h2.blk
  have r6:Row w2 b6 0 (dq y):=Row.all hB6 rfl
  repeat (first|apply aj|(apply ar;rfl;(first|apply az|apply aD|apply fZ)<;>rfl))
  refine bG rfl ?_
  repeat apply aj
  refine CG.tail mixed 5 [0,1,2,3,4] (by kernel_rfl) ?_
  repeat (apply bZ;rfl;rfl;(first|apply az|apply bf|apply bj|apply aW|apply bM)<;>first|rfl|assumption|exact List.not_mem_nil|apply aJ)
  refine aI.tl (fun w3 hk3 _ _=>?_)
  have h3:=h2.ay hk3
  have l1:=h3.ch.tree.map.lt
  have l2:=h3.ch.map.lt
  have l3:=h3.nb.map.lt
  clear z0 r6
  refine SG.call rfl rfl rfl (vs:=[.pointer (some ⟨q.c.cb,0,none⟩),iH y]) (bz.of rfl) ((nY h3.ch ok.ch (by omega) ht (fun z hz=>by
   simp only[List.mem_cons,List.mem_nil_iff,or_false] at hz
   rcases hz with rfl|rfl|rfl
   ·exact l1
   ·exact l2
   ·exact l3) h3.nb (hy.ay hk3)).mono (fun e w4 hh=>?_))
  obtain⟨rfl,hh⟩:=hh
  refine⟨_,rfl,?_⟩
  by_cases hz:qy q.nb q.c y.b=0
  rotate_left
  ·obtain⟨-,hC4,hk4⟩:qy q.nb q.c y.b≠0∧cL w4 n [q.c.tm,q.c.nm,q.pm] tot q.c∧Kp (lA q.c) w3 w4:=hh.elim id (fun g=>absurd g.1 hz)
   have h4:df w4 n tot bw q:=h3.DC hk4 h3.ch.qI hC4 ⟨rfl,rfl,rfl,rfl⟩ (fun p hp=>Or.inl hp)
   repeat (first|apply aj|(apply ar;rfl;(first|apply az|apply aD|apply fF)<;>first|rfl|(apply bN;first|assumption|omega)))
   refine bG rfl ?_
   repeat (first|apply aj|(apply ar;rfl;(first|apply az|apply aD)<;>rfl))
   refine aO (Or.inl rfl) Tryz.results14 (aC.tmp rfl) ?_
   exact⟨q,_,rfl,h4,ok.mono (by omega),ti.same,fun _=>⟨rfl,rfl,rfl⟩,ku.refl _,(nu.ay ((hk1.trans hk2).trans hk3)).trans (nu.DC hk4 (fun _ h=>h) ⟨rfl,rfl,rfl,rfl,rfl⟩ (fun _ h=>Or.inl h))⟩
  obtain⟨-,hA⟩:=hh.elim (fun g=>absurd hz g.1) id
  obtain⟨pv',ps',z,qn,hC4,hqb,hr,hps,hk4,hpv4,hfr⟩:=hA
  have K4:=(nu.ay (bw:=bw) ((hk1.trans hk2).trans hk3)).trans (nu.DC (c':={q.c with pv:=pv',ps:=ps',tr:=q.c.tr.add (aQ y.b) y.b.par,ns:=cF q.c.ns (aQ y.b) (z,qn)}) hk4 (fun _ h=>h) ⟨rfl,rfl,rfl,rfl,rfl⟩ hpv4)
  have h4:=h3.DC hk4 h3.ch.qI hC4 ⟨rfl,rfl,rfl,rfl⟩ (fun p hp=>(qi hp).elim (fun e=>Or.inr (by rw[e];exact hfr)) Or.inl)
  rw[hz]
  repeat (first|apply aj|(apply ar;rfl;(first|apply az|apply aD|apply fF)<;>first|rfl|(apply bK;first|assumption|omega)))
  refine bL rfl ?_
  obtain⟨q2,hq2⟩:∃q2,({q with c:={q.c with pv:=pv',ps:=ps',tr:=q.c.tr.add (aQ y.b) y.b.par,ns:=cF q.c.ns (aQ y.b) (z,qn)}}:Wl)=q2:=⟨_,rfl⟩
  have e1:q2.c={q.c with pv:=pv',ps:=ps',tr:=q.c.tr.add (aQ y.b) y.b.par,ns:=cF q.c.ns (aQ y.b) (z,qn)}:=by rw[←hq2]
  have e2:q2.bs=q.bs:=by rw[←hq2]
  have e3:q2.vs=q.vs:=by rw[←hq2]
  have e4:q2.ss=q.ss:=by rw[←hq2]
  have e5:q2.nb=q.nb:=by rw[←hq2]
  have e6:q2.vb=q.vb:=by rw[←hq2]
  rw[hq2] at h4 K4
  have hbl2:q2.bs.length≤1000:=by rw[e2];omega
  have hSl:∀z∈aP q2.vb,z<w4.heap.size:=fun z hz=>cD h4.bl z (aH hz)
  have n6:b6∉aP q2.vb:=fun hm=>by
   rw[e6] at hm
   have h1:=cD h1.bl b6 (aH hm)
   omega
  have nw:bw∉aP q2.vb:=fun hm=>cK h4.bl (by decide) h4.blk bw (aH hm) (List.mem_singleton.2 rfl)
  have hn4:=h4.ch.w0
  have hS3:dt n CT [q.c.tm,q.c.nm] w3 (lA q.c):=h3.ch.qI
  have hB64:aF w4 b6 (.cells (dq y).toArray 50):=hS3.blk hk4 (hB6.ay hk3) (by decide)
  have hy4:y.In n w4:=(hy.ay hk3).mn hk4 hS3 (by decide) (by decide)
  obtain⟨-,-,-,z3⟩:=cy h4.blk
  have r6:Row w4 b6 0 (dq y):=Row.all hB64 rfl
  refine CG.dM mixed 8 [0,1,2,3,4,5,6,7] [6,7] (aP q2.vb) (fun W=>W.ownsRow n 50 18 q2.vb q2.bs.length (bO dq q2.bs)) (by kernel_rfl) h4.bl (fun _ _ hk h=>aT h hk) ?_
  repeat (apply bZ;rfl;rfl;(first|apply az|apply bf|apply bj|apply aW|apply bM)<;>first|rfl|assumption|apply aJ)
  refine aI.jt (cs:=(dq y).toArray) (E:=50) rfl rfl rfl rfl rfl (fun W=>QQ y W) hSl (fun W W' hk h=>trivial) (fun _ _ hk h=>aT h hk) (fun bn=>?_)
  apply aI.jy (P:=Tryz.prog) (t:=42) (base:=n) (e:=50) (i:=Tryz.t50) (f:=ty.i50) (v:=q2.vb) (nn:=q2.bs.length) (xs:=bO dq q2.bs) (b:=bn) (off:=0) (m:=1) (c:=1) (news:=dq y)
  iterate 4 exact rfl
  iterate 2 exact ag rfl
  iterate 3 exact rfl
  ·exact fun W hk hF=>Row.all hF.2.2 rfl
  ·rw[aJ];rfl
  ·exact dU _
  ·simp only[maxLen];omega
  ·show(q2.bs.length+1)*48≤_;omega
  ·omega
  ·exact fun _ h=>h
  ·exact fun W W' hk hF=>⟨trivial,hF.2.1,hF.2.2.kp hk (fun hm=>by have:=hSl _ hm;have:=hF.2.1;omega)⟩
  intro v7
  refine aI.tl (fun w5 hk5 hF ho7=>?_)
  obtain⟨-,hv7⟩:=hF
  have ho7:w5.ownsRow n 50 18 v7 (q2.bs++[y]).length (bO dq (q2.bs++[y])):=by
   rw[dx,gp,List.length_append]
   exact ho7
  obtain⟨a7,c7,rfl⟩:=gF ho7
  have hbw5:=h4.blk.kp hk5 nw
  clear z3 r6
  repeat (apply ar;rfl;(first|apply aW|apply bM)<;>rfl)
  refine SG.cr [.pointer (some ⟨q2.c.cb,0,none⟩),.pointer (some ⟨q2.c.vb,0,none⟩),q2.vs] [q2.vb] [] rfl rfl (ag rfl) (ag rfl) hbw5 rfl rfl rfl rfl rfl (fun w6 hk6 hB6'=>?_)
  have h6:=h4.Gg hk5 ho7 hy4 (by rw[e3];exact hys) hk6 hB6'
  repeat (first|apply aj|(apply ar;rfl;(first|apply az|apply aD)<;>rfl))
  refine aO (Or.inl rfl) Tryz.results14 (aC.tmp rfl) ?_
  obtain⟨g1,g2,-⟩:=xu hz
  have okc:=ok.ch.added hz (pv:=pv') hqb hr hps
  refine⟨_,0,rfl,h6,⟨?_,?_,?_,?_,?_,?_⟩,?_,fun g=>absurd rfl g,by show ku q.nb q2.nb;rw[e5];exact ku.refl _,K4.trans (nu.Gg hk5 hk6 hv7)⟩
  ·show fD q2.c (H+1)
   rw[e1]
   exact okc
  ·show∀x∈q2.bs++[y],∃p,aB q2.c.ns (aQ x.b)=some p∧p.2.x.b=x.b
   rw[e1,e2]
   intro x hx
   show∃p,aB (cF q.c.ns (aQ y.b) (z,qn)) (aQ x.b)=some p∧p.2.x.b=x.b
   rcases List.mem_append.1 hx with hx|hx
   ·obtain⟨p,hp1,hp2⟩:=ok.bs x hx
    refine⟨p,?_,hp2⟩
    rw[bR,if_neg (fun e=>by rw[e,hp1] at g2;cases g2),hp1]
   ·rw[List.mem_singleton] at hx
    subst hx
    exact⟨(z,qn),by rw[bR,if_pos rfl],hqb⟩
  ·show 0<(q2.bs++[y]).length
   rw[List.length_append];simp
  ·show(q2.nb.length:Int)≤100+(H+1)
   rw[e5];omega
  ·show(q2.ss.length:Int)≤100+(H+1)
   rw[e4];omega
  ·show((q2.bs++[y]).length:Int)≤100+(H+1)
   rw[e2,List.length_append,List.length_singleton];omega
  ·show ti q.nb q.c q2.c
   rw[e1]
   exact⟨⟨rfl,rfl,rfl,rfl⟩,Or.inr ⟨y.b,z,qn,hz,rfl,rfl,hqb,hr⟩⟩
end
section
def kU(n:Int):Tx:=⟨zd,n,1,0,iE (d1 9) 7,[]⟩
def kT(n:Int):Tx:=⟨d1 1,n,1,0,iE (d1 9) 7,[]⟩
def kS:Nat→Tx
 |0=>⟨d1 1,0,1,0,iE (d1 9) 7,ie 0⟩
 |_=>⟨d1 1,1,1,0,iE (d1 9) 7,ie 1⟩
def kN:Nat→eA
 |0=>[]
 |1=>[((d1 1,cV (kT 0)),0)]
 |_=>[((d1 1,cV (kT 0)),0),((d1 1,cV (kT 1)),1)]
def kP:Nat→List En
 |0=>[]
 |1=>[⟨kS 0,0⟩]
 |_=>[⟨kS 0,0⟩,⟨kS 1,0⟩]
def wM:Fb:=cg (iD [] (jK [10,0,0,0] 4))
def DA:Fb:=oM wM (d1 8) (kS 0)
def FF:Fb:=oM DA (d1 8) (kS 1)
def Dy:Tl:=⟨0,zd⟩
def kB:Bl:=⟨bI,1,d1 8,[kS 0,kS 1]⟩
theorem Gw:dQ (iE (d1 9) 7)=0:=by kernel_rfl
theorem Cb:(iE (d1 9) 7).length=2:=by kernel_rfl
theorem FJ:(cV (kT 0)==cV (kT 1))=false:=by kernel_rfl
theorem Gz:(aR (kS 0)==aR (kS 1))=false:=by kernel_rfl
theorem EA:(aQ kB==bI)=false:=by kernel_rfl
theorem sH{t:Tx}(h1:0≤t.non∧t.non≤1)(h2:t.fee=1)(h3:t.kind=0)(h4:t.body=iE (d1 9) 7)(h5:t.sig.length≤2):bg t=0:=by
 have:Fm t:=⟨h1.1,by omega,by omega,by omega,by omega,by omega,by rw[h4,Cb];decide,by omega⟩
 unfold bg
 rw[if_pos this,if_pos h3,h4]
 exact Gw
theorem Ez:∀i,bg (kS i)=0
 |0=>sH ⟨by decide,by decide⟩ rfl rfl rfl (by decide)
 |_+1=>sH ⟨show(0:Int)≤1 by decide,show(1:Int)≤1 by decide⟩ rfl rfl rfl (show(ie 1).length≤2 by decide)
theorem Ou{i:Nat}(hi:i<2):bg (jI (kU (i:Int)) (d1 1))=0:=sH ⟨by show 0≤(i:Int);omega,by show(i:Int)≤1;omega⟩ rfl rfl rfl (Nat.zero_le _)
theorem Cc:aB (kN 1) (d1 1,cV (kT 1))=none:=by
 have:=FJ
 simp only[beq_eq_false_iff_ne,ne_eq] at this
 simp[kN,aB,this]
theorem FH{i:Nat}(hi:i<2):je (kN i) (kU (i:Int)) (d1 1)=(0,kS i,kN (i+1)):=by
 unfold je
 rw[if_neg (fun h=>h (Ou hi))]
 match i,hi with
 |0,_=>rfl
 |1,_=>
  have e:fQ (kN 1) (d1 1) (cV (jI (kU ((1:Nat):Int)) (d1 1)))=some 1:=by
   show fQ (kN 1) (d1 1) (cV (kT 1))=some 1
   unfold fQ
   rw[Cc]
   rfl
  have e2:fP (kN 1) (d1 1) (cV (jI (kU ((1:Nat):Int)) (d1 1)))=kN 2:=by
   show fP (kN 1) (d1 1) (cV (kT 1))=kN 2
   unfold fP
   rw[Cc]
   rfl
  rw[e,e2]
  rfl
theorem Ca:∀{i j:Nat},i<j→j≤2→fl (kN j) (kS i)=0:=by
 intro i j h1 h2
 have hne:=FJ
 simp only[beq_eq_false_iff_ne,ne_eq] at hne
 unfold fl
 rw[if_neg (fun h=>h (Ez i)),if_pos]
 rcases(by omega:(i=0∧j=1)∨(i=0∧j=2)∨(i=1∧j=2)) with⟨rfl,rfl⟩|⟨rfl,rfl⟩|⟨rfl,rfl⟩
 ·simp[lF,kN,aB,show cV (kS 0)=cV (kT 0) from rfl,show(kS 0).frm=d1 1 from rfl,show(kS 0).sig=[0,0] from rfl]
 ·simp[lF,kN,aB,show cV (kS 0)=cV (kT 0) from rfl,show(kS 0).frm=d1 1 from rfl,show(kS 0).sig=[0,0] from rfl]
 ·simp[lF,kN,aB,hne,show cV (kS 1)=cV (kT 1) from rfl,show(kS 1).frm=d1 1 from rfl,show(kS 1).sig=[1,0] from rfl]
theorem FK:∀{i:Nat},i<2→eW 256 (kP i) 0 (kS i)=0:=by
 intro i hi
 unfold eW
 rw[if_neg (by decide),if_neg (fun h=>h (Ez i))]
 match i,hi with
 |0,_=>rfl
 |1,_=>rfl
theorem Ip:∀{i:Nat},i<2→Di (kP i) 0 (kS i)=kP (i+1)
 |0,_=>rfl
 |1,_=>rfl
theorem Ij:(wM (d1 1)).nonce=0:=by kernel_rfl
theorem Ii{i:Nat}(hi:i<2){m:Nm}(hx:m.x=cI dg)(hf:m.f=wM):lH (kN (i+1)) m (kP i) (kS i)=0∧rV (kN (i+1)) m (kP i) (kS i)=kP (i+1):=by
 have h1:lH (kN (i+1)) m (kP i) (kS i)=0:=by
  unfold lH
  rw[if_neg (fun h=>h (Ca (Nat.lt_succ_self i) hi)),hf,hx,if_neg]
  ·exact FK hi
  ·have e:(kS i).frm=d1 1:=by
    match i,hi with
    |0,_=>rfl
    |1,_=>rfl
   rw[e,Ij]
   match i,hi with
   |0,_=>decide
   |1,_=>decide
 refine⟨h1,?_⟩
 unfold rV
 rw[if_pos h1]
 unfold oX
 have e:m.x.ht=0:=by rw[hx];rfl
 rw[e,if_pos (FK hi)]
 exact Ip hi
theorem x8:bD kB=0:=by
 unfold bD
 rw[if_neg (by decide),if_neg (by decide),if_neg,if_pos]
 ·kernel_rfl
 ·intro h
  apply h
  show gy [kS 0,kS 1] []=0
  unfold gy
  rw[if_neg (fun h=>h (Ez 0)),if_neg (by simp)]
  unfold gy
  rw[if_neg (fun h=>h (Ez 1)),if_neg]
  ·rfl
  ·intro h
   simp only[List.mem_singleton,Prod.mk.injEq] at h
   exact absurd h.2 (by decide)
theorem x9:bD (cI dg).b=0:=by
 unfold bD
 rw[if_neg (by decide),if_neg (by decide),if_neg (fun h=>h rfl)]
 exact if_pos rfl
theorem Ik:jr kB (cI dg).b=0:=by
 unfold jr
 rw[if_neg (fun h=>h x8),if_neg]
 rintro(h|h|h)
 ·exact h x9
 ·exact h rfl
 ·exact h rfl
theorem sJ:fq wM (kS 0)=0:=by kernel_rfl
theorem sI:fq DA (kS 1)=0:=by kernel_rfl
theorem GF:lY (jk wM (d1 8) (kS 0)) (kS 0)=0:=by kernel_rfl
theorem GC:lY (jk DA (d1 8) (kS 1)) (kS 1)=21:=by kernel_rfl
theorem FI:eS (kN 2) 1 (d1 8) wM Dy [] [kS 0,kS 1]=(0,FF,Dy,[0,21]):=by
 unfold eS
 rw[if_neg (fun h=>h (Ca (i:=0) (j:=2) (by decide) (by decide))),if_neg (fun h=>h sJ)]
 unfold eS
 have e1:dot Dy wM 1 (d1 8) (kS 0)=Dy:=by unfold dot oW;rw[if_pos sJ];exact if_pos rfl
 have e2:mc [] wM (d1 8) (kS 0)=[0]:=by unfold mc;rw[if_pos sJ,GF];rfl
 rw[e1,e2,if_neg (fun h=>h (Ca (i:=1) (j:=2) (by decide) (by decide))),if_neg (fun h=>h sI)]
 unfold eS
 have e3:dot Dy DA 1 (d1 8) (kS 1)=Dy:=by unfold dot oW;rw[if_pos sI];exact if_pos rfl
 have e4:mc [0] DA (d1 8) (kS 1)=[0,21]:=by unfold mc;rw[if_pos sI,GC];rfl
 show(0,oM DA (d1 8) (kS 1),dot Dy DA 1 (d1 8) (kS 1),mc [0] DA (d1 8) (kS 1))=_
 rw[e3,e4]
 rfl
theorem Oz:(FF (d1 1)).money=1:=by kernel_rfl
theorem Oy:(FF (d1 8)).money=2:=by kernel_rfl
theorem EC:kq wM (kS 0)=true:=by kernel_rfl
theorem EB:kq DA (kS 1)=true:=by kernel_rfl
theorem Ox:sB (d1 8) wM [] [kS 0,kS 1]=[kS 0,kS 1]:=by
 rw[o7 (by decide) EC,if_pos sJ]
 show sB (d1 8) DA [kS 0] [kS 1]=_
 rw[o7 (by decide) EB,if_pos sI]
 rfl
theorem Gx:Ord En.key En.non En.fee (kP 2) [⟨kS 0,0⟩,⟨kS 1,0⟩]:=by
 refine Ord.step [] (⟨kS 0,0⟩:En) [(⟨kS 1,0⟩:En)] _ ⟨fun o ho _=>?_,fun e he h=>?_,fun e he=>by cases he⟩ (Ord.step [] (⟨kS 1,0⟩:En) [] _ ⟨fun o ho _=>?_,fun e he h=>?_,fun e he=>by cases he⟩ Ord.nil)
 ·simp only[List.nil_append,List.mem_cons,List.mem_nil_iff,or_false] at ho
  rcases ho with rfl|rfl<;>decide
 ·simp only[List.nil_append,List.mem_cons,List.mem_nil_iff,or_false] at he
  rcases he with rfl|rfl<;>decide
 ·simp only[List.nil_append,List.mem_cons,List.mem_nil_iff,or_false] at ho
  rw[ho]
  exact Int.le_refl _
 ·simp only[List.nil_append,List.mem_cons,List.mem_nil_iff,or_false] at he
  rw[he]
  exact Int.le_refl _
theorem Gy:jZ (kP 2)=[⟨kS 0,0⟩,⟨kS 1,0⟩]:=Gx.eq
theorem Ov:A1 (kP 2) []=[kS 0,kS 1]:=by
 unfold A1
 rw[Gy]
 rfl
theorem uA:aQ kB≠bI:=fun e=>by
 have h:=EA
 rw[e] at h
 simp at h
attribute [local irreducible] aQ aR bI
theorem Cd:(Tr.new bI 0).addE (aQ kB) kB.par=0:=by
 have hh:(Tr.new bI 0).has (aQ kB)=false:=by
  unfold Tr.has
  show(aB [(bI,xZ)] (aQ kB)).isSome=false
  rw[show aB [(bI,xZ)] (aQ kB)=none from by show(if _ then _ else _)=_;rw[if_neg (fun e=>uA e.symm)];rfl]
  rfl
 have hp:(Tr.new bI 0).has kB.par=true:=by
  unfold Tr.has
  show(aB [(bI,xZ)] bI).isSome=true
  rw[show aB [(bI,xZ)] bI=some xZ from if_pos rfl]
  rfl
 unfold Tr.addE
 rw[hh,hp]
 have hl:¬4096≤(Tr.new bI 0).nodes.length:=Nat.not_le.2 (by simp[Tr.new])
 have hd:¬(Tr.new bI 0).deep kB.par=true:=?_
 ·rw[if_neg (fun h=>Bool.noConfusion h),if_neg (fun h=>Bool.noConfusion h),if_neg hl,if_neg hd]
 have h0:(Tr.new bI 0).ht (Tr.new bI 0).tip=0:=(nJ bI 0).h0
 unfold Tr.deep
 rw[h0]
 exact fun h=>absurd (of_decide_eq_true h) (Nat.not_lt_zero _)
theorem Im{c:Cm}{z:Nat}{m:Nm}(h1:c.ns=[(bI,z,m)])(h2:c.tr=Tr.new bI 0)(hx:m.x=cI dg)(hf:m.f=wM)(ht:m.t=Dy):qy (kN 2) c kB=0:=by
 have l1:aB c.ns (aQ kB)=none:=by
  rw[h1]
  show(if _ then _ else _)=_
  rw[if_neg (fun e=>uA e.symm)]
  rfl
 have l2:aB c.ns kB.par=some (z,m):=by rw[h1];exact if_pos rfl
 have hr:(eS (kN 2) kB.ht kB.mkr m.f m.t [] kB.txs).1=0:=by
  rw[hf,ht]
  show(eS (kN 2) 1 (d1 8) wM Dy [] [kS 0,kS 1]).1=0
  rw[FI]
 rw[xv x8 l1 l2]
 show(if jr kB m.x.b≠0 then _ else _)=_
 rw[hx,if_neg (fun h=>h Ik),if_neg (fun h=>h hr),h2]
 exact Cd
theorem Ig:(Tr.new bI 0).add (aQ kB) kB.par=(Tr.new bI 0).put (aQ kB) bI:=by
 unfold Tr.add
 exact if_pos Cd
theorem FG:((Tr.new bI 0).put (aQ kB) bI).tip=aQ kB:=by
 have h0:(Tr.new bI 0).ht (Tr.new bI 0).tip=0:=(nJ bI 0).h0
 have h1:(Tr.new bI 0).ht bI=0:=(nJ bI 0).h0
 unfold Tr.put
 show(if(Tr.new bI 0).ht (Tr.new bI 0).tip<(Tr.new bI 0).ht bI+1 then aQ kB else(Tr.new bI 0).tip)=_
 rw[h0,h1]
 exact if_pos (Nat.lt_succ_self 0)
theorem wO:((Tr.new bI 0).put (aQ kB) bI).line ((Tr.new bI 0).put (aQ kB) bI).tip=[bI,aQ kB]:=by
 have wf:((Tr.new bI 0).put (aQ kB) bI).WF:=by rw[←Ig];exact(qm (nJ bI 0) _ _).1
 have hx:=wf.tip
 rw[FG] at hx⊢
 rw[wf.Ew hx uA,iu]
 show((Tr.new bI 0).put (aQ kB) bI).line ((Tr.new bI 0).put (aQ kB) bI).first++_=_
 rw[wf.wF]
 rfl
theorem GB{ns:List (Dg×Nat×Nm)}{z z2:Nat}{m q2:Nm}(h1:ns=cF [(bI,z,m)] (aQ kB) (z2,q2))(hx:m.x=cI dg)(hq:q2.x.b=kB)(he:q2.es=[0,21]):jF ns (aR (kS 1)) [bI,aQ kB]=some (1,21):=by
 have l1:aB ns bI=some (z,m):=by
  rw[h1,bR,if_neg uA]
  exact if_pos rfl
 have l2:aB ns (aQ kB)=some (z2,q2):=by
  rw[h1,bR,if_pos rfl]
 have n1:m.sx=[]:=by unfold Nm.sx;rw[hx];rfl
 have n2:q2.sx=[aR (kS 0),aR (kS 1)]:=by
  have:q2.x.b.txs=kB.txs:=by rw[hq]
  have:q2.x.xs.map (·.t)=[kS 0,kS 1]:=this
  unfold Nm.sx
  have e:q2.x.xs.map (fun x=>aR x.t)=(q2.x.xs.map (·.t)).map aR:=by rw[List.map_map];rfl
  rw[e,this]
  rfl
 have hh:q2.x.ht=1:=by
  have:q2.x.b.ht=kB.ht:=by rw[hq]
  exact this
 have hn:aR (kS 0)≠aR (kS 1):=fun e=>by
  have h:=Gz
  rw[e] at h
  simp at h
 have i1:pQ m.sx (aR (kS 1))= -1:=by rw[n1];rfl
 have i2:pQ q2.sx (aR (kS 1))=1:=by
  rw[n2]
  unfold pQ
  have:[aR (kS 0),aR (kS 1)].findIdx (fun x=>decide (x=aR (kS 1)))=1:=by
   simp[List.findIdx_cons,hn]
  rw[this]
  rfl
 unfold jF
 rw[l1]
 show(if 0≤pQ m.sx (aR (kS 1)) then _ else _)=_
 rw[i1,if_neg (by decide)]
 unfold jF
 rw[l2]
 show(if 0≤pQ q2.sx (aR (kS 1)) then some (q2.x.ht,q2.es.getD (pQ q2.sx (aR (kS 1))).toNat 0) else _)=_
 rw[i2,hh,he]
 exact if_pos (by decide)
end
end Go.Proofs.YtpnjgjddabeapaaGreatDoor
