import Derived.Test.YtpnjgjddabeapaaGreatDoorMm4
namespace Go.Proofs.YtpnjgjddabeapaaGreatDoor
set_option linter.all false
set_option maxHeartbeats 400000000
section
structure MkJ(wT:World)(b12 b13 bm0:Nat)(p mk:Dg)(ht:Int)(tot:Int)(N:Nat)(i:Nat)(xs:List Tm)(bk bm tb:Nat)(m:Bk)(f:Fb)(t:Tl)(va:Value)(es:List Int)(vt:Value)(acc:List Tm)(W:World):Prop where
 kp:Kp [b13,bm0,b12] wT W
 st:gr W 116 [] b13 bk bm tb m t va
 bm:bm=bm0∨wT.heap.size≤bm
 bi:BkI tot (N+6*i) m f
 tn:t.n≤N+i
 oa:W.ownsRow wT.heap.size 36 1 va es.length (flt ziL es)
 el:es.length≤i
 ot:W.ownsRow wT.heap.size 52 13 vt acc.length (flt txc acc)
 al:acc.length≤i
 sub:∀x∈acc,x∈xs
 blk:Blk W b12 (.cells (bkp p ht mk vt).toArray 50)
theorem MkJ.kp0{wT:World}{b12 b13 bm0:Nat}{p mk:Dg}{ht:Int}{tot:Int}{N i:Nat}{xs:List Tm}{bk bm tb:Nat}{m:Bk}{f:Fb}{t:Tl}{va:Value}{es:List Int}{vt:Value}{acc:List Tm}{W W':World}(J:MkJ wT b12 b13 bm0 p mk ht tot N i xs bk bm tb m f t va es vt acc W)(hk:Kp [] W W'):MkJ wT b12 b13 bm0 p mk ht tot N i xs bk bm tb m f t va es vt acc W':=
 ⟨J.kp.trans hk.any,J.st.kp0 hk,J.bm,J.bi,J.tn,aI J.oa hk,J.el,aI J.ot hk,J.al,J.sub,J.blk.kp0 hk⟩
theorem MkJ.next{wT:World}{b12 b13 bm0:Nat}{p mk:Dg}{ht:Int}{tot:Int}{N i:Nat}{xs:List Tm}{bk bm tb:Nat}{m:Bk}{f:Fb}{t:Tl}{va:Value}{es:List Int}{vt:Value}{acc:List Tm}{W W':World}(J:MkJ wT b12 b13 bm0 p mk ht tot N i xs bk bm tb m f t va es vt acc W)(hk:Kp [] W W'):MkJ wT b12 b13 bm0 p mk ht tot N (i+1) xs bk bm tb m f t va es vt acc W':=
 ⟨J.kp.trans hk.any,J.st.kp0 hk,J.bm,J.bi.mono (by omega),by have:=J.tn;omega,aI J.oa hk,by have:=J.el;omega,aI J.ot hk,by have:=J.al;omega,J.sub,J.blk.kp0 hk⟩
theorem MkJ.did{wT:World}{b12 b13 bm0:Nat}{p mk:Dg}{ht:Int}{tot:Int}{N i:Nat}{xs:List Tm}{bk bm tb:Nat}{m:Bk}{f:Fb}{t:Tl}{va:Value}{es:List Int}{vt:Value}{acc:List Tm}{W W':World}(J:MkJ wT b12 b13 bm0 p mk ht tot N i xs bk bm tb m f t va es vt acc W)(x:Tx){bk' bm' tb':Nat}{m':Bk}{va':Value}
  (hst:gr W' 116 [] b13 bk' bm' tb' m' (dot t f ht mk x) va') (hbi:BkI tot (N+6*i+6) m' (dof f mk x)) (hoa:W'.ownsRow wT.heap.size 36 1 va' (doa es f mk x).length (flt ziL (doa es f mk x))) (hk:Kp (b13::bm::aT va) W W') (hbm:bm'=bm∨W.heap.size≤bm'):MkJ wT b12 b13 bm0 p mk ht tot N (i+1) xs bk' bm' tb' m' (dof f mk x) (dot t f ht mk x) va' (doa es f mk x) vt acc W':=by
 have no:∀{T:TypeId},116≠T→36≠T→NoT T 0 W (b13::bm::aT va):=fun h1 h2=>NoT.cons (Nat.zero_le _) (NoT.cells J.st.blk h1) (NoT.cons (Nat.zero_le _) (J.st.book.map.noT _) (NoT.own J.oa (Nat.zero_le _) h2))
 refine⟨J.kp.st hk (fun z hz=>?_),hst,?_,hbi.mono (by omega),by have:=J.tn;have:=Au t f ht mk x;omega,hoa,by have:=J.el;have:=Av es f mk x;omega,bA J.ot hk (cQ J.ot (no (by decide) (by decide))),by have:=J.al;omega,J.sub,J.blk.kp hk (fun hm=>(no (by decide) (by decide) b12 hm).2 _ _ J.blk)⟩
 ·rcases List.mem_cons.1 hz with rfl|hz
  ·exact Or.inl (by simp)
  rcases List.mem_cons.1 hz with rfl|hz
  ·exact J.bm.elim (fun e=>Or.inl (by simp[e])) Or.inr
  ·exact Or.inr (bE J.oa z (ay hz))
 ·rcases hbm with rfl|g
  ·exact J.bm
  ·exact Or.inr (Nat.le_trans J.kp.size g)
theorem MkJ.app{wT:World}{b12 b13 bm0:Nat}{p mk:Dg}{ht:Int}{tot:Int}{N i:Nat}{xs:List Tm}{bk bm tb:Nat}{m:Bk}{f:Fb}{t:Tl}{va:Value}{es:List Int}{vt vt':Value}{acc acc':List Tm}{W W':World}(J:MkJ wT b12 b13 bm0 p mk ht tot N i xs bk bm tb m f t va es vt acc W)(hk:Kp (b12::aT vt) W W')
  (ho:W'.ownsRow wT.heap.size 52 13 vt' acc'.length (flt txc acc')) (hl:acc'.length≤i) (hs:∀x∈acc',x∈xs) (hB:Blk W' b12 (.cells (bkp p ht mk vt').toArray 50)):MkJ wT b12 b13 bm0 p mk ht tot N i xs bk bm tb m f t va es vt' acc' W':=by
 have no:∀{T:TypeId},50≠T→52≠T→NoT T 0 W (b12::aT vt):=fun h1 h2=>NoT.cons (Nat.zero_le _) (NoT.cells J.blk h1) (NoT.own J.ot (Nat.zero_le _) h2)
 have nb:∀{T:TypeId} {b:Nat} {cs:Array Value},50≠T→52≠T→Blk W b (.cells cs T)→b∉b12::aT vt:=fun h1 h2 hb hm=>(no h1 h2 _ hm).2 _ _ hb
 refine⟨J.kp.st hk (fun z hz=>?_),⟨J.st.blk.kp hk (nb (by decide) (by decide) J.st.blk),⟨J.st.book.blk.kp hk (nb (by decide) (by decide) J.st.book.blk),J.st.book.map.kp hk (fun hm=>?_)⟩,J.st.app.kp hk (nb (by decide) (by decide) J.st.app)⟩,J.bm,J.bi,J.tn,bA J.oa hk (cQ J.oa (no (by decide) (by decide))),J.el,ho,hl,hs,hB⟩
 ·rcases List.mem_cons.1 hz with rfl|hz
  ·exact Or.inl (by simp)
  ·exact Or.inr (bE J.ot z (ay hz))
 ·rcases List.mem_cons.1 hm with e|hm
  ·exact cS J.blk J.st.book.map e
  ·exact iw J.ot J.st.book.map _ (ay hm) (List.mem_singleton.2 rfl)
theorem vf(p mk:Dg)(h:Int)(v:Value):(bkp p h mk v).toArray.toList=(dc p++(.int .i64 h::dc mk))++([v]++[]):=by simp[bkp]
theorem qy(p mk:Dg)(h:Int)(v:Value):(dc p++(.int .i64 h::dc mk))++([v]++[])=bkp p h mk v:=by simp[bkp]
theorem ve(p mk:Dg)(h:Int):(dc p++(.int .i64 h::dc mk)).length=17:=by simp[ah]
attribute [local irreducible] CG NG SG aO Der Row Blk az aH aN gv dof dot doa gJ j8 nq tkL
theorem nG{w:World}{n:Nat}{A:List Nat}{tot:Int}{c:Cm}(h:dA w n A tot c)(ht:tot≤1000000000)(hI:dY 256 (c.ps.map Em.en))(p mk:Dg){q:Nat×Nm}(hp:ar c.ns p=some q)(hqh:0≤q.2.x.ht∧q.2.x.ht≤1000)(hqn:q.2.t.n≤100000){a0:Option Addr}{c0:Nat}{ls:List Dg}(hL:Sl dc 8 w a0 ls)(hll:ls.length≤10000000):
  Calls Tryz.prog 36 #[.pointer (some ⟨c.cb,0,none⟩),dv p,dv mk,.slice a0 ls.length c0] w (fun e w'=>∃y:Bm,e= .returned (.tuple #[bkv y,.int .i64 0])∧y.b=⟨p,q.2.x.ht+1,mk,mkL mk q.2.f [] (tkL (c.ps.map Em.en) ls)⟩∧y.In 0 w'∧(∀b off,y.a=some ⟨b,off,none⟩→w.heap.size≤b)∧Kp [] w w'):=by
 refine nZ Tryz.func36 rfl Tryz.ntmps36 rfl ?_
 repeat apply gst
 refine SG.box rfl rfl rfl (ag rfl) (fun b5 w1 hk1 hb5 hB5=>?_)
 have hB5:Blk w1 b5 (.cells (dc p).toArray 47):=hB5
 refine SG.box rfl rfl rfl (ag rfl) (fun b6 w2 hk2 hb6 hB6=>?_)
 have hB6:Blk w2 b6 (.cells (dc mk).toArray 47):=hB6
 refine SG.alloc rfl rfl rfl (fun b8 w3 hk3 hb8 hB8=>?_)
 have k3:=(hk1.trans hk2).trans hk3
 have q5:Row w3 b5 0 (dc p):=Row.all ((hB5.kp0 hk2).kp0 hk3) rfl
 have h3:=h.kp0 k3
 obtain⟨-,-,-,-,-,-,r6⟩:=cj h3
 have hM:=h3.map
 repeat (first|apply gst|(apply gsv;rfl;(first|apply qep|apply qmv|apply qas)<;>rfl))
 refine gcf rfl ?_
 repeat apply gst
 refine CG.fq mixed [0,1,2,3,4,5,6,7,8,9,10] [] (by kernel_rfl) ?_
 repeat (apply gdv;rfl;rfl;(first|apply qmv|apply qas|apply qlc|apply qla|apply qfa|apply qnc|apply qlk|apply qxt)<;>first|rfl|assumption|exact List.not_mem_nil|apply ah|exact lk1 (by assumption)|fail)
 refine Der.fin (fun w4 hk4 _ _=>?_)
 repeat (first|apply gst|(apply gsv;rfl;(first|apply qmv|apply qnt)<;>rfl))
 refine gcf rfl ?_
 have k4:=k3.trans hk4
 have hN4:=(h.ndA hp).kp0 k4
 have q5:=q5.kp0 hk4
 have q6:Row w4 b6 0 (dc mk):=Row.all ((hB6.kp0 hk3).kp0 hk4) rfl
 obtain⟨-,-,-,t11,-⟩:=dI hN4.blk
 clear hM r6
 repeat apply gst
 refine CG.hZ mixed [0,1,2,3,4,5,6,7,8] [(9,10,12,.tmp 39)] (by kernel_rfl) (by kernel_rfl) ?_
 repeat (apply gdv;rfl;rfl;(first|apply qmv|apply qlc|apply qla|apply qfa|apply qnc|apply qad)<;>first|rfl|(apply Ar.mk;omega)|assumption|exact List.not_mem_nil|apply ah)
 refine Der.val rfl rfl rfl (au rfl (bmk p mk (q.2.x.ht+1))) ?_
 refine Der.one (iM.of (by rfl) rfl rfl rfl (ag rfl) (by exact fv _ _ _ _) (by rfl) (by exact mn _ _ _ _ rfl)) (fun b12 w5 hk5 hb12 hB12=>?_)
 have hB12:Blk w5 b12 (.cells (bkp p (q.2.x.ht+1) mk (.slice none 0 0)).toArray 50):=hB12
 have k5:=k4.trans hk5
 have hN5:=(h.ndA hp).kp0 k5
 obtain⟨m,hm,hi⟩:=hN5.book
 obtain⟨t0,-⟩:=dI hN5.blk
 clear t11 q5 q6
 repeat (first|apply gst|(apply gsv;rfl;(first|apply qmv|apply qla|apply qfa|apply qnc)<;>first|rfl|assumption|exact List.not_mem_nil))
 refine SG.call rfl rfl rfl (vs:=[bhv q.2.bk q.2.tb (.slice q.2.ae q.2.es.length q.2.ce)]) (Evs.of rfl) ((nx hm hN5.app).mono (fun e w6 hh=>?_))
 obtain⟨bk',bm',tb',m',rfl,hB',hpm,hT',g1,g2,g3,hk6⟩:=hh
 refine⟨_,rfl,?_⟩
 refine SG.alloc rfl rfl rfl (fun b13 w7 hk7 hb13 hB13=>?_)
 refine SG.aG (l:=bhc bk' tb' (.slice none 0 0)) rfl rfl (ag rfl) (ag rfl) hB13 rfl rfl rfl (fun w8 hk8 hB13=>?_)
 have k78:=hk7.ai hk8 (bf hb13)
 have k8:=(k5.trans hk6).trans k78
 obtain⟨-,-,-,-,-,r5,-⟩:=cj (h.kp0 k8)
 clear t0
 repeat (first|apply gst|(apply gsv;rfl;(first|apply qmv|apply qlc|apply qfa|apply qnc)<;>first|rfl|assumption|exact List.not_mem_nil))
 refine SG.call rfl rfl rfl (vs:=[.pointer (some ⟨c.pb,0,none⟩),.int .i64 1024,.slice a0 ls.length c0]) (Evs.of rfl) ((rj (h.kp0 k8).pool hI (by omega) (most:=1024) (by unfold xN;omega) (hL.kp0 k8) hll).mono (fun e wT hh=>?_))
 obtain⟨vx,xs,rfl,hkT,hX,hxe⟩:=hh
 obtain⟨ax,cx,rfl,hcx,hS⟩:=hX.sl
 refine⟨_,rfl,?_⟩
 clear r5
 have s1:=hk1.size
 have s2:=hk2.size
 have s4:=k4.size
 have s5:=hk5.size
 have s6:=hk6.size
 have s78:=k78.size
 have sT:=hkT.size
 have l12:=hB12.lt
 have l6:=hB6.lt
 have l8:=hB8.lt
 have s3:=hk3.size
 have s44:=hk4.size
 have lm:=hB'.map.lt
 have l13:=hB13.lt
 have hBT:bB wT bk' bm' m':=(hB'.kp0 k78).kp0 hkT
 have hTT:=(hT'.kp0 k78).kp0 hkT
 have h13T:=hB13.kp0 hkT
 have h12T:=((hB12.kp0 hk6).kp0 k78).kp0 hkT
 have kT:=k8.trans hkT
 have hxl:xs.length≤256:=by
  have e1:=congrArg List.length hxe
  have e2:=hI.len
  rw[List.length_map,List.length_map,List.length_take] at e1
  have e3:=List.length_filter_le (fun e=> !exB (nh (c.ps.map Em.en) ls) e) (nq (c.ps.map Em.en))
  rw[jI] at e3
  omega
 have hxe:xs.map (·.t)=tkL (c.ps.map Em.en) ls:=hxe.trans (Bj _ _)
 have hO:Oth 0 wT [b13,bm',b12]:=Oth.cons (Nat.zero_le _) (Oth.cells h13T (by decide)) (Oth.cons (Nat.zero_le _) (hBT.map.CX (Nat.zero_le _) bm' (List.mem_singleton.2 rfl)).2 (Oth.cons (Nat.zero_le _) (Oth.cells h12T (by decide)) Oth.nil))
 have hax:∀b off,ax=some ⟨b,off,none⟩→b∉[b13,bm',b12]:=fun b off e hm=>by
  have:=dV hX.own b off e
  simp only[List.mem_cons,List.mem_nil_iff,or_false] at hm
  omega
 have n6:b6∉[b13,bm',b12]:=fun hm=>by
  simp only[List.mem_cons,List.mem_nil_iff,or_false] at hm
  omega
 have n8:b8∉[b13,bm',b12]:=fun hm=>by
  simp only[List.mem_cons,List.mem_nil_iff,or_false] at hm
  omega
 have hB6T:Blk wT b6 (.cells (dc mk).toArray 47):=((((hB6.kp0 hk3).kp0 hk4).kp0 hk5).kp0 hk6).kp0 (k78.trans hkT)
 have hB8T:=(((hB8.kp0 hk4).kp0 hk5).kp0 hk6).kp0 (k78.trans hkT)
 have hNT:=(h.ndA hp).kp0 kT
 have hb0:BkI tot (ndN q.2) m' q.2.f:=hi.perm hpm
 have hN0:ndN q.2≤500000:=by unfold ndN;omega
 have J0:MkJ wT b12 b13 bm' p mk (q.2.x.ht+1) tot (ndN q.2+100000) 0 xs bk' bm' tb' m' q.2.f q.2.t (.slice none 0 0) [] (.slice none 0 0) [] wT:=
  ⟨Kp.refl _ _,⟨h13T,hBT,hTT⟩,Or.inl rfl,hb0.mono (by omega),by omega,cO,Nat.zero_le _,cO,Nat.zero_le _,fun _ h=>(by cases h),h12T⟩
 have hlp:=k8.size
 generalize hN:ndN q.2+100000=N at*
 have hN1:N≤600000:=by omega
 have hXin:=hX.ins
 clear hB' hT' hB13 hB12 hB6 hB8
 repeat (first|apply gst|(apply gsv;rfl;(first|apply qmv|apply qln)<;>rfl))
 refine CG.loop (X:=Nat×(Nat×Nat×Nat×Bk)×(Fb×Tl×List Int)×(Value×Value)×List Tm) (fun z=>[(6,.pointer (some ⟨b6,0,none⟩)),(8,.pointer (some ⟨b8,0,none⟩)),(12,.pointer (some ⟨b12,0,none⟩)),(13,.pointer (some ⟨b13,0,none⟩)),(50,.slice ax xs.length cx),(51,.int .i64 (xs.length:Int)),(52,.int .i64 (z.1:Int))])
  (fun z W=>z.1≤xs.length∧MkJ wT b12 b13 bm' p mk (q.2.x.ht+1) tot N z.1 xs z.2.1.1 z.2.1.2.1 z.2.1.2.2.1 z.2.1.2.2.2 z.2.2.1.1 z.2.2.1.2.1 z.2.2.2.1.1 z.2.2.1.2.2 z.2.2.2.1.2 z.2.2.2.2 W∧mkL mk q.2.f [] (xs.map (·.t))=mkL mk z.2.2.1.1 (z.2.2.2.2.map (·.t)) ((xs.drop z.1).map (·.t)))
  (fun z=>xs.length-z.1) (0,(bk',bm',tb',m'),(q.2.f,q.2.t,[]),(.slice none 0 0,.slice none 0 0),[]) ⟨Nat.zero_le _,J0,rfl⟩ (aZ.of rfl) ?_
 rintro⟨i,⟨bk,bm,tb,mm⟩,⟨f,t,es⟩,⟨va,vt⟩,acc⟩ W ⟨hi,J,hmk⟩
 simp only at hi J hmk
 refine CG.to [(6,.pointer (some ⟨b6,0,none⟩)),(8,.pointer (some ⟨b8,0,none⟩)),(12,.pointer (some ⟨b12,0,none⟩)),(13,.pointer (some ⟨b13,0,none⟩)),(50,.slice ax xs.length cx),(51,.int .i64 (xs.length:Int)),(52,.int .i64 (i:Int))] (aZ.of rfl) ?_
 have sW:=J.kp.size
 have hSW:Sl txc 13 W ax xs:=hS.kp J.kp hax
 have hXW:∀x∈xs,x.In 0 W:=fun x hx=>(hXin x hx).kpO J.kp hO
 have hB6W:Blk W b6 (.cells (dc mk).toArray 47):=hB6T.kp J.kp n6
 have hB8W:=hB8T.kp J.kp n8
 obtain⟨at_,ct_,rfl⟩:=fM J.ot
 obtain⟨u0,u8,u17⟩:=jo J.blk
 have hal:=J.al
 have hend:∀{W':World} (hk':Kp [] W W') (hac:acc.map (·.t)=mkL mk q.2.f [] (tkL (c.ps.map Em.en) ls)) {W2:World} (hk2:Kp [b8] W' W2),∃y:Bm,(Ending.returned (.tuple #[.agg (bkp p (q.2.x.ht+1) mk (.slice at_ acc.length ct_)).toArray,.int .i64 0]):Ending)= .returned (.tuple #[bkv y,.int .i64 0])∧y.b=⟨p,q.2.x.ht+1,mk,mkL mk q.2.f [] (tkL (c.ps.map Em.en) ls)⟩∧y.In 0 W2∧(∀b off,y.a=some ⟨b,off,none⟩→w.heap.size≤b)∧Kp [] w W2:=by
  intro W' hk' hac W2 hk2
  have hB8':=hB8W.kp0 hk'
  have hO2:Oth 0 W' [b8]:=vK hB8' (by decide)
  have hI':pH W' 0 at_ acc:=⟨(Sl.own aj (aI J.ot hk') rfl).elim (fun a=>by
   rintro⟨c,e,-,hs⟩
   cases e
   exact hs),Or.inl (Ty.own (aI J.ot hk')),fun x hx=>(hXW x (J.sub x hx)).kp0 hk'⟩
  refine⟨⟨p,q.2.x.ht+1,mk,at_,ct_,acc⟩,rfl,by rw[←hac];rfl,⟨hI'.kp hk2 hO2 (NoT.cons (Nat.zero_le _) (NoT.cells hB8' (by decide)) NoT.nil),by show acc.length≤_;omega⟩,fun b off e=>?_,?_⟩
  ·have:=dV J.ot b off e
   omega
  ·refine((kT.ai J.kp (fun z hz=>?_)).trans hk').ai hk2 (bf (by omega))
   simp only[List.mem_cons,List.mem_nil_iff,or_false] at hz
   exact Or.inr (by omega)
 by_cases hlt:i<xs.length
 rotate_left
 ·have g1:¬(i:Int)<(xs.length:Int):=by omega
  have hac:acc.map (·.t)=mkL mk q.2.f [] (tkL (c.ps.map Em.en) ls):=by
   rw[←hxe,hmk,List.drop_eq_nil_of_le (by omega)]
   rfl
  repeat (first|apply gst|(apply gsv;rfl;apply qls<;>first|rfl|(apply dcf;first|assumption|omega)))
  refine gcf rfl ?_
  repeat (first|apply gst|(apply gsv;rfl;apply qla<;>first|rfl|assumption|exact List.not_mem_nil|apply fv))
  refine SG.aG (l:=bkp p (q.2.x.ht+1) mk (.slice at_ acc.length ct_)) rfl rfl (ag rfl) (ag rfl) hB8W (fv _ _ _ _) rfl (mn _ _ _ _ rfl) (fun W2 hk2 hB82=>?_)
  have hr:Row W2 b8 0 (bkp p (q.2.x.ht+1) mk (.slice at_ acc.length ct_)):=Row.all hB82 rfl
  repeat (first|apply gst|(apply gsv;rfl;apply qas<;>rfl))
  refine dX (Or.inl rfl) Tryz.results36 (aC.agg rfl rfl hr (fv _ _ _ _)) (aC.tmp rfl) ?_
  exact hend (Kp.refl _ _) hac hk2
 have g1:(i:Int)<(xs.length:Int):=by omega
 obtain⟨ba,off,rfl,hrow⟩:=hSW.at hlt
 rw[List.drop_eq_getElem_cons hlt,List.map_cons] at hmk
 repeat (first|apply gst|(apply gsv;rfl;apply qls<;>first|rfl|(apply dct;first|assumption|omega)))
 refine gct rfl ?_
 repeat (first|apply gst|(apply gsv;rfl;(first|apply qla|apply qix)<;>first|rfl|(apply Ar.mk;omega)|assumption|exact List.not_mem_nil|apply aj))
 refine SG.alloc rfl rfl rfl (fun b15 W1 hk1' hb15 hB15=>?_)
 refine SG.aG (l:=txc xs[i]) rfl rfl (ag rfl) (ag rfl) hB15 (aj _) rfl (bD _) (fun W2 hk2' hB15=>?_)
 have kW2:=hk1'.ai hk2' (bf hb15)
 have u17:=u17.kp0 kW2
 clear hrow
 by_cases hfull:64≤acc.length
 ·have g2:(64:Int)≤(acc.length:Int):=by omega
  have hac:acc.map (·.t)=mkL mk q.2.f [] (tkL (c.ps.map Em.en) ls):=by
   rw[←hxe,hmk,xr (by rw[List.length_map];exact hfull)]
  have u0:=u0.kp0 kW2
  clear u8
  repeat (first|apply gst|(apply gsv;rfl;(first|apply qlc|apply qfa|apply qln|apply qge)<;>first|rfl|assumption|(apply dct;first|assumption|omega)|exact List.not_mem_nil))
  refine gct rfl ?_
  clear u17
  repeat (first|apply gst|refine NG.lp rfl ?_|(apply gsv;rfl;apply qla<;>first|rfl|assumption|exact List.not_mem_nil|apply fv))
  refine SG.aG (l:=bkp p (q.2.x.ht+1) mk (.slice at_ acc.length ct_)) rfl rfl (ag rfl) (ag rfl) (hB8W.kp0 kW2) (fv _ _ _ _) rfl (mn _ _ _ _ rfl) (fun W3 hk3' hB82=>?_)
  have hr:Row W3 b8 0 (bkp p (q.2.x.ht+1) mk (.slice at_ acc.length ct_)):=Row.all hB82 rfl
  repeat (first|apply gst|(apply gsv;rfl;apply qas<;>rfl))
  refine dX (Or.inl rfl) Tryz.results36 (aC.agg rfl rfl hr (fv _ _ _ _)) (aC.tmp rfl) ?_
  exact hend kW2 hac hk3'
 have g2:¬(64:Int)≤(acc.length:Int):=by omega
 have hfull':¬64≤(acc.map (·.t)).length:=by rw[List.length_map];exact hfull
 repeat (first|apply gst|(apply gsv;rfl;(first|apply qlc|apply qfa|apply qln|apply qge)<;>first|rfl|assumption|(apply dcf;first|assumption|omega)|exact List.not_mem_nil))
 refine gcf rfl ?_
 have q15:Row W2 b15 0 (txc xs[i]):=Row.all hB15 rfl
 have hst2:=J.st.kp0 kW2
 repeat (first|apply gst|(apply gsv;rfl;apply qla<;>first|rfl|assumption|exact List.not_mem_nil|apply aj))
 refine SG.ret rfl rfl rfl (vs:=[.pointer (some ⟨b13,0,none⟩),txv xs[i]]) (Evs.of rfl) (sx hst2.blk hst2.book xs[i]) (fun W3 hk3'=>?_)
 have kW3:=kW2.trans hk3'
 rw[CB,J.bi.eq]
 clear u17 u0
 cases hbr:j8 f xs[i].t with
 |false=>
  clear u8 q15
  repeat (first|apply gst|(apply gsv;rfl;(first|apply qmv|apply qpk)<;>rfl)|refine SG.skip rfl rfl ?_)
  refine gcf rfl ?_
  repeat (first|apply gst|(apply gsv;rfl;(first|apply qmv|apply qad)<;>first|rfl|(apply Ar.mk;omega)))
  refine NG.round (i+1,(bk,bm,tb,mm),(f,t,es),(va,.slice at_ acc.length ct_),acc) (aZ.of rfl) ⟨hlt,?_,?_⟩ (by simp only;omega)
  ·exact J.next kW3
  ·rw[hmk,BO hfull' hbr]
 |true=>
  have u8:=u8.kp0 kW3
  have q15:=q15.kp0 hk3'
  have q6:Row W3 b6 0 (dc mk):=Row.all (hB6W.kp0 kW3) rfl
  have hst3:=J.st.kp0 kW3
  repeat (apply gsv;rfl;(first|apply qmv|apply qlc|apply qla|apply qfa)<;>first|rfl|assumption|exact List.not_mem_nil|apply ah|apply aj)
  refine SG.call rfl rfl rfl (vs:=[.pointer (some ⟨b13,0,none⟩),.int .i64 (q.2.x.ht+1),dv mk,txv xs[i]]) (Evs.of rfl) ((uO (n0:=0) hst3 J.bi ht (aI J.oa kW3) (Nat.le_trans sW kW3.size) (Nat.zero_le _) (by have:=J.el;omega) (by decide) (by decide) (by decide) ((hXW _ (List.getElem_mem hlt)).kp0 kW3) (q.2.x.ht+1) mk (by have:=J.tn;omega)).mono (fun e W4 hh=>?_))
  obtain⟨bk2,bm2,tb2,va2,m2,rfl,hst4,hbi4,hoa4,hk4',hbm4,hva4⟩:=hh
  refine⟨_,rfl,?_⟩
  have J3:=J.kp0 kW3
  have J4:=J3.did xs[i].t hst4 hbi4 hoa4 hk4' hbm4
  clear u8 q15 q6
  by_cases hz:gJ f xs[i].t=0
  rotate_left
  ·repeat (first|apply gst|(apply gsv;rfl;(first|apply qpk|apply qei)<;>first|rfl|(apply dcf;first|assumption|omega)))
   refine gcf rfl ?_
   repeat (first|apply gst|(apply gsv;rfl;(first|apply qmv|apply qad)<;>first|rfl|(apply Ar.mk;omega)))
   refine NG.round (i+1,(bk2,bm2,tb2,m2),(dof f mk xs[i].t,dot t f (q.2.x.ht+1) mk xs[i].t,doa es f mk xs[i].t),(va2,.slice at_ acc.length ct_),acc) (aZ.of rfl) ⟨hlt,J4,?_⟩ (by simp only;omega)
   rw[hmk,lR hfull' hbr,if_neg hz]
  ·rw[hz]
   have hB15:Blk W4 b15 (.cells (txc xs[i]).toArray 52):=(hB15.kp0 hk3').kp hk4' (fun hm=>by
    rcases List.mem_cons.1 hm with e|hm
    ·omega
    rcases List.mem_cons.1 hm with e|hm
    ·have:=hst3.book.map.lt;have:=J.st.book.map.lt;omega
    ·have:=bR J.oa b15 (ay hm);omega)
   have q15:Row W4 b15 0 (txc xs[i]):=Row.all hB15 rfl
   obtain⟨-,-,u17⟩:=jo J4.blk
   repeat (first|apply gst|(apply gsv;rfl;(first|apply qpk|apply qei)<;>first|rfl|(apply dct;first|assumption|omega)))
   refine gct rfl ?_
   repeat (first|apply gst|(apply gsv;rfl;(first|apply qlc|apply qla|apply qfa)<;>first|rfl|assumption|exact List.not_mem_nil|apply aj))
   refine SG.buildSlice rfl rfl rfl rfl (A7 _) (fun b18 W5 hk5' hb18 hB18=>?_)
   have ho5:=aI J4.ot hk5'
   have sT4:=J4.kp.size
   have s5':=hk5'.size
   clear q15 u17
   refine SG.ou (enc:=txc) (xs:=acc) (ys:=[xs[i]]) (base:=wT.heap.size) rfl rfl rfl (ag rfl) (ag rfl) rfl rfl rfl rfl aj bD ho5 (fL (enc:=txc) (sz:=13) (x:=xs[i]) aj hB18) (by simp only[maxLen,List.length_singleton];omega) (by show(acc.length+1)*80≤_;omega) (by omega) (fun v6 W6 hk6' ho6 hv6=>?_)
   obtain⟨a6,c6,rfl⟩:=fM ho6
   have hB12:=(J4.blk.kp0 hk5').kp hk6' (fun hm=>by have:=bE ho5 b12 (ay hm);omega)
   repeat (apply gsv;rfl;apply qfa<;>rfl)
   refine SG.bG (dc p++(.int .i64 (q.2.x.ht+1)::dc mk)) [.slice at_ acc.length ct_] [] rfl rfl (ag rfl) (ag rfl) hB12 (vf _ _ _ _) rfl rfl (ve _ _ _) rfl (fun W7 hk7' hB7=>?_)
   have hB7:Blk W7 b12 (.cells (bkp p (q.2.x.ht+1) mk (.slice a6 (acc++[xs[i]]).length c6)).toArray 50):=by
    have e:=qy p mk (q.2.x.ht+1) (.slice a6 (acc++[xs[i]]).length c6)
    rw[←e]
    exact hB7
   have hl1:(acc++[xs[i]]).length=acc.length+1:=by rw[List.length_append];rfl
   have J7:=(J4.kp0 hk5').app (vt':= .slice a6 (acc++[xs[i]]).length c6) (acc':=acc++[xs[i]]) ((hk6'.mono (fun z hz=>List.mem_cons_of_mem _ hz)).trans (hk7'.mono (fun z hz=>by rw[List.mem_singleton] at hz;rw[hz];exact List.mem_cons_self))) (bA ho6 hk7' (bL ho6 (by decide) hB12)) (by rw[hl1];omega) (fun x hx=>(List.mem_append.1 hx).elim (J.sub x) (fun e=>by rw[List.mem_singleton] at e;rw[e];exact List.getElem_mem hlt)) hB7
   repeat (first|apply gst|(apply gsv;rfl;(first|apply qmv|apply qad)<;>first|rfl|(apply Ar.mk;omega)))
   refine NG.round (i+1,(bk2,bm2,tb2,m2),(dof f mk xs[i].t,dot t f (q.2.x.ht+1) mk xs[i].t,doa es f mk xs[i].t),(va2,.slice a6 (acc++[xs[i]]).length c6),acc++[xs[i]]) (aZ.of rfl) ⟨hlt,J7,?_⟩ (by simp only;omega)
   rw[hmk,lR hfull' hbr,if_pos hz,List.map_append]
   rfl
end
section
def Wf(F:Fence):Prop:=F=Fence.wide∨∃l,F=Fence.wide.inRound l
theorem Wf.wide:Wf Fence.wide:=Or.inl rfl
theorem Wf.round(l:Nat):Wf (Fence.wide.inRound l):=Or.inr ⟨l,rfl⟩
theorem Wf.fn{F:Fence}(h:Wf F)(f:FuncId):F.fn f:=by
 rcases h with rfl|⟨l,rfl⟩<;>exact trivial
theorem Wf.depth{F:Fence}(h:Wf F):¬F.depth.isSome=true:=by
 rcases h with rfl|⟨l,rfl⟩<;>exact fun h=>by cases h
theorem Wf.calls{F:Fence}(h:Wf F){n:Nat}{P:Program}{f:FuncId}{args:Array Value}{w:World}{R:Ending→World→Prop}(hc:Calls P f args w R):CallsIn F n P f args w R:=by
 rcases h with rfl|⟨l,rfl⟩
 ·exact callsIn_wide.2 hc
 ·exact(callsIn_wide (n:=n)).2 hc
theorem Wf.rows{F:Fence}(h:Wf F){n:Nat}{P:Program}{row:String}{args:Array Value}{w:World}{R:Value→World→Prop}(hc:Rows P row args w R):RowsIn F n P row args w R:=by
 have h1:RowsIn Fence.wide n P row args w R:=fun c cs _=>by
  obtain⟨v,w',r,s⟩:=hc c cs
  exact⟨v,w',r,stepsIn_wide.2 s⟩
 rcases h with rfl|⟨l,rfl⟩<;>exact h1
def eP:Op→Bool
 | .defer .. =>true
 |_=>false
theorem gQ{o:Op}(h:eP o=false):∀c,o≠.defer c:=fun c e=>by
 rw[e] at h
 cases h
section
variable {P:Program} {n:Nat} {Q:Exit→Act→World→Prop} {L:Env} {w:World}
theorem mH{F:Fence}{m:Nat}(hF:Wf F)(hQ:¬LetsOut Q){ops:Array Oper}:∀{rest:List Oper} {a:Act} {w:World},rest.all (fun o=> !eP o.op)=true→wpList P ops Q rest a w→wpListIn F m P ops Q rest a w
 |[],a,w,_,h=>h
 |o::rest,a,w,hd,h=>by
  simp only[List.all_cons,Bool.and_eq_true,Bool.not_eq_true'] at hd
  obtain⟨hd1,hd2⟩:=hd
  have ih:∀{a:Act} {w:World},wpList P ops Q rest a w→wpListIn F m P ops Q rest a w:=fun h=>mH hF hQ hd2 h
  simp only[wpList] at h
  simp only[wpListIn]
  split
  ·rename_i hw
   rw[if_pos hw] at h
   rcases h with h|h
   ·refine⟨fun f _=>hF.fn f,?_⟩
    rw[Oper.semAt_eq _ _ _ (gQ hd1)]
    unfold Oper.wp at h
    generalize (execOp a.eval o).run P w=r at*
    cases r with
    |ok x w'=>
     cases x<;>simp only[Oper.upon,Oper.uponIn] at h⊢<;>try exact h.elim
     case value v=>exact ih h
     case skip=>exact ih h
     case defer d=>exact ih h
     case enter f args=>exact⟨fun hh=>absurd hh hF.depth,hF.calls (Calls.mono h (fun e w'' hh=>by cases e<;>first|exact ih hh|exact hh))⟩
     case row row args=>exact⟨fun hh=>absurd hh hF.depth,hF.rows (Rows.mono h (fun v w'' hh=>ih hh))⟩
    |halt x w'=>cases x<;>exact h
   ·exact absurd h.2 hQ
  ·rename_i hw
   rw[if_neg hw] at h
   exact⟨fun f _=>hF.fn f,ih h⟩
def SY(P:Program)(n:Nat)(ops:List Oper)(Q:Exit→Act→World→Prop)(rest:List Oper)(L:Env)(w:World):Prop:=∀a,Fits n a L→wpListIn Fence.wide 0 P ops.toArray Q rest a w
theorem CG.zA{id:Nat}{ops:List Oper}(h:SY P n ops Q ops L w):CG P n (.region id ops.toArray false) Q L w:=fun a ha=>wpIn_wide.1 (wpIn_region_lit (h a ha))
theorem SY.nil{ops:List Oper}(h:NG n .normal Q L w):SY P n ops Q [] L w:=fun a ha=>h a ha
theorem SY.op{ops:List Oper}{o:Oper}{rest:List Oper}{R:Value→World→Prop}(hd:o.dst.all (fun d=>Nat.blt d n)=true)(hw:want ops L o=some true)(hk:o.op.operands.toList.all (known L)=true)
  (hr:∀a:Act,(∀x∈o.op.operands,rho L x=a.eval x)→∀K:Act→World→Prop,(∀v w',R v w'→K (a.put o.dst v) w')→o.wpIn Fence.wide 0 P a w K Q)
  (hn:∀v w',R v w'→SY P n ops Q rest (jf o.dst v L) w'):SY P n ops Q (o::rest) L w:=by
 intro a ha
 have hlk:∀t∈lks ops o,∀v,look L t=some v→a.tmps[t]?=some v:=fun t _ v hv=>ha.slot t v hv
 have hwn:=bP hlk hw
 simp only[wpListIn]
 rw[if_pos hwn]
 refine hr a (dJ hlk hk) _ (fun v w' hR=>hn v w' hR _ ?_)
 cases hdd:o.dst with
 |none=>exact ha
 |some d=>
  rw[hdd] at hd
  exact ha.put d v (by simpa[Nat.blt_eq] using hd)
theorem SY.val{ops:List Oper}{rest:List Oper}{d:Nat}{op:Op}{ty:TypeId}{pos:String}{af:Array Edge}{g:Option (Nat×Bool)}{v:Value}
  (hd:Nat.blt d n=true) (hs:cT op=false) (hdf:eP op=false) (hw:want ops L ⟨some d,op,ty,pos,af,g⟩=some true) (hk:op.operands.toList.all (known L)=true) (hv:aO P [] w (fun _=>True) L ⟨some d,op,ty,pos,af,g⟩ v)
  (hr:SY P n ops Q rest ((d,v)::L) w):SY P n ops Q (⟨some d,op,ty,pos,af,g⟩::rest) L w:=by
 refine SY.op (R:=fun v' w'=>v'=v∧w'=w) (by simpa using hd) hw hk (fun a he K hK=>?_) (fun v' w' h=>by obtain⟨rfl,rfl⟩:=h;exact hr)
 refine⟨fun f _=>trivial,?_⟩
 rw[Oper.semAt_eq _ _ _ (gQ hdf),←execOp_congr ⟨some d,op,ty,pos,af,g⟩ (fun cs b e=>by simp only at e;rw[e] at hs;cases hs) he,hv w (Kp.refl _ _) trivial]
 exact hK _ _ ⟨rfl,rfl⟩
end
end
open Go.RowKit
section
section
variable {P:Program} {n:Nat} {Q:Exit→Act→World→Prop} {L:Env} {w:World}
theorem Cd{f:FuncId}{fn:Func}{c:Code}{args:List Value}{R:Ending→World→Prop}(hf:P.funcs[f]?=some fn)(hb:fn.body=some c)(hn:fn.ntmps=n)(hm:Nat.ble args.length n=true)
  (h:CG P n c (bodyPostM Fence.wide 0 P fn R) (kh 0 args) w):Calls P f args.toArray w R:=by
 refine callsIn_wide.1 (callsIn_of_wp_marks (n:=0) hf hb trivial (wpIn_wide.2 (h _ ⟨fun t v hv=>?_,?_,rfl⟩)))
 ·have:=(gd args 0 t v hv).2
  have hlt:t<args.toArray.size:=by
   have h2:=(List.getElem?_eq_some_iff.1 this).1
   simpa using h2
  simp only[Array.getElem?_append_left hlt]
  simpa using this
 ·have:=hm
  rw[Nat.ble_eq] at this
  simp[hn]
  omega
def rF(a:Act)(fn:FuncId)(ps:Array Tmp)(assign body:Code)(D:Nat)(st:LoopState)(pe:Option Code):Loop:={state:=st,pending:=pe,fn:=fn,tmps:=a.tmps,params:=ps,assign:=assign,body:=body,defers:=D}
theorem CG.rangeFunc{g:Operand}{ps:Array Tmp}{assign body:Code}{gf:FuncId}[F:Fnc P gf]{lb:Array Value}(hk:known L g=true)(hg:rho L g= .func (.func gf) #[] lb)
  (h:∀a,Fits n a L→∀(fn:FuncId) (rc:LoopState→Loop) (W1:World),rc=(fun st=>rF a fn ps assign body w.heap.size st none)→Kp [] w W1→W1.heap.size=w.heap.size+2→Blk W1 w.heap.size (.deferred (some []))→Blk W1 (w.heap.size+1) (.loop (rc .ready))→
   Calls P gf (#[.func (.yield (w.heap.size+1)) #[] #[]]++lb) W1 (fun e w3=>(∃v,e= .returned v)∧Blk w3 (w.heap.size+1) (.loop (rc .ready))∧
    Q .normal {a with defers:=[{target:= .collected w.heap.size,args:= #[]}]} (w3.putObj (w.heap.size+1) (.loop (rc .exhausted))))):CG P n (.rangeFunc g ps assign body) Q L w:=by
 intro a ha
 refine(wpIn_wide (n:=0)).1 (wpIn_rangeFunc (fun fn hfn=>?_))
 have hev:a.eval g= .func (.func gf) #[] lb:=by rw[ha.eval hk,hg]
 obtain⟨W1,hW1⟩:∃W1,(w.alloc (.deferred (some []))).alloc (.loop (rF a fn ps assign body w.heap.size .ready none))=W1:=⟨_,rfl⟩
 have hk1:Kp [] w W1:=by
  rw[←hW1]
  exact(Kp.push w (.deferred (some [])) rfl).trans (Kp.push (w.alloc (.deferred (some []))) (.loop (rF a fn ps assign body w.heap.size .ready none)) rfl)
 have hs1:W1.heap.size=w.heap.size+2:=by rw[←hW1];simp
 have hD1:Blk W1 w.heap.size (.deferred (some [])):=by
  rw[←hW1]
  exact(Below.heap_alloc _ _ _ (by simp)).trans (World.alloc_heap_new w _)
 have hL1:Blk W1 (w.heap.size+1) (.loop (rF a fn ps assign body w.heap.size .ready none)):=by
  rw[←hW1]
  have:=World.alloc_heap_new (w.alloc (.deferred (some []))) (.loop (rF a fn ps assign body w.heap.size .ready none))
  rwa [World.size_alloc] at this
 refine⟨w.heap.size+1,[{target:= .collected w.heap.size,args:= #[]}],W1,{target:= .fn (.func gf) lb,args:= #[.func (.yield (w.heap.size+1)) #[] #[]]},W1,gf,#[.func (.yield (w.heap.size+1)) #[] #[]]++lb,W1,?_,?_,fun f' hf'=>trivial,?_,fun hh=>absurd hh Wf.wide.depth,?_⟩
 ·rw[←hW1]
  exact run_enterLoop_outer _ _ _ _ _
 ·simp only[resolve,hev]
  simp[go_sem]
 ·simp[invoke,go_sem,F.run]
 ·have h0:a.defers=[]:=ha.defers
  rw[h0]
  refine callsIn_wide.2 ((h a ha fn _ W1 rfl hk1 hs1 hD1 hL1).mono (fun e w3 hh=>?_))
  obtain⟨⟨v,rfl⟩,hL3,hQ⟩:=hh
  exact⟨none,_,run_endLoop (P:=P) hL3 (by simp[rF]),hQ⟩
theorem NG.wF{K:Act→World→Prop}(h:∀a,Fits n a L→K a w):NG n .normal (Exit.then K Q) L w:=fun a ha=>h a ha
structure mz(n:Nat)(ds:List Deferred)(a:Act)(L:Env):Prop where
 fit:Fits n {a with defers:=[]} L
 defers:a.defers=ds
theorem mz.mark{a:Act}{ds:List Deferred}(h:Fits n a L):mz n ds {a with defers:=ds} L:=⟨⟨h.slot,h.size,rfl⟩,rfl⟩
def CD(P:Program)(n:Nat)(ds:List Deferred)(c:Code)(Q:Exit→Act→World→Prop)(L:Env)(w:World):Prop:=∀a,mz n ds a L→c.wp P Q a w
def SD(P:Program)(n:Nat)(ds:List Deferred)(ops:List Oper)(Q:Exit→Act→World→Prop)(rest:List Oper)(L:Env)(w:World):Prop:=∀a,mz n ds a L→wpList P ops.toArray Q rest a w
end
end
open Go.RowKit
section
section
variable {P:Program} {n:Nat} {Q:Exit→Act→World→Prop} {L:Env} {w:World}
theorem C8{F:Fence}{m:Nat}(hF:Wf F){o:Oper}(hd:eP o.op=false){a:Act}{w:World}{K:Act→World→Prop}(h:o.wp P a w K Q):o.wpIn F m P a w K Q:=by
 refine⟨fun f _=>hF.fn f,?_⟩
 rw[Oper.semAt_eq _ _ _ (gQ hd)]
 unfold Oper.wp at h
 generalize (execOp a.eval o).run P w=r at*
 cases r with
 |ok x w'=>
  cases x<;>simp only[Oper.upon,Oper.uponIn] at h⊢<;>try exact h.elim
  case value v=>exact h
  case skip=>exact h
  case defer d=>exact h
  case enter f args=>exact⟨fun hh=>absurd hh hF.depth,hF.calls h⟩
  case row row args=>exact⟨fun hh=>absurd hh hF.depth,hF.rows h⟩
 |halt x w'=>cases x<;>exact h
theorem pL{F:Fence}{m:Nat}(hF:Wf F)(hQ:¬LetsOut Q){md:Region.Mode}{ops:Array Oper}(hd:∀(i:Nat) (o:Oper),ops[i]?=some o→eP o.op=false):∀(fuel:Nat) (listed:Array Bool) (a:Act) (w:World),wpAny P md ops Q fuel listed a w→wpAnyIn F m P md ops Q fuel listed a w
 |0,_,_,_,h=>h
 |fuel+1,listed,a,w,h=>⟨h.1,fun i hi=>by
  have h1:=wpOp_mono (K':=wpAnyIn F m P md ops Q fuel (listed.setIfInBounds i true)) (fun a w=>pL hF hQ hd fuel (listed.setIfInBounds i true) a w) (h.2 i hi)
  unfold wpOp at h1
  unfold wpOpIn
  cases ho:ops[i]? with
  |none=>rw[ho] at h1;exact h1
  |some o=>
   rw[ho] at h1
   simp only at h1⊢
   split
   ·rename_i hw
    rw[if_pos hw] at h1
    rcases h1 with h1|h1
    ·exact C8 hF (hd i o ho) h1
    ·exact absurd h1.2 hQ
   ·rename_i hw
    rw[if_neg hw] at h1
    exact⟨fun f _=>hF.fn f,h1⟩⟩
def oE(ds:List Deferred)(a:Act):Act:={a with defers:=a.defers++ds}
theorem zk{o:Oper}{ds:List Deferred}{a:Act}{w:World}{K:Act→World→Prop}(h:o.wp P a w (fun a' w'=>K (oE ds a') w') (fun e a' w'=>Q e (oE ds a') w')):o.wp P (oE ds a) w K Q:=by
 have he:(Act.eval (oE ds a))=Act.eval a:=rfl
 have hl:LetsOut (fun e a' w'=>Q e (oE ds a') w')→LetsOut Q:=fun⟨a,w,h⟩=>⟨_,_,h⟩
 have hp:∀{a:Act} {d:Option Nat} {v:Value},oE ds (a.put d v)=(oE ds a).put d v:=fun{a d v}=>by cases d<;>rfl
 unfold Oper.wp at*
 rw[he]
 generalize (execOp a.eval o).run P w=r at*
 cases r with
 |ok x w'=>
  cases x<;>simp only[Oper.upon,hp] at h⊢<;>try exact h.elim
  case value v=>exact h
  case skip=>exact h
  case defer d=>exact h
  case enter f args=>exact Calls.mono h (fun e w'' hh=>by cases e<;>first|exact hh|exact hl hh)
  case row row args=>exact Rows.mono h (fun v w'' hh=>hh)
 |halt x w'=>cases x<;>exact h
theorem pM{ds:List Deferred}{md:Region.Mode}{ops:Array Oper}:∀(fuel:Nat) (listed:Array Bool) (a:Act) (w:World),wpAny P md ops (fun e a' w'=>Q e (oE ds a') w') fuel listed a w→wpAny P md ops Q fuel listed (oE ds a) w
 |0,_,_,_,h=>h
 |fuel+1,listed,a,w,h=>⟨h.1,fun i hi=>by
  have h1:=wpOp_mono (K':=fun a w=>wpAny P md ops Q fuel (listed.setIfInBounds i true) (oE ds a) w) (fun a w=>pM fuel (listed.setIfInBounds i true) a w) (h.2 i hi)
  have hp:∀{a:Act} {d:Option Nat} {v:Value},oE ds (a.put d v)=(oE ds a).put d v:=fun{a d v}=>by cases d<;>rfl
  unfold wpOp at h1⊢
  cases ho:ops[i]? with
  |none=>rw[ho] at h1;exact h1
  |some o=>
   rw[ho] at h1
   simp only at h1⊢
   show(if Region.wanted o (yielded ops a.tmps) then _ else _)
   split
   ·rename_i hw
    rw[if_pos hw] at h1
    rcases h1 with h1|⟨h1,a',w',h2⟩
    ·exact Or.inl (zk h1)
    ·exact Or.inr ⟨h1,_,_,h2⟩
   ·rename_i hw
    rw[if_neg hw,hp] at h1
    exact h1⟩
theorem vc{b:Nat}{o:Obj}(h:Blk w b o)(o':Obj):Blk (w.putObj b o') b o':=World.putObj_heap_same h.lt
def CI(P:Program)(n l:Nat)(c:Code)(Q:Exit→Act→World→Prop)(L:Env)(w:World):Prop:=∀a,Fits n a L→c.wpIn (Fence.wide.inRound l) 0 P Q a w
theorem CK{ops:List Oper}(hd:ops.all (fun o=> !eP o.op)=true):∀(i:Nat) (o:Oper),ops.toArray[i]?=some o→eP o.op=false:=fun i o ho=>by
 rw[List.getElem?_toArray] at ho
 have:=List.all_eq_true.1 hd o (List.mem_of_getElem? ho)
 simpa using this
theorem CI.dG{l id:Nat}{ops:List Oper}(hm:P.follows .mixedOrders=true)(hQ:¬LetsOut Q)(hd:ops.all (fun o=> !eP o.op)=true)(k:Nat)(ord gh:List Nat)(S:List Nat)(R:World→Prop)(hc:xX n ops ord gh k=true)(hR0:R w)(hRs:cp [] R)
  (h:Der P S w ops gh (kH n S w P ops Q k) ord L (fun _=>True) R):CI P n l (.region id ops.toArray true) Q L w:=fun a ha=>
 wpIn_region_any hm (pL (Wf.round l) hQ (CK hd) _ _ _ _ (fg k ord gh S (fun _=>True) R hc ha trivial (fun _ _ _ _=>trivial) hR0 hRs h))
theorem tZ{K:Act→World→Prop}:¬LetsOut (Exit.then K (fun _ _ _=>False)):=fun h=>by
 obtain⟨a,w,h⟩:=h
 exact h
theorem mR{l D id:Nat}{ops1:List Oper}{i1:Nat}{body:Code}{fn:FuncId}{t u:Nat}{a:Act}{v x:Value}{R:Ending→World→Prop}{rc:LoopState→Loop}(hrc:rc=fun st=>rF a fn #[t,u] (.region i1 ops1.toArray false) (.block id body) D st none)(ha:Fits n a L)(ht:t<n)(hu:u<n)(hl:Blk w l (.loop (rc .ready)))
  (hd1:ops1.all (fun o=> !eP o.op)=true)
  (h:SG P n ops1 (Exit.then (fun a1 w1=>∃L1,Fits n a1 L1∧Blk w1 l (.loop (rc .ready))∧∀st,Kp [l] w1 st→Blk st l (.loop (rc .busy))→
    CI P n l body (Exit.then (fun _ w2=>Blk w2 l (.loop (rc .busy))∧∀w3,Kp [l] w2 w3→Blk w3 l (.loop (rc .ready))→R (.returned (.bool true)) w3) (fun _ _ _=>False)) L1 st) (fun _ _ _=>False)) ops1 ((u,x)::(t,v)::L) w):
  YieldAt Fence.wide 0 P l #[v,x] w R:=by
 subst hrc
 refine⟨fn,_,_,_,run_yield hl rfl,roundIn_of_wpIn trivial ?_⟩
 have hfit:Fits n {tmps:=(a.tmps.setIfInBounds t v).setIfInBounds u x,defers:=[]} ((u,x)::(t,v)::L):=by
  have h2:=(ha.put t v ht).put u x hu
  exact⟨fun y z hy=>by simpa[Act.put] using h2.slot y z hy,by simpa[Act.put] using h2.size,rfl⟩
 have hz:(Array.foldl (fun tmps x=>match x with|(t,a)=>Array.setIfInBounds tmps t a) a.tmps (#[t,u].zip #[v,x]))=(a.tmps.setIfInBounds t v).setIfInBounds u x:=by simp
 show(Code.region i1 ops1.toArray false).wpIn _ _ _ _ {tmps:=Array.foldl (fun tmps x=>match x with|(t,a)=>Array.setIfInBounds tmps t a) a.tmps (#[t,u].zip #[v,x]),defers:=[]} w
 rw[hz]
 refine wpIn_mono (wpIn_region_lit (mH (Wf.round l) tZ hd1 (h _ hfit))) (fun e a1 w1 hq=>?_)
 cases e<;>try exact False.elim hq
 obtain⟨L1,hf,hl1,h2⟩:=hq
 refine⟨_,run_beginRound hl1 rfl,wpIn_block (wpIn_mono (h2 _ (Kp.set w1 hl1 rfl rfl) (World.putObj_heap_same hl1.lt) a1 hf) (fun e a2 w2 hq=>?_))⟩
 cases e<;>try exact False.elim hq
 obtain⟨hl2,hR⟩:=hq
 exact⟨_,_,run_endRound none hl2,hR _ (Kp.set w2 hl2 rfl rfl) (World.putObj_heap_same hl2.lt)⟩
theorem SY.Bc{ops:List Oper}{rest:List Oper}{d:Nat}{ty:TypeId}{pos:String}{af:Array Edge}{g:Option (Nat×Bool)}{x y z:Operand}{tys:Array TypeId}{l:Nat}{v u:Value}{R:Ending→World→Prop}
  (hd:Nat.blt d n=true) (hw:want ops L ⟨some d,.call ⟨.value x,#[y,z],tys⟩,ty,pos,af,g⟩=some true) (hk:(Op.call ⟨.value x,#[y,z],tys⟩).operands.toList.all (known L)=true)
  (hx:rho L x= .func (.yield l) #[] #[]) (hy:rho L y=v) (hz:rho L z=u) (h:YieldAt Fence.wide 0 P l #[v,u] w R) (hR:∀e w',R e w'→∃u,e= .returned u∧SY P n ops Q rest ((d,u)::L) w'):SY P n ops Q (⟨some d,.call ⟨.value x,#[y,z],tys⟩,ty,pos,af,g⟩::rest) L w:=by
 obtain⟨fn,tmps,assign,body,hrun,hround⟩:=h
 refine SY.op (R:=fun u w'=>R (.returned u) w') (by simpa using hd) hw hk (fun a he K hK=>?_) (fun u w' h=>?_)
 ·refine⟨fun f _=>trivial,?_⟩
  rw[Oper.semAt_eq _ _ _ (gQ rfl),←execOp_congr ⟨some d,.call ⟨.value x,#[y,z],tys⟩,ty,pos,af,g⟩ (fun cs b e=>by cases e) he]
  have:(execOp (rho L) ⟨some d,.call ⟨.value x,#[y,z],tys⟩,ty,pos,af,g⟩).run P w= .ok (.round l fn tmps assign body) w:=by
   simp only[execOp,resolve,Deferred.ofValue,invoke,Sem.run_bind,Sem.run_pure,Result.andThen_ok,List.map_toArray,List.map_cons,List.map_nil,hx,hy,hz]
   simpa using hrun
  rw[this,Oper.uponIn_round]
  refine⟨fun hh=>absurd hh Wf.wide.depth,RoundIn.mono hround (fun e w' he=>?_)⟩
  obtain⟨u,rfl,_⟩:=hR e w' he
  exact hK _ _ he
 ·obtain⟨u',e1,e2⟩:=hR _ _ h
  cases e1
  exact e2
theorem mz.app{ds:List Deferred}{a:Act}(h:Fits n a L):mz n ds (oE ds a) L:=⟨⟨h.slot,h.size,rfl⟩,by show a.defers++ds=ds;rw[h.defers];rfl⟩
theorem CD.dG{ds:List Deferred}{id:Nat}{ops:List Oper}(hm:P.follows .mixedOrders=true)(k:Nat)(ord gh:List Nat)(S:List Nat)(R:World→Prop)(hc:xX n ops ord gh k=true)(hR0:R w)(hRs:cp [] R)
  (h:Der P S w ops gh (kH n S w P ops (fun e a' w'=>Q e (oE ds a') w') k) ord L (fun _=>True) R):CD P n ds (.region id ops.toArray true) Q L w:=fun a ha=>by
 have e:a=oE ds {a with defers:=[]}:=by
  show a={a with defers:=[]++ds}
  rw[List.nil_append,←ha.defers]
 rw[e]
 exact wp_region_any hm (pM _ _ _ _ (fg k ord gh S (fun _=>True) R hc ha.fit trivial (fun _ _ _ _=>trivial) hR0 hRs h))
theorem CD.rangeFunc{ds:List Deferred}{g:Operand}{ps:Array Tmp}{assign body:Code}{gf:FuncId}[F:Fnc P gf]{lb:Array Value}(hk:known L g=true)(hg:rho L g= .func (.func gf) #[] lb)
  (h:∀a,mz n ds a L→∀(fn:FuncId) (rc:LoopState→Loop) (W1:World),rc=(fun st=>rF a fn ps assign body w.heap.size st none)→Kp [] w W1→W1.heap.size=w.heap.size+2→Blk W1 w.heap.size (.deferred (some []))→Blk W1 (w.heap.size+1) (.loop (rc .ready))→
   Calls P gf (#[.func (.yield (w.heap.size+1)) #[] #[]]++lb) W1 (fun e w3=>(∃v,e= .returned v)∧Blk w3 (w.heap.size+1) (.loop (rc .ready))∧
    Q .normal {a with defers:={target:= .collected w.heap.size,args:= #[]}::ds} (w3.putObj (w.heap.size+1) (.loop (rc .exhausted))))):CD P n ds (.rangeFunc g ps assign body) Q L w:=by
 intro a ha
 refine(wpIn_wide (n:=0)).1 (wpIn_rangeFunc (fun fn hfn=>?_))
 have hev:a.eval g= .func (.func gf) #[] lb:=by
  have:=ha.fit.eval hk
  rw[hg] at this
  exact this
 obtain⟨W1,hW1⟩:∃W1,(w.alloc (.deferred (some []))).alloc (.loop (rF a fn ps assign body w.heap.size .ready none))=W1:=⟨_,rfl⟩
 have hk1:Kp [] w W1:=by
  rw[←hW1]
  exact(Kp.push w (.deferred (some [])) rfl).trans (Kp.push (w.alloc (.deferred (some []))) (.loop (rF a fn ps assign body w.heap.size .ready none)) rfl)
 have hs1:W1.heap.size=w.heap.size+2:=by rw[←hW1];simp
 have hD1:Blk W1 w.heap.size (.deferred (some [])):=by
  rw[←hW1]
  exact(Below.heap_alloc _ _ _ (by simp)).trans (World.alloc_heap_new w _)
 have hL1:Blk W1 (w.heap.size+1) (.loop (rF a fn ps assign body w.heap.size .ready none)):=by
  rw[←hW1]
  have:=World.alloc_heap_new (w.alloc (.deferred (some []))) (.loop (rF a fn ps assign body w.heap.size .ready none))
  rwa [World.size_alloc] at this
 refine⟨w.heap.size+1,[{target:= .collected w.heap.size,args:= #[]}],W1,{target:= .fn (.func gf) lb,args:= #[.func (.yield (w.heap.size+1)) #[] #[]]},W1,gf,#[.func (.yield (w.heap.size+1)) #[] #[]]++lb,W1,?_,?_,fun f' hf'=>trivial,?_,fun hh=>absurd hh Wf.wide.depth,?_⟩
 ·rw[←hW1]
  exact run_enterLoop_outer _ _ _ _ _
 ·simp only[resolve,hev]
  simp[go_sem]
 ·simp[invoke,go_sem,F.run]
 ·refine callsIn_wide.2 ((h a ha fn _ W1 rfl hk1 hs1 hD1 hL1).mono (fun e w3 hh=>?_))
  obtain⟨⟨v,rfl⟩,hL3,hQ⟩:=hh
  refine⟨none,_,run_endLoop (P:=P) hL3 (by simp[rF]),?_⟩
  show Q .normal {a with defers:=[{target:= .collected w.heap.size,args:= #[]}]++a.defers} _
  rw[ha.defers]
  exact hQ
theorem CD.seq{ds:List Deferred}{x y:Code}(h:CD P n ds x (Exit.then (y.wp P Q) Q) L w):CD P n ds (.seq x y) Q L w:=fun a ha=>wp_seq (h a ha)
theorem CD.block{ds:List Deferred}{id:Nat}{c:Code}(h:CD P n ds c (Exit.inBlock id Q) L w):CD P n ds (.block id c) Q L w:=fun a ha=>wp_block (h a ha)
theorem NG.cd{ds:List Deferred}{y:Code}(h:CD P n ds y Q L w):NG n .normal (fun e a w=>Exit.then (y.wp P Q) Q e (oE ds a) w) L w:=fun a ha=>h _ (mz.app ha)
theorem zX{D1 D2:Nat}{fn:Func}{R:Ending→World→Prop}{a:Act}{e:Exit}(he:e= .normal∨e= .ret)(hrs:fn.results= #[])(hd:a.defers=[{target:= .collected D2,args:= #[]},{target:= .collected D1,args:= #[]}])(h2:Blk w D2 (.deferred (some [])))(hne:D1≠D2)(h1:Blk w D1 (.deferred (some [])))(hR:R (.returned (.tuple #[])) ((w.putObj D2 (.deferred none)).putObj D1 (.deferred none))):bodyPostM Fence.wide 0 P fn R e a w:=by
 have key:LeavesInM Fence.wide 0 P fn a.tmps R a.defers .returning w:=by
  rw[hd]
  have hk:=Kp.set w (o':= .deferred none) h2 rfl rfl
  refine⟨by simp,.inl ⟨_,_,rfl,run_takeDeferred h2,by simp,.inl ⟨_,_,rfl,run_takeDeferred (h1.kp hk (by simp[hne])),?_⟩⟩⟩
  refine⟨.tuple #[],?_,hR⟩
  unfold results
  rw[hrs]
  simp only[List.mapM_toArray,←bind_pure_comp,Sem.run_bind,Result.andThen,Sem.run_pure]
  rfl
 rcases he with rfl|rfl
 ·exact key
 ·exact key
end
end
section
attribute [local irreducible] CG NG SG SY aO Der Row Blk az aH
theorem lu{w:World}{l bx:Nat}{a:Option Addr}{cc:Nat}{xs:List Dg}(hl:xs.length≤100000)(J:Nat→World→Prop)(hb:∀r W,J r W→Row W bx 0 [.slice a xs.length cc]∧Sl dc 8 W a xs)(hn:∀r W W',J r W→Kp [] W W'→J r W')
  (hy:∀r W (hr:r<xs.length),J (r+1) W→YieldAt Fence.wide 0 Tryz.prog l #[.int .i64 (r:Int),dv xs[r]] W (fun e W'=>e= .returned (.bool true)∧J r W')) (h0:J xs.length w):
  Calls Tryz.prog 158 #[.func (.yield l) #[] #[],.pointer (some ⟨bx,0,none⟩)] w (fun e w'=>(∃v,e= .returned v)∧J 0 w'):=by
 refine bh Tryz.func158 rfl Tryz.ntmps158 rfl ?_
 obtain⟨r0,-⟩:=hb _ _ h0
 repeat (first|apply gst|(apply gsv;rfl;(first|apply qas|apply qlc|apply qln|apply qsb)<;>first|rfl|(apply Ar.mk;omega)|assumption|exact List.not_mem_nil))
 refine CG.loop (X:=Nat) (fun r=>[(0,.func (.yield l) #[] #[]),(1,.pointer (some ⟨bx,0,none⟩)),(3,.int .i64 ((r:Int)-1))])
  (fun r w'=>r≤xs.length∧J r w') (fun r=>r) xs.length ⟨Nat.le_refl _,h0⟩ (aZ.of rfl) ?_
 rintro r w3 ⟨hr,hJ⟩
 refine CG.to [(0,.func (.yield l) #[] #[]),(1,.pointer (some ⟨bx,0,none⟩)),(3,.int .i64 ((r:Int)-1))] (aZ.of rfl) ?_
 clear r0
 cases r with
 |zero=>
  have g1:¬(0:Int)≤((0:Nat):Int)-1:=by omega
  repeat (first|apply gst|(apply gsv;rfl;(first|apply qmv|apply qge)<;>first|rfl|(apply dcf;first|assumption|omega)))
  refine gcf rfl ?_
  repeat apply gst
  refine rh (Or.inr rfl) Tryz.results158 ?_
  exact⟨⟨_,rfl⟩,hJ⟩
 |succ r=>
  have e1:((r+1:Nat):Int)-1=(r:Int):=by omega
  rw[e1]
  have g1:(0:Int)≤(r:Int):=by omega
  obtain⟨r0,hS⟩:=hb _ _ hJ
  obtain⟨ba,off,rfl,hrow⟩:=hS.at (show r<xs.length by omega)
  repeat (first|apply gst|(apply gsv;rfl;(first|apply qmv|apply qge)<;>first|rfl|(apply dct;first|assumption|omega)))
  refine gct rfl ?_
  repeat (first|refine CG.block ?_|refine CG.scope ?_|refine CG.seq ?_|apply CG.skip|refine NG.next ?_)
  refine CG.zA ?_
  repeat (refine SY.val rfl rfl rfl rfl rfl (by first|((first|apply qmv|apply qlc|apply qla|apply qix)<;>(first|exact rfl|exact Ar.mk (by omega)|assumption|exact List.not_mem_nil|apply ah|apply ah|fail))|fail) ?_)
  refine SY.Bc rfl rfl rfl (ag rfl) (ag rfl) (ag rfl) (hy r w3 (by omega) hJ) (fun e w4 hh=>?_)
  obtain⟨rfl,hJ4⟩:=hh
  refine⟨_,rfl,?_⟩
  clear hrow r0
  repeat (refine SY.val rfl rfl rfl rfl rfl (by first|(apply qnt<;>(exact rfl))|fail) ?_)
  refine SY.nil ?_
  repeat apply gst
  refine gcf rfl ?_
  repeat (first|apply gst|(apply gsv;rfl;(first|apply qmv|apply qas|apply qsb)<;>first|rfl|(apply Ar.mk;omega)))
  refine NG.round r (aZ.of rfl) ⟨by omega,hJ4⟩ (by omega)
theorem lr(w:World)(v:Value):Calls Tryz.prog 123 #[v] w (fun e w'=>∃bx,e= .returned (fnv 158 [.pointer (some ⟨bx,0,none⟩)])∧Kp [] w w'∧w.heap.size≤bx∧Blk w' bx (.cells v.cells 93)):=by
 refine aQ Tryz.func123 rfl Tryz.ntmps123 rfl ?_
 repeat apply gst
 refine SG.box rfl rfl rfl (ag rfl) (fun b1 w1 hk1 hb1 hB1=>?_)
 repeat (first|apply gst|(apply gsv;rfl;apply qas<;>rfl))
 refine SG.val rfl rfl rfl rfl (qmf (vs:=[.pointer (some ⟨b1,0,none⟩)]) rfl) ?_
 repeat (first|apply gst|(apply gsv;rfl;apply qas<;>rfl))
 refine aS (Or.inl rfl) Tryz.results123 (aC.tmp rfl) ?_
 exact⟨b1,rfl,hk1,hb1,hB1⟩
end
section
def mL(ns:List (Dg×Nat×Nm))(d:Dg):List Tx:=match ar ns d with
 |some q=>q.2.x.xs.map (·.t)
 |none=>[]
noncomputable def A8(ns:List (Dg×Nat×Nm))(h:Int)(ps:List En)(l:List Dg):List En:=l.foldr (fun d ps=>(pD 256 ps h (mL ns d)).1) ps
noncomputable def A5(ns:List (Dg×Nat×Nm))(ps:List En)(l:List Dg):List En:=l.foldr (fun d ps=>pk ps (mL ns d)) ps
noncomputable def swE(ns:List (Dg×Nat×Nm))(t:Tr)(ps:List En)(old now:Dg):List En:=A5 ns (A8 ns (t.height now) ps (t.gp old now)) (t.gp now old)
theorem jq{ns:List (Dg×Nat×Nm)}{h:Int}{ps:List En}(hi:dY 256 ps):∀l,dY 256 (A8 ns h ps l)
 |[]=>hi
 |d::l=>vq (jq hi l)
theorem ma{ns:List (Dg×Nat×Nm)}{ps:List En}(hi:dY 256 ps):∀l,dY 256 (A5 ns ps l)
 |[]=>hi
 |d::l=>uN (ma hi l)
def Hl(W:World)(X:List (Nat×Obj)):Prop:=∀p∈X,Blk W p.1 p.2
def hdO:Obj→Prop
 | .cells _ T _=>T∉CT
 |_=>True
def okX(X:List (Nat×Obj)):Prop:=∀p∈X,hdO p.2
theorem Pl.no{w:World}{n p b:Nat}{v:Value}{room:Int}{ms:List Em}{o:Obj}(h:Pl w n p v room ms)(hB:Blk w b o)(ho:hdO o):b∉p::aT v:=fun hm=>by
 rcases List.mem_cons.1 hm with rfl|hm
 ·have e:=hB.uniq h.blk
  subst e
  exact ho (by decide)
 ·have hm:=ay hm
  rcases h.own.2 with⟨rfl,_⟩|⟨g,cap,cur,rfl,_,hg,_⟩
  ·cases hm
  ·simp only[Value.ownBlock,Option.some.injEq] at hm
   subst hm
   have e:=hB.uniq hg
   subst e
   exact ho (by decide)
theorem Hl.kp0{W W':World}{X:List (Nat×Obj)}(h:Hl W X)(hk:Kp [] W W'):Hl W' X:=fun p hp=>(h p hp).kp0 hk
theorem Hl.kp{W W':World}{X:List (Nat×Obj)}{S:List Nat}(h:Hl W X)(hk:Kp S W W')(hn:∀p∈X,p.1∉S):Hl W' X:=fun p hp=>(h p hp).kp hk (hn p hp)
def SwJ(w:World)(n:Nat)(A:List Nat)(tot:Int)(c:Cm)(X:List (Nat×Obj))(E:List En)(W:World):Prop:=
 ∃pv ps',dA W n A tot {c with pv:=pv,ps:=ps'}∧ps'.map Em.en=E∧Kp (c.pb::aT c.pv) w W∧(∀g,pv.ownBlock=some g→c.pv.ownBlock=some g∨w.heap.size≤g)∧Hl W X
theorem SwJ.new{w:World}{n:Nat}{A:List Nat}{tot:Int}{c:Cm}{X:List (Nat×Obj)}{E:List En}{W W':World}(h:SwJ w n A tot c X E W)(hk:Kp [] W W'):SwJ w n A tot c X E W':=by
 obtain⟨pv,ps',h1,h2,h3,h4,h5⟩:=h
 exact⟨pv,ps',h1.kp0 hk,h2,h3.trans hk.any,h4,h5.kp0 hk⟩
theorem SwJ.pool{w:World}{n:Nat}{A:List Nat}{tot:Int}{c:Cm}{X:List (Nat×Obj)}{E':List En}{W W':World}{pv pv':Value}{ps' ps2:List Em}(hX:okX X)(h1:dA W n A tot {c with pv:=pv,ps:=ps'})(h3:Kp (c.pb::aT c.pv) w W)(h4:∀g,pv.ownBlock=some g→c.pv.ownBlock=some g∨w.heap.size≤g)(h5:Hl W X)
  (hk:Kp (c.pb::aT pv) W W') (hP:Pl W' n c.pb pv' 256 ps2) (hE:ps2.map Em.en=E') (hg:∀g,pv'.ownBlock=some g→pv.ownBlock=some g∨W.heap.size≤g):SwJ w n A tot c X E' W':=by
 refine⟨pv',ps2,h1.BC hk hP,hE,h3.ai hk (fun z hz=>?_),fun g hg'=>?_,h5.kp hk (fun p hp=>Pl.no (p:=c.pb) (v:=pv) (room:=256) (ms:=ps') h1.pool (h5 p hp) (hX p hp))⟩
 ·rcases List.mem_cons.1 hz with rfl|hz
  ·exact Or.inl List.mem_cons_self
  ·rcases h4 z (ay hz) with g|g
   ·refine Or.inl (List.mem_cons_of_mem _ ?_)
    unfold aT
    rw[g]
    simp
   ·exact Or.inr g
 ·rcases hg g hg' with e|e
  ·exact h4 g e
  ·exact Or.inr (Nat.le_trans h3.size e)
theorem SwJ.put{w:World}{n:Nat}{A:List Nat}{tot:Int}{c:Cm}{X X':List (Nat×Obj)}{E:List En}{W W':World}{l:Nat}{o:Obj}(h:SwJ w n A tot c X E W)(hk:Kp [l] W W')(hl:Blk W l o)(hn:n≤l)(ho:okC [] [] l o)(hw:w.heap.size≤l)(hX:∀p∈X',p∈X∧p.1≠l∨Blk W' p.1 p.2):SwJ w n A tot c X' E W':=by
 obtain⟨pv,ps',h1,h2,h3,h4,h5⟩:=h
 have hS:Cnd n [] [] W [l]:=Cnd.obj hn hl ho
 refine⟨pv,ps',h1.kpL hk hS (fun _ _ h=>by cases h) (fun p hp=>(h1.nd p hp).x.pT hk hS List.not_mem_nil List.not_mem_nil),h2,h3.ai hk (bf hw),h4,fun p hp=>?_⟩
 rcases hX p hp with⟨g1,g2⟩|g
 ·exact(h5 p g1).kp hk (nm1 g2)
 ·exact g
end
section
theorem ti{w:World}{b off:Nat}{l:List Dg}{pre post:List Value}{T:TypeId}(hB:Blk w b (.cells (pre++(flat l++post)).toArray T))(hp:pre.length=off):Sl dc 8 w (some ⟨b,off,none⟩) l:=by
 rw[←hp]
 exact Sl.fj ah hB
attribute [local irreducible] CG NG SG SY CI aO Der Row Blk az aH
theorem lI{w:World}{n:Nat}{A:List Nat}{tot:Int}{c:Cm}(h:dA w n A tot c)(wf:c.tr.WF)(hI:dY 256 (c.ps.map Em.en)){old now:Dg}(ho:c.tr.has old=true)(hw:c.tr.has now=true)(hl1:c.tr.und old now≤100000)(hl2:c.tr.und now old≤100000)
  (h1:∀d∈c.tr.gp old now,∃q,ar c.ns d=some q) (h2:∀d∈c.tr.gp now old,∃q,ar c.ns d=some q):
  Calls Tryz.prog 75 #[.pointer (some ⟨c.cb,0,none⟩),dv old,dv now] w (fun e w'=>e= .returned (.tuple #[])∧SwJ w n A tot c [] (swE c.ns c.tr (c.ps.map Em.en) old now) w'):=by
 refine Cd (args:=[.pointer (some ⟨c.cb,0,none⟩),dv old,dv now]) Tryz.func75 rfl Tryz.ntmps75 rfl ?_
 repeat apply gst
 refine SG.box rfl rfl rfl (ag rfl) (fun b3 w1 hk1 hb3 hB3=>?_)
 have hB3:Blk w1 b3 (.cells #[.pointer (some ⟨c.cb,0,none⟩)] 39):=hB3
 refine SG.box rfl rfl rfl (ag rfl) (fun b4 w2 hk2 hb4 hB4=>?_)
 have hB4:Blk w2 b4 (.cells (dc old).toArray 47):=hB4
 refine SG.box rfl rfl rfl (ag rfl) (fun b5 w3 hk3 hb5 hB5=>?_)
 have hB5:Blk w3 b5 (.cells (dc now).toArray 47):=hB5
 have k3:=(hk1.trans hk2).trans hk3
 have hB3:=(hB3.kp0 hk2).kp0 hk3
 have hB4:=hB4.kp0 hk3
 have h3:=h.kp0 k3
 have r3:Row w3 b3 0 [.pointer (some ⟨c.cb,0,none⟩)]:=Row.of hB3 [] [] rfl rfl
 have r4:Row w3 b4 0 (dc old):=Row.all hB4 rfl
 have r5:Row w3 b5 0 (dc now):=Row.all hB5 rfl
 obtain⟨-,-,-,-,q3,-,-⟩:=cj h3
 repeat apply gst
 refine CG.hZ mixed [0,1,2,3,4,5] [(6,7,6,.tmp 16)] (by kernel_rfl) (by kernel_rfl) ?_
 repeat (apply gdv;rfl;rfl;(first|apply qlc|apply qla|apply qfa|apply qnc)<;>first|rfl|assumption|exact List.not_mem_nil|apply ah)
 refine Der.call rfl rfl rfl (vs:=[.pointer (some ⟨c.tb,0,none⟩),dv now]) (Evs.of rfl) (fun W hk _=>dR (h3.tree.kp0 hk) now) ?_
 refine Der.one (iM.of (by rfl) rfl rfl rfl (ag rfl) (by rfl) (by rfl) (by rfl)) (fun b6 w4 hk4 hb6 hB6=>?_)
 have hB6:Blk w4 b6 (.cells #[.int .i64 (c.tr.height now)] 3):=hB6
 have k4:=k3.trans hk4
 have h4:=h.kp0 k4
 have r3:=r3.kp0 hk4
 have r4:=r4.kp0 hk4
 have r5:=r5.kp0 hk4
 have q3:=q3.kp0 hk4
 repeat apply gst
 refine CG.tail mixed 6 [0,1,2,3,4,5] (by kernel_rfl) ?_
 repeat (apply gdv;rfl;rfl;(first|apply qlc|apply qla|apply qfa|apply qnc)<;>first|rfl|assumption|exact List.not_mem_nil|apply ah)
 refine Der.tl (fun w5 hk5 _ _=>?_)
 refine SG.call rfl rfl rfl (vs:=[.pointer (some ⟨c.tb,0,none⟩),dv old,dv now]) (Evs.of rfl) ((iW (h4.tree.kp0 hk5) wf ho hw).mono (fun e w6 hh=>?_))
 obtain⟨bs,off,cc,pre,post,rfl,hbs,hBs,⟨hpre,hcc⟩,hk6⟩:=hh
 refine⟨_,rfl,?_⟩
 refine SG.call rfl rfl rfl (vs:=[.slice (some ⟨bs,off,none⟩) (c.tr.und old now) cc]) (Evs.of rfl) ((lr w6 _).mono (fun e w7 hh=>?_))
 obtain⟨bx,rfl,hk7,hbx,hBx⟩:=hh
 refine⟨_,rfl,?_⟩
 repeat apply gst
 have s1:=hk1.size
 have s2:=hk2.size
 have s3:=hk3.size
 have s4:=hk4.size
 have s5:=hk5.size
 have s6:=hk6.size
 have s7:=hk7.size
 have lbx:=hBx.lt
 have k47:=(hk5.trans hk6).trans hk7
 have k7:=k4.trans k47
 have X0:Hl w7 [(b3,.cells #[.pointer (some ⟨c.cb,0,none⟩)] 39),(b4,.cells (dc old).toArray 47),(b5,.cells (dc now).toArray 47),(b6,.cells #[.int .i64 (c.tr.height now)] 3)]:=fun p hp=>by
  simp only[List.mem_cons,List.mem_nil_iff,or_false] at hp
  rcases hp with rfl|rfl|rfl|rfl
  ·exact(hB3.kp0 hk4).kp0 k47
  ·exact(hB4.kp0 hk4).kp0 k47
  ·exact(hB5.kp0 hk4).kp0 k47
  ·exact hB6.kp0 k47
 have l6:=hB6.lt
 have hbl:b3<w7.heap.size∧b4<w7.heap.size∧b5<w7.heap.size∧b6<w7.heap.size:=by
  have:=hB3.lt
  have:=hB4.lt
  have:=hB5.lt
  omega
 have hX0:okX [(b3,.cells #[.pointer (some ⟨c.cb,0,none⟩)] 39),(b4,.cells (dc old).toArray 47),(b5,.cells (dc now).toArray 47),(b6,.cells #[.int .i64 (c.tr.height now)] 3)]:=fun p hp=>by
  simp only[List.mem_cons,List.mem_nil_iff,or_false] at hp
  rcases hp with rfl|rfl|rfl|rfl<;>(show _∉CT;decide)
 have hBs7:=hBs.kp0 hk7
 clear r3 r4 r5 q3
 generalize hXe:[(b3,Obj.cells #[.pointer (some ⟨c.cb,0,none⟩)] 39),(b4,.cells (dc old).toArray 47),(b5,.cells (dc now).toArray 47),(b6,.cells #[.int .i64 (c.tr.height now)] 3)]=X at*
 have hXl:∀p∈X,p.1<w7.heap.size:=fun p hp=>(X0 p hp).lt
 have m3:(b3,Obj.cells #[.pointer (some ⟨c.cb,0,none⟩)] 39)∈X:=by rw[←hXe];exact .head _
 have m4:(b4,Obj.cells (dc old).toArray 47)∈X:=by rw[←hXe];exact .tail _ (.head _)
 have m5:(b5,Obj.cells (dc now).toArray 47)∈X:=by rw[←hXe];exact .tail _ (.tail _ (.head _))
 have m6:(b6,Obj.cells #[.int .i64 (c.tr.height now)] 3)∈X:=by rw[←hXe];exact .tail _ (.tail _ (.tail _ (.head _)))
 have lbs:=hBs7.lt
 refine CG.rangeFunc rfl (ag rfl) (fun a ha fn rc W1 hrc hkW hsW hDW hLW=>?_)
 obtain⟨XL,hXL⟩:∃XL:LoopState→List (Nat×Obj),XL=fun st=>(bx,.cells #[.slice (some ⟨bs,off,none⟩) (c.tr.und old now) cc] 93)::(bs,.cells (pre++(flat (c.tr.gp old now)++post)).toArray 47)::(w7.heap.size,.deferred (some []))::(w7.heap.size+1,.loop (rc st))::X:=⟨_,rfl⟩
 have mX:∀{st p},p∈X→p∈XL st:=fun hp=>by rw[hXL];exact .tail _ (.tail _ (.tail _ (.tail _ hp)))
 have ml:∀{st},(w7.heap.size+1,Obj.loop (rc st))∈XL st:=by rw[hXL];exact .tail _ (.tail _ (.tail _ (.head _)))
 have oXL:∀st,okX (XL st):=fun st p hp=>by
  rw[hXL] at hp
  simp only[List.mem_cons] at hp
  rcases hp with rfl|rfl|rfl|rfl|hp
  ·show _∉CT;decide
  ·show _∉CT;decide
  ·trivial
  ·trivial
  ·exact hX0 p hp
 have hput:∀{st st' E W W'},SwJ w n A tot c (XL st) E W→Kp [w7.heap.size+1] W W'→Blk W' (w7.heap.size+1) (.loop (rc st'))→SwJ w n A tot c (XL st') E W':=fun{st st' E W W'} hJ hk hB=>by
  have hl:Blk W (w7.heap.size+1) (.loop (rc st)):=by
   obtain⟨_,_,-,-,-,-,hX⟩:=hJ
   exact hX _ ml
  refine hJ.put hk hl (by have:=h.w0;omega) trivial (by omega) (fun p hp=>?_)
  rw[hXL] at hp
  simp only[List.mem_cons] at hp
  rw[hXL]
  rcases hp with rfl|rfl|rfl|rfl|hp
  ·exact Or.inl ⟨.head _,by simp only;omega⟩
  ·exact Or.inl ⟨.tail _ (.head _),by simp only;omega⟩
  ·exact Or.inl ⟨.tail _ (.tail _ (.head _)),by simp only;omega⟩
  ·exact Or.inr hB
  ·exact Or.inl ⟨.tail _ (.tail _ (.tail _ (.tail _ hp))),by have:=hXl p hp;omega⟩
 refine(lu (xs:=c.tr.gp old now) (a:=some ⟨bs,off,none⟩) (cc:=cc) (by rw[eK];exact hl1)
  (fun r W=>SwJ w n A tot c (XL .ready) (A8 c.ns (c.tr.height now) (c.ps.map Em.en) ((c.tr.gp old now).drop r)) W)
  (fun r W hJ=>?_) (fun r W W' hJ hk=>hJ.new hk) (fun r W hr hJ=>?_) ?_).mono (fun e W3 hh=>?_)
 ·obtain⟨_,_,-,-,-,-,hX⟩:=hJ
  rw[hXL] at hX
  rw[eK]
  exact⟨Row.of (hX _ (.head _)) [] [] rfl rfl,ti (hX _ (.tail _ (.head _))) hpre⟩
 ·have hl:Blk W (w7.heap.size+1) (.loop (rc .ready)):=by
   obtain⟨_,_,-,-,-,-,hX⟩:=hJ
   exact hX _ ml
  refine mR (t:=25) (u:=26) hrc ha (by decide) (by decide) hl rfl ?_
  clear hrc
  have ll:=hl.lt
  refine SG.alloc rfl rfl rfl (fun b8 W2 hk2' hb8 hB8=>?_)
  refine SG.aG (l:=dc (c.tr.gp old now)[r]) rfl rfl (ag rfl) (ag rfl) hB8 (ah _) rfl (aR _) (fun W3 hk3' hB8=>?_)
  have k3':Kp [] W W3:=hk2'.ai hk3' (bf (by omega))
  have hJ3:=hJ.new k3'
  refine SG.nil (NG.wF (fun a1 ha1=>⟨_,ha1,hl.kp0 k3',fun W4 hk4' hL4=>?_⟩))
  have hJ4:=hput hJ3 hk4' hL4
  have r8:Row W4 b8 0 (dc (c.tr.gp old now)[r]):=Row.all (hB8.kp hk4' (nm1 (by omega))) rfl
  clear ha1 a1 hJ hJ3
  obtain⟨pv,ps',hC,hE,hkp,hg,hX⟩:=hJ4
  have r3:Row W4 b3 0 [.pointer (some ⟨c.cb,0,none⟩)]:=Row.of (hX _ (mX m3)) [] [] rfl rfl
  have r6:Row W4 b6 0 [.int .i64 (c.tr.height now)]:=Row.of (hX _ (mX m6)) [] [] rfl rfl
  obtain⟨-,-,-,-,-,t4,t5⟩:=cj hC
  obtain⟨q,hq⟩:=h1 _ (List.getElem_mem hr)
  have hQ:=hC.ndA (c:={c with pv:=pv,ps:=ps'}) hq
  obtain⟨-,-,-,-,u20,-⟩:=dI hQ.blk
  have hM:=hC.map
  refine CI.dG mixed tZ rfl 15 [0,1,2,3,4,5,6,7,8,9,10,11,12,13,14] [] [] (fun _=>True) (by kernel_rfl) trivial (fun _ _ _ _=>trivial) ?_
  repeat (apply gdv;rfl;rfl;(first|apply qlc|apply qla|apply qfa|apply qnc|apply qlv)<;>first|rfl|assumption|exact List.not_mem_nil|apply ah|exact lk1 (by assumption)|fail)
  refine Der.tl (fun W5 hk5' _ _=>?_)
  clear r3 r6 r8 t4 t5 u20 hM
  have hI5:dY 256 (ps'.map Em.en):=by rw[hE];exact jq hI _
  refine SG.call rfl rfl rfl (vs:=[.pointer (some ⟨c.pb,0,none⟩),.int .i64 (c.tr.height now),.slice q.2.x.a q.2.x.xs.length q.2.x.c]) (Evs.of rfl) ((vl (hC.kp0 hk5').pool hI5 (by omega) (hQ.kp0 hk5').x.tx (hQ.x.len)).mono (fun e W6 hh=>?_))
  obtain⟨rfl,pv2,ps2,hP2,hE2,hk6',hg2⟩:=hh
  refine⟨_,rfl,?_⟩
  have hkp5:=hkp.trans hk5'.any
  have hJ6:SwJ w n A tot c (XL .busy) (A8 c.ns (c.tr.height now) (c.ps.map Em.en) ((c.tr.gp old now).drop r)) W6:=by
   refine SwJ.pool (oXL _) (hC.kp0 hk5') hkp5 hg (hX.kp0 hk5') hk6' hP2 ?_ hg2
   rw[List.drop_eq_getElem_cons hr]
   show _=(pD 256 (A8 c.ns (c.tr.height now) (c.ps.map Em.en) ((c.tr.gp old now).drop (r+1))) (c.tr.height now) (mL c.ns (c.tr.gp old now)[r])).1
   have et:mL c.ns (c.tr.gp old now)[r]=q.2.x.xs.map (·.t):=by unfold mL;rw[hq]
   rw[hE2,hE,et]
  have hl6:Blk W6 (w7.heap.size+1) (.loop (rc .busy)):=by
   obtain⟨_,_,-,-,-,-,hX⟩:=hJ6
   exact hX _ ml
  refine SG.nil (NG.wF (fun a1 ha1=>⟨hl6,fun W7 hk7' hL7=>⟨rfl,hput hJ6 hk7' hL7⟩⟩))
 ·refine⟨c.pv,c.ps,h.kp0 (k7.trans hkW),by rw[List.drop_length];rfl,(k7.trans hkW).any,fun g hg=>Or.inl hg,?_⟩
  rw[hXL]
  intro p hp
  simp only[List.mem_cons] at hp
  rcases hp with rfl|rfl|rfl|rfl|hp
  ·exact hBx.kp0 hkW
  ·exact hBs7.kp0 hkW
  ·exact hDW
  ·exact hLW
  ·exact(X0 p hp).kp0 hkW
 obtain⟨hv,hJ3⟩:=hh
 have hl3:Blk W3 (w7.heap.size+1) (.loop (rc .ready)):=by
  obtain⟨_,_,-,-,-,-,hX⟩:=hJ3
  exact hX _ ml
 refine⟨hv,hl3,?_⟩
 obtain⟨W4,hW4⟩:∃W4,W3.putObj (w7.heap.size+1) (.loop (rc .exhausted))=W4:=⟨_,rfl⟩
 rw[hW4]
 have hk4':Kp [w7.heap.size+1] W3 W4:=by
  rw[←hW4]
  exact Kp.set W3 hl3 rfl rfl
 have hL4:Blk W4 (w7.heap.size+1) (.loop (rc .exhausted)):=by
  rw[←hW4]
  exact vc hl3 _
 have hJ4:=hput hJ3 hk4' hL4
 rw[List.drop_zero] at hJ4
 clear hJ3 hl3 hk4' hput oXL ml
 generalize hE1:A8 c.ns (c.tr.height now) (c.ps.map Em.en) (c.tr.gp old now)=E1 at hJ4
 have hI1:dY 256 E1:=by rw[←hE1];exact jq hI _
 have mD:(w7.heap.size,Obj.deferred (some []))∈XL .exhausted:=by rw[hXL];exact .tail _ (.tail _ (.head _))
 refine CD.seq ?_ _ (mz.mark ha)
 have hJ40:=hJ4
 obtain⟨pv,ps',hC,hE,hkp,hg,hX⟩:=hJ4
 have r3:Row W4 b3 0 [.pointer (some ⟨c.cb,0,none⟩)]:=Row.of (hX _ (mX m3)) [] [] rfl rfl
 have r4:Row W4 b4 0 (dc old):=Row.all (hX _ (mX m4)) rfl
 have r5:Row W4 b5 0 (dc now):=Row.all (hX _ (mX m5)) rfl
 obtain⟨-,-,-,-,t3,-,-⟩:=cj hC
 refine CD.dG mixed 6 [0,1,2,3,4,5] [] [] (fun _=>True) (by kernel_rfl) trivial (fun _ _ _ _=>trivial) ?_
 repeat (apply gdv;rfl;rfl;(first|apply qlc|apply qla|apply qfa|apply qnc)<;>first|rfl|assumption|exact List.not_mem_nil|apply ah)
 refine Der.tl (fun W5 hk5 _ _=>?_)
 refine SG.call rfl rfl rfl (vs:=[.pointer (some ⟨c.tb,0,none⟩),dv now,dv old]) (Evs.of rfl) ((iW (hC.kp0 hk5).tree wf hw ho).mono (fun e W6 hh=>?_))
 obtain⟨bs2,off2,cc2,pre2,post2,rfl,hbs2,hBs2,⟨hpre2,hcc2⟩,hk6⟩:=hh
 refine⟨_,rfl,?_⟩
 refine SG.call rfl rfl rfl (vs:=[.slice (some ⟨bs2,off2,none⟩) (c.tr.und now old) cc2]) (Evs.of rfl) ((lr W6 _).mono (fun e W7 hh=>?_))
 obtain⟨bx2,rfl,hk7,hbx2,hBx2⟩:=hh
 refine⟨_,rfl,?_⟩
 refine SG.nil (NG.cd ?_)
 refine CD.block ?_
 clear r3 r4 r5 t3
 have k57:=(hk5.trans hk6).trans hk7
 have k7':=hk7.size
 have lbx2:=hBx2.lt
 have lbs2:=(hBs2.kp0 hk7).lt
 obtain⟨X2,hX2⟩:∃X2:List (Nat×Obj),X2=(w7.heap.size,.deferred (some []))::X:=⟨_,rfl⟩
 have X02:Hl W7 X2:=fun p hp=>by
  rw[hX2] at hp
  rcases List.mem_cons.1 hp with rfl|hp
  ·exact(hX _ mD).kp0 k57
  ·exact(hX _ (mX hp)).kp0 k57
 have hX02:okX X2:=fun p hp=>by
  rw[hX2] at hp
  rcases List.mem_cons.1 hp with rfl|hp
  ·trivial
  ·exact hX0 p hp
 have hXl2:∀p∈X2,p.1<W7.heap.size:=fun p hp=>(X02 p hp).lt
 have h2':=h2
 have hw7:w.heap.size≤W7.heap.size:=Nat.le_trans hkp.size k57.size
 refine CD.rangeFunc rfl (ag rfl) (fun a2 ha2 fn2 rc2 W8 hrc2 hkW2 hsW2 hDW2 hLW2=>?_)
 obtain⟨XM,hXM⟩:∃XM:LoopState→List (Nat×Obj),XM=fun st=>(bx2,.cells #[.slice (some ⟨bs2,off2,none⟩) (c.tr.und now old) cc2] 93)::(bs2,.cells (pre2++(flat (c.tr.gp now old)++post2)).toArray 47)::(W7.heap.size,.deferred (some []))::(W7.heap.size+1,.loop (rc2 st))::X2:=⟨_,rfl⟩
 have mY:∀{st p},p∈X2→p∈XM st:=fun hp=>by rw[hXM];exact .tail _ (.tail _ (.tail _ (.tail _ hp)))
 have ml:∀{st},(W7.heap.size+1,Obj.loop (rc2 st))∈XM st:=by rw[hXM];exact .tail _ (.tail _ (.tail _ (.head _)))
 have oXM:∀st,okX (XM st):=fun st p hp=>by
  rw[hXM] at hp
  simp only[List.mem_cons] at hp
  rcases hp with rfl|rfl|rfl|rfl|hp
  ·show _∉CT;decide
  ·show _∉CT;decide
  ·trivial
  ·trivial
  ·exact hX02 p hp
 have hput:∀{st st' E W W'},SwJ w n A tot c (XM st) E W→Kp [W7.heap.size+1] W W'→Blk W' (W7.heap.size+1) (.loop (rc2 st'))→SwJ w n A tot c (XM st') E W':=fun{st st' E W W'} hJ hk hB=>by
  have hl:Blk W (W7.heap.size+1) (.loop (rc2 st)):=by
   obtain⟨_,_,-,-,-,-,hX⟩:=hJ
   exact hX _ ml
  refine hJ.put hk hl (by have:=h.w0;omega) trivial (by omega) (fun p hp=>?_)
  rw[hXM] at hp
  simp only[List.mem_cons] at hp
  rw[hXM]
  rcases hp with rfl|rfl|rfl|rfl|hp
  ·exact Or.inl ⟨.head _,by simp only;omega⟩
  ·exact Or.inl ⟨.tail _ (.head _),by simp only;omega⟩
  ·exact Or.inl ⟨.tail _ (.tail _ (.head _)),by simp only;omega⟩
  ·exact Or.inr hB
  ·exact Or.inl ⟨.tail _ (.tail _ (.tail _ (.tail _ hp))),by have:=hXl2 p hp;omega⟩
 refine(lu (xs:=c.tr.gp now old) (a:=some ⟨bs2,off2,none⟩) (cc:=cc2) (by rw[eK];exact hl2)
  (fun r W=>SwJ w n A tot c (XM .ready) (A5 c.ns E1 ((c.tr.gp now old).drop r)) W)
  (fun r W hJ=>?_) (fun r W W' hJ hk=>hJ.new hk) (fun r W hr hJ=>?_) ?_).mono (fun e W3 hh=>?_)
 ·obtain⟨_,_,-,-,-,-,hX⟩:=hJ
  rw[hXM] at hX
  rw[eK]
  exact⟨Row.of (hX _ (.head _)) [] [] rfl rfl,ti (hX _ (.tail _ (.head _))) hpre2⟩
 ·have hl:Blk W (W7.heap.size+1) (.loop (rc2 .ready)):=by
   obtain⟨_,_,-,-,-,-,hX⟩:=hJ
   exact hX _ ml
  refine mR (t:=51) (u:=52) (a:={a2 with defers:=[]}) hrc2 ha2.fit (by decide) (by decide) hl rfl ?_
  clear hrc2
  have ll:=hl.lt
  refine SG.alloc rfl rfl rfl (fun b8 W2 hk2' hb8 hB8=>?_)
  refine SG.aG (l:=dc (c.tr.gp now old)[r]) rfl rfl (ag rfl) (ag rfl) hB8 (ah _) rfl (aR _) (fun W3 hk3' hB8=>?_)
  have k3':Kp [] W W3:=hk2'.ai hk3' (bf (by omega))
  have hJ3:=hJ.new k3'
  refine SG.nil (NG.wF (fun a1 ha1=>⟨_,ha1,hl.kp0 k3',fun W4 hk4' hL4=>?_⟩))
  have hJ4:=hput hJ3 hk4' hL4
  have r8:Row W4 b8 0 (dc (c.tr.gp now old)[r]):=Row.all (hB8.kp hk4' (nm1 (by omega))) rfl
  clear ha1 a1 hJ hJ3
  obtain⟨pv,ps',hC,hE,hkp,hg,hX⟩:=hJ4
  have r3:Row W4 b3 0 [.pointer (some ⟨c.cb,0,none⟩)]:=Row.of (hX _ (mY (by rw[hX2];exact .tail _ m3))) [] [] rfl rfl
  obtain⟨-,-,-,-,-,t4,t5⟩:=cj hC
  obtain⟨q,hq⟩:=h2' _ (List.getElem_mem hr)
  have hQ:=hC.ndA (c:={c with pv:=pv,ps:=ps'}) hq
  obtain⟨-,-,-,-,u20,-⟩:=dI hQ.blk
  have hM:=hC.map
  refine CI.dG mixed tZ rfl 14 [0,1,2,3,4,5,6,7,8,9,10,11,12,13] [] [] (fun _=>True) (by kernel_rfl) trivial (fun _ _ _ _=>trivial) ?_
  repeat (apply gdv;rfl;rfl;(first|apply qlc|apply qla|apply qfa|apply qnc|apply qlv)<;>first|rfl|assumption|exact List.not_mem_nil|apply ah|exact lk1 (by assumption)|fail)
  refine Der.tl (fun W5 hk5' _ _=>?_)
  clear r3 r8 t4 t5 u20 hM
  have hI5:dY 256 (ps'.map Em.en):=by rw[hE];exact ma hI1 _
  refine SG.call rfl rfl rfl (vs:=[.pointer (some ⟨c.pb,0,none⟩),.slice q.2.x.a q.2.x.xs.length q.2.x.c]) (Evs.of rfl) ((uM (hC.kp0 hk5').pool hI5 (by omega) (hQ.kp0 hk5').x.tx.sl (hQ.x.len)).mono (fun e W6 hh=>?_))
  obtain⟨rfl,pv2,ps2,hP2,hE2,hk6',hg2⟩:=hh
  refine⟨_,rfl,?_⟩
  have hkp5:=hkp.trans hk5'.any
  have hJ6:SwJ w n A tot c (XM .busy) (A5 c.ns E1 ((c.tr.gp now old).drop r)) W6:=by
   refine SwJ.pool (oXM _) (hC.kp0 hk5') hkp5 hg (hX.kp0 hk5') hk6' hP2 ?_ (fun g hg'=>Or.inl (hg2 g hg'))
   rw[List.drop_eq_getElem_cons hr]
   show _=pk (A5 c.ns E1 ((c.tr.gp now old).drop (r+1))) (mL c.ns (c.tr.gp now old)[r])
   have et:mL c.ns (c.tr.gp now old)[r]=q.2.x.xs.map (·.t):=by unfold mL;rw[hq]
   rw[hE2,hE,et]
  have hl6:Blk W6 (W7.heap.size+1) (.loop (rc2 .busy)):=by
   obtain⟨_,_,-,-,-,-,hX⟩:=hJ6
   exact hX _ ml
  refine SG.nil (NG.wF (fun a1 ha1=>⟨hl6,fun W7 hk7' hL7=>⟨rfl,hput hJ6 hk7' hL7⟩⟩))
 ·refine⟨pv,ps',hC.kp0 (k57.trans hkW2),by rw[List.drop_length];exact hE,hkp.trans (k57.trans hkW2).any,hg,?_⟩
  rw[hXM]
  intro p hp
  simp only[List.mem_cons] at hp
  rcases hp with rfl|rfl|rfl|rfl|hp
  ·exact hBx2.kp0 hkW2
  ·exact(hBs2.kp0 hk7).kp0 hkW2
  ·exact hDW2
  ·exact hLW2
  ·exact(X02 p hp).kp0 hkW2
 obtain⟨hv,hJ3⟩:=hh
 have hl3:Blk W3 (W7.heap.size+1) (.loop (rc2 .ready)):=by
  obtain⟨_,_,-,-,-,-,hX⟩:=hJ3
  exact hX _ ml
 refine⟨hv,hl3,?_⟩
 obtain⟨W4,hW4⟩:∃W4,W3.putObj (W7.heap.size+1) (.loop (rc2 .exhausted))=W4:=⟨_,rfl⟩
 rw[hW4]
 have hk4':Kp [W7.heap.size+1] W3 W4:=by
  rw[←hW4]
  exact Kp.set W3 hl3 rfl rfl
 have hL4:Blk W4 (W7.heap.size+1) (.loop (rc2 .exhausted)):=by
  rw[←hW4]
  exact vc hl3 _
 have hJ4:=hput hJ3 hk4' hL4
 rw[List.drop_zero] at hJ4
 have mE:(W7.heap.size,Obj.deferred (some []))∈XM .exhausted:=by rw[hXM];exact .tail _ (.tail _ (.head _))
 have mF:(w7.heap.size,Obj.deferred (some []))∈XM .exhausted:=mY (by rw[hX2];exact .head _)
 have hD:Blk W4 W7.heap.size (.deferred (some []))∧Blk W4 w7.heap.size (.deferred (some [])):=by
  obtain⟨_,_,-,-,-,-,hX⟩:=hJ4
  exact⟨hX _ mE,hX _ mF⟩
 have hlt:w7.heap.size<W7.heap.size:=hXl2 _ (by rw[hX2];exact .head _)
 have hes:A5 c.ns E1 (c.tr.gp now old)=swE c.ns c.tr (c.ps.map Em.en) old now:=by unfold swE;rw[hE1]
 rw[hes] at hJ4
 have kA:=Kp.set W4 (o':= .deferred none) hD.1 rfl rfl
 have hD2:=hD.2.kp kA (nm1 (by omega))
 have hJ5:=hJ4.put (X':=[(w7.heap.size,Obj.deferred (some []))]) kA hD.1 (by have:=h.w0;omega) trivial (by omega) (fun p hp=>by
  rw[List.mem_singleton] at hp
  subst hp
  exact Or.inr hD2)
 refine zX (Or.inl rfl) Tryz.results75 rfl hD.1 (by omega) hD.2 ⟨rfl,?_⟩
 exact hJ5.put (X':=[]) (Kp.set _ hD2 rfl rfl) hD2 (by have:=h.w0;omega) trivial (by omega) (fun p hp=>by cases hp)
end
section
open Classical in
noncomputable def ij(nb:Nbk)(h:Int)(mk:Dg):Fb→Tl→List Int→List Tx→Int×Fb×Tl×List Int
 |f,t,es,[]=>(0,f,t,es)
 |f,t,es,x::l=>if gv nb x≠0 then(gv nb x,f,t,es) else if gJ f x≠0 then(gJ f x,f,t,es) else ij nb h mk (dof f mk x) (dot t f h mk x) (doa es f mk x) l
open Classical in
noncomputable def adZ(nb:Nbk)(c:Cm)(b:Bl):Int:=
 if aU b≠0 then aU b else if(ar c.ns (aK b)).isSome then 7 else
 match ar c.ns b.par with
 |none=>24
 |some q=>if oh b q.2.x.b≠0 then oh b q.2.x.b else if(ij nb b.ht b.mkr q.2.f q.2.t [] b.txs).1≠0 then(ij nb b.ht b.mkr q.2.f q.2.t [] b.txs).1 else c.tr.addE (aK b) b.par
theorem wU{nb:Nbk}{h:Int}{mk:Dg}{f:Fb}{t:Tl}{es:List Int}:ij nb h mk f t es []=(0,f,t,es):=rfl
theorem wR{nb:Nbk}{h:Int}{mk:Dg}{f:Fb}{t:Tl}{es:List Int}{x:Tx}{l:List Tx}(hz:gv nb x≠0):(ij nb h mk f t es (x::l)).1=gv nb x:=by
 unfold ij
 rw[if_pos hz]
theorem wS{nb:Nbk}{h:Int}{mk:Dg}{f:Fb}{t:Tl}{es:List Int}{x:Tx}{l:List Tx}(hz:gv nb x=0)(hp:gJ f x≠0):(ij nb h mk f t es (x::l)).1=gJ f x:=by
 unfold ij
 rw[if_neg (fun g=>g hz),if_pos hp]
theorem zw{nb:Nbk}{h:Int}{mk:Dg}{f:Fb}{t:Tl}{es:List Int}{x:Tx}{l:List Tx}(hz:gv nb x=0)(hp:gJ f x=0):ij nb h mk f t es (x::l)=ij nb h mk (dof f mk x) (dot t f h mk x) (doa es f mk x) l:=by
 show(if gv nb x≠0 then _ else if gJ f x≠0 then _ else _)=_
 rw[if_neg (fun g=>g hz),if_neg (fun g=>g hp)]
theorem yQ{b p:Bl}(h:oh b p=0):b.ht=p.ht+1:=by
 unfold oh at h
 split at h
 ·rename_i g
  exact absurd h g
 ·split at h
  ·cases h
  ·rename_i g
   exact Classical.byContradiction (fun e=>g (Or.inr (Or.inr e)))
def ndB(bk tb:Nat)(va:Value)(y:Bm)(vn:Value):List Value:=bhp bk tb va (bkc y++[vn])
theorem K2(w:World)(bk tb:Nat)(a0 a1 a2 a3 a4 a5 a6 a7 b0 b1 b2 b3 b4 b5 b6 b7:UInt8)(h:Int)(a:Option Addr)(n c:Nat):(Instr.build 118 #[(0,bhv bk tb (.slice none 0 0)),(1,.agg #[bv a0,bv a1,bv a2,bv a3,bv a4,bv a5,bv a6,bv a7,.int .i64 h,bv b0,bv b1,bv b2,bv b3,bv b4,bv b5,bv b6,bv b7,.slice a n c])]).run Tryz.prog w=
  .ok (.agg #[.pointer (some ⟨bk,0,none⟩),.iface 74 (.pointer (some ⟨tb,0,none⟩)),.slice none 0 0,bv a0,bv a1,bv a2,bv a3,bv a4,bv a5,bv a6,bv a7,.int .i64 h,bv b0,bv b1,bv b2,bv b3,bv b4,bv b5,bv b6,bv b7,.slice a n c,.slice none 0 0]) w:=by kernel_rfl
theorem bnd(bk tb:Nat)(y:Bm)(w:World):(Instr.build 118 #[(0,bhv bk tb (.slice none 0 0)),(1,bkv y)]).run Tryz.prog w= .ok (.agg (ndB bk tb (.slice none 0 0) y (.slice none 0 0)).toArray) w:=by
 obtain⟨⟨la,ha⟩,h,⟨lb,hb⟩,a,c,xs⟩:=y
 match la,ha,lb,hb with
 |[a0,a1,a2,a3,a4,a5,a6,a7],_,[b0,b1,b2,b3,b4,b5,b6,b7],_=>exact K2 w bk tb a0 a1 a2 a3 a4 a5 a6 a7 b0 b1 b2 b3 b4 b5 b6 b7 h a xs.length c
theorem qf{w:World}{b bk tb:Nat}{va vn:Value}{y:Bm}{T:TypeId}(h:Blk w b (.cells (ndB bk tb va y vn).toArray T)):Row w b 20 [.slice y.a y.xs.length y.c]∧Row w b 21 [vn]:=by
 have e:ndB bk tb va y vn=bhc bk tb va++(bkc y++[vn]):=rfl
 have h3:=Row.of h (bhc bk tb va) [vn] (l:=bkc y) (by rw[e]) rfl
 have h6:=Row.of h (bhc bk tb va++bkc y) [] (l:=[vn]) (by rw[e,List.append_assoc,List.append_nil]) (by rw[List.length_append,aB])
 exact⟨(j7 h3).2.2.2,h6⟩
theorem NoT.nb{T:TypeId}{n b:Nat}{w:World}{S:List Nat}{cs:Array Value}(h:NoT T n w S)(hB:Blk w b (.cells cs T)):b∉S:=fun hm=>(h b hm).2 _ _ hB
theorem zS(bk tb:Nat)(va:Value)(y:Bm)(vn:Value):(ndB bk tb va y vn).toArray.toList=(bhc bk tb va++bkc y)++([vn]++[]):=by simp[ndB,bhp,bhc]
theorem xp(bk tb:Nat)(va:Value)(y:Bm)(vn:Value):(bhc bk tb va++bkc y)++([vn]++[])=ndB bk tb va y vn:=by simp[ndB,bhp,bhc]
theorem zR(bk tb:Nat)(va:Value)(y:Bm):(bhc bk tb va++bkc y).length=21:=by rw[List.length_append,aB];rfl
structure AdJ(wT:World)(b bm0:Nat)(y:Bm)(tot:Int)(N i:Nat)(bk bm tb:Nat)(m:Bk)(f:Fb)(t:Tl)(va:Value)(es:List Int)(vn:Value)(W:World):Prop where
 kp:Kp [b,bm0] wT W
 st:gr W 118 (bkc y++[vn]) b bk bm tb m t va
 bm:bm=bm0∨wT.heap.size≤bm
 bi:BkI tot (N+6*i) m f
 tn:t.n≤N+i
 oa:W.ownsRow wT.heap.size 36 1 va es.length (flt ziL es)
 el:es.length=i
 on:W.ownsRow wT.heap.size 47 8 vn i (flt dc ((y.xs.take i).map (fun x=>aN x.t)))
section
variable {wT:World} {b bm0:Nat} {y:Bm} {tot:Int} {N i:Nat} {bk bm tb:Nat} {m:Bk} {f:Fb} {t:Tl} {va:Value} {es:List Int} {vn:Value} {W W':World}
theorem AdJ.kp0(J:AdJ wT b bm0 y tot N i bk bm tb m f t va es vn W)(hk:Kp [] W W'):AdJ wT b bm0 y tot N i bk bm tb m f t va es vn W':=
 ⟨J.kp.trans hk.any,J.st.kp0 hk,J.bm,J.bi,J.tn,aI J.oa hk,J.el,aI J.on hk⟩
theorem AdJ.no(J:AdJ wT b bm0 y tot N i bk bm tb m f t va es vn W){T:TypeId}(h1:118≠T)(h2:36≠T):NoT T 0 W (b::bm::aT va):=
 NoT.cons (Nat.zero_le _) (NoT.cells J.st.blk h1) (NoT.cons (Nat.zero_le _) (J.st.book.map.noT _) (NoT.own J.oa (Nat.zero_le _) h2))
theorem AdJ.sub(J:AdJ wT b bm0 y tot N i bk bm tb m f t va es vn W):∀z∈b::bm::aT va,z∈[b,bm0]∨wT.heap.size≤z:=fun z hz=>by
 rcases List.mem_cons.1 hz with rfl|hz
 ·exact Or.inl (by simp)
 rcases List.mem_cons.1 hz with rfl|hz
 ·exact J.bm.elim (fun e=>Or.inl (by simp[e])) Or.inr
 ·exact Or.inr (bE J.oa z (ay hz))
theorem AdJ.did(J:AdJ wT b bm0 y tot N i bk bm tb m f t va es vn W)(hi:i<y.xs.length){x:Tx}(hx:x=y.xs[i].t){h:Int}{mk:Dg}(hp:gJ f x=0){bk' bm' tb':Nat}{m':Bk}{va' vn':Value}{W2 W3:World}
  (hst:gr W' 118 (bkc y++[vn]) b bk' bm' tb' m' (dot t f h mk x) va') (hbi:BkI tot (N+6*i+6) m' (dof f mk x)) (hoa:W'.ownsRow wT.heap.size 36 1 va' (doa es f mk x).length (flt ziL (doa es f mk x))) (hk:Kp (b::bm::aT va) W W') (hbm:bm'=bm∨W.heap.size≤bm')
  (hk2:Kp (aT vn) W' W2) (hon:W2.ownsRow wT.heap.size 47 8 vn' (i+1) (flt dc ((y.xs.take (i+1)).map (fun x=>aN x.t)))) (hk3:Kp [b] W2 W3) (hB:Blk W3 b (.cells (ndB bk' tb' va' y vn').toArray 118)):AdJ wT b bm0 y tot N (i+1) bk' bm' tb' m' (dof f mk x) (dot t f h mk x) va' (doa es f mk x) vn' W3:=by
 have ho':W'.ownsRow wT.heap.size 47 8 vn i (flt dc ((y.xs.take i).map (fun x=>aN x.t))):=bA J.on hk (cQ J.on (J.no (by decide) (by decide)))
 have no2:∀{T:TypeId},47≠T→NoT T 0 W' (aT vn):=fun h1=>NoT.own ho' (Nat.zero_le _) h1
 have nb2:∀{T:TypeId} {z:Nat} {cs:Array Value},47≠T→Blk W' z (.cells cs T)→z∉aT vn:=fun h1 hb hm=>(no2 h1 _ hm).2 _ _ hb
 have hst2:gr W2 118 (bkc y++[vn]) b bk' bm' tb' m' (dot t f h mk x) va':=⟨hst.blk.kp hk2 (nb2 (by decide) hst.blk),⟨hst.book.blk.kp hk2 (nb2 (by decide) hst.book.blk),hst.book.map.kp hk2 (fun hm=>iw ho' hst.book.map _ (ay hm) (List.mem_singleton.2 rfl))⟩,hst.app.kp hk2 (nb2 (by decide) hst.app)⟩
 have hoa2:=bA hoa hk2 (cQ hoa (no2 (by decide)))
 refine⟨((J.kp.st hk J.sub).st hk2 (fun z hz=>Or.inr (bE ho' z (ay hz)))).trans (hk3.mono (fun z hz=>by rw[List.mem_singleton] at hz;rw[hz];simp)),hst2.kpb va' hk3 hB (by decide) (by decide),?_,hbi.mono (by omega),by have:=J.tn;have:=Au t f h mk x;omega,bA hoa2 hk3 (bL hoa2 (by decide) hst2.blk),?_,bA hon hk3 (bL hon (by decide) hst2.blk)⟩
 ·rcases hbm with rfl|g
  ·exact J.bm
  ·exact Or.inr (Nat.le_trans J.kp.size g)
 ·unfold doa
  rw[if_pos hp,List.length_append,J.el]
  rfl
end
end
section
def Tr.JZ(t:Tr):Nat:=max 1 (t.ht t.tip+1-t.depth)
def Tr.fin(t:Tr):List Dg:=(t.line t.tip).take t.JZ
attribute [local irreducible] CG NG SG aO Der Row Blk az
end
section
theorem sR{t:Tr}(wf:t.WF){a b d:Dg}(ha:t.has a=true)(hd:d∈t.gp a b):t.has d=true:=by
 have key:∀(k:Nat) {x:Dg},t.has x=true→k≤t.ht x→∀d∈t.dy k x,t.has d=true:=by
  intro k
  induction k with
  |zero=>
   intro x hx _ d hd
   rw[Tr.dy,List.mem_singleton] at hd
   rw[hd]
   exact hx
  |succ k ih=>
   intro x hx hk d hd
   have h1:=wf.anc 1 hx (by omega)
   rcases List.mem_cons.1 hd with rfl|hd
   ·exact hx
   ·exact ih h1.1 (by have:=h1.2;show k≤t.ht (t.anc 1 x);omega) d hd
 exact key _ ha (by unfold Tr.und;omega) d (List.mem_of_mem_take hd)
theorem yu{t:Tr}(wf:t.WF){a b:Dg}(ha:t.has a=true):t.und a b≤100000:=by
 have:=wf.bound ha
 unfold Tr.und
 omega
theorem dA.nmt{w:World}{n:Nat}{A:List Nat}{tot:Int}{c:Cm}(h:dA w n A tot c):Cnd n CT A w [c.tb,c.tm]:=(Cnd.cells h.bn h.tree.blk (by decide)).cons (Cnd.map h.tn h.tree.map h.tA)
theorem dA.Da{w w':World}{n:Nat}{A:List Nat}{tot:Int}{c:Cm}{t':Tr}(h:dA w n A tot c)(hk:Kp [c.tb,c.tm] w w')(hT:bO w' c.tb c.tm t'):dA w' n A tot {c with tr:=t'}:=by
 have nb:∀{T:TypeId} {b:Nat} {cs:Array Value},T≠200→Blk w b (.cells cs T)→b∉[c.tb,c.tm]:=fun h1 hb=>nm2 (fun e=>by
  subst e
  have:=hb.uniq h.tree.blk
  simp only[Obj.cells.injEq] at this
  exact h1 this.2.1) (fun e=>cS hb h.tree.map e.symm)
 have nT:NoT 216 n w [c.tb,c.tm]:=NoT.cons h.bn (NoT.cells h.tree.blk (by decide)) (NoT.cons h.tn (h.tree.map.noT _) NoT.nil)
 have nU:NoT 5 n w [c.tb,c.tm]:=NoT.cons h.bn (NoT.cells h.tree.blk (by decide)) (NoT.cons h.tn (h.tree.map.noT _) NoT.nil)
 exact⟨h.blk.kp hk (nb (by decide) h.blk),hT,h.pool.kp hk (nb (by decide) h.pool.blk) (cQ h.pool.own nT) nU,h.map.kp hk (nm2 (fun e=>cS h.tree.blk h.map e) (fun e=>h.ne e.symm)),h.nodes hk h.nmt,h.tA,h.nA,h.ne,h.tn,h.nn,h.bn,Nat.le_trans h.w0 hk.size⟩
theorem dA.ins{w w':World}{n:Nat}{A:List Nat}{tot:Int}{c:Cm}{d:Dg}{b:Nat}{q:Nm}(h:dA w n A tot c)(hk:Kp [c.nm] w w')(hM:az w' c.nm (dv (n:=8)) ndP (cy c.ns d (b,q)))(hN:sG w' n A tot b q):dA w' n A tot {c with ns:=cy c.ns d (b,q)}:=by
 have hS:Cnd n CT A w [c.nm]:=Cnd.map h.nn h.map h.nA
 have nb:∀{T:TypeId} {z:Nat} {cs:Array Value},Blk w z (.cells cs T)→z∉[c.nm]:=fun hb=>nm1 (fun e=>cS hb h.map e.symm)
 have nT:∀T,NoT T n w [c.nm]:=fun T=>NoT.cons h.nn (h.map.noT _) NoT.nil
 have hmem:∀{m:List (Dg×Nat×Nm)} {p:Dg×Nat×Nm},p∈cy m d (b,q)→p=(d,b,q)∨p∈m:=by
  intro m
  induction m with
  |nil=>intro p hp;simp[cy] at hp;exact Or.inl hp
  |cons a m ih=>
   obtain⟨x,y⟩:=a
   intro p hp
   unfold cy at hp
   by_cases e:x=d
   ·rw[if_pos e] at hp
    rcases List.mem_cons.1 hp with hp|hp
    ·exact Or.inl (by rw[hp,e])
    ·exact Or.inr (List.mem_cons_of_mem _ hp)
   ·rw[if_neg e] at hp
    rcases List.mem_cons.1 hp with hp|hp
    ·exact Or.inr (by rw[hp];exact List.mem_cons_self)
    ·rcases ih hp with hp|hp
     ·exact Or.inl hp
     ·exact Or.inr (List.mem_cons_of_mem _ hp)
 exact⟨h.blk.kp hk (nb h.blk),h.tree.kp hk (nb h.tree.blk) (nm1 h.ne),h.pool.kp hk (nb h.pool.blk) (cQ h.pool.own (nT _)) (nT _),hM,fun p hp=>(hmem hp).elim (fun e=>by rw[e];exact hN) (fun g=>h.nodes hk hS p g),h.tA,h.nA,h.ne,h.tn,h.nn,h.bn,Nat.le_trans h.w0 hk.size⟩
def chS(c:Cm):List Nat:=c.tb::c.tm::c.nm::c.pb::aT c.pv
structure kt(c:Cm)(H:Int):Prop where
 wf:c.tr.WF
 dep:c.tr.depth≤1000
 pool:dY 256 (c.ps.map Em.en)
 has:∀d,c.tr.has d=(ar c.ns d).isSome
 nd:∀d q,ar c.ns d=some q→0≤q.2.x.ht∧q.2.x.ht≤H∧(q.2.t.n:Int)≤64*q.2.x.ht
theorem kt.get{c:Cm}{H:Int}(h:kt c H){d:Dg}(hd:c.tr.has d=true):∃q,ar c.ns d=some q:=by
 rw[h.has] at hd
 exact Option.isSome_iff_exists.1 hd
theorem kt.tip{c:Cm}{H:Int}(h:kt c H):∃q,ar c.ns c.tr.tip=some q:=h.get h.wf.tip
end
section
def D8(w:World)(n:Nat)(A:List Nat)(tot:Int)(c:Cm)(nb:Nbk)(b:Bl)(w':World):Prop:=
 ∃pv' ps' z q,dA w' n A tot {c with pv:=pv',ps:=ps',tr:=c.tr.add (aK b) b.par,ns:=cy c.ns (aK b) (z,q)}∧q.x.b=b∧(∃p,ar c.ns b.par=some p∧ij nb b.ht b.mkr p.2.f p.2.t [] b.txs=(0,q.f,q.t,q.es))∧
  ps'.map Em.en=(if(c.tr.add (aK b) b.par).tip=c.tr.tip then c.ps.map Em.en else swE (cy c.ns (aK b) (z,q)) (c.tr.add (aK b) b.par) (c.ps.map Em.en) c.tr.tip (c.tr.add (aK b) b.par).tip)∧Kp (chS c) w w'∧(∀g,pv'.ownBlock=some g→c.pv.ownBlock=some g∨w.heap.size≤g)∧(∀b off,q.x.a=some ⟨b,off,none⟩→w.heap.size≤b)
def yr(w:World)(n:Nat)(A:List Nat)(tot:Int)(c:Cm)(nb:Nbk)(b:Bl)(e:Ending)(w':World):Prop:=
 e= .returned (.int .i64 (adZ nb c b))∧(adZ nb c b≠0∧dA w' n A tot c∧Kp (chS c) w w'∨adZ nb c b=0∧D8 w n A tot c nb b w')
theorem yr.no{w:World}{n:Nat}{A:List Nat}{tot:Int}{c:Cm}{nb:Nbk}{b:Bl}{w':World}{z:Int}(h:dA w n A tot c)(hk:Kp [] w w')(hz:adZ nb c b=z)(h0:z≠0):yr w n A tot c nb b (.returned (.int .i64 z)) w':=⟨by rw[hz],Or.inl ⟨by rw[hz];exact h0,h.kp0 hk,hk.any⟩⟩
theorem oB{nb:Nbk}{c:Cm}{b:Bl}(h:aU b≠0):adZ nb c b=aU b:=by unfold adZ;rw[if_pos h]
theorem oA{nb:Nbk}{c:Cm}{b:Bl}{q:Nat×Nm}(h:aU b=0)(h1:ar c.ns (aK b)=some q):adZ nb c b=7:=by unfold adZ;rw[if_neg (fun g=>g h),h1];rfl
theorem vI{nb:Nbk}{c:Cm}{b:Bl}(h:aU b=0)(h1:ar c.ns (aK b)=none)(h2:ar c.ns b.par=none):adZ nb c b=24:=by unfold adZ;rw[if_neg (fun g=>g h),h1,h2];rfl
open Classical in
theorem vJ{nb:Nbk}{c:Cm}{b:Bl}{q:Nat×Nm}(h:aU b=0)(h1:ar c.ns (aK b)=none)(h2:ar c.ns b.par=some q):adZ nb c b=if oh b q.2.x.b≠0 then oh b q.2.x.b else if(ij nb b.ht b.mkr q.2.f q.2.t [] b.txs).1≠0 then(ij nb b.ht b.mkr q.2.f q.2.t [] b.txs).1 else c.tr.addE (aK b) b.par:=by
 unfold adZ
 rw[if_neg (fun g=>g h),h1,h2]
 rfl
attribute [local irreducible] CG NG SG aO Der Row Blk az aH aN gv dof dot doa gJ aK aU oh ij adZ orZ
theorem oo{w:World}{n:Nat}{A:List Nat}{tot:Int}{c:Cm}(h:dA w n A tot c){H:Int}(ok:kt c H)(hH:H≤500)(ht:tot≤1000000000)(hA:∀a∈A,a<w.heap.size){base pm:Nat}{v:Value}{nb:Nbk}(hN:dP w base c.vb pm v nb){x:Bm}(hx:x.In n w):
  Calls Tryz.prog 27 #[.pointer (some ⟨c.cb,0,none⟩),bkv x] w (yr w n A tot c nb x.b):=by
 refine bh Tryz.func27 rfl Tryz.ntmps27 rfl ?_
 repeat apply gst
 refine SG.box rfl rfl rfl (ag rfl) (fun b3 w1 hk1 hb3 hB3=>?_)
 have hB3:Blk w1 b3 (.cells (bkc x).toArray 50):=hB3
 obtain⟨r,-⟩:=bC hB3
 repeat (first|apply gst|(apply gsv;rfl;(first|apply qep|apply qmv|apply qas)<;>rfl))
 refine gcf rfl ?_
 repeat (first|apply gst|(apply gsv;rfl;apply qla<;>first|rfl|assumption|exact List.not_mem_nil|apply aB))
 by_cases hz:aU x.b=0
 rotate_left
 ·have eo:orZ x.b (aK x.b)= .tuple #[dv zd,.int .i64 (aU x.b)]:=by unfold orZ;rw[if_neg hz]
  have hnm:=dD (hx.kp0 hk1)
  rw[eo] at hnm
  refine SG.ret rfl rfl rfl (vs:=[bkv x]) (Evs.of rfl) hnm (fun w2 hk2=>?_)
  clear r
  repeat (apply gsv;rfl;(first|apply qmv|apply qxt)<;>rfl)
  refine SG.alloc rfl rfl rfl (fun b5 w3 hk3 hb5 hB5=>?_)
  refine SG.aG (l:=dc zd) rfl rfl (ag rfl) (ag rfl) hB5 (ah _) rfl (aR _) (fun w4 hk4 hB5=>?_)
  repeat (first|apply gst|(apply gsv;rfl;(first|apply qmv|apply qas|apply qni)<;>first|rfl|(apply dcf;first|assumption|omega)))
  refine gct rfl ?_
  repeat (first|apply gst|(apply gsv;rfl;(first|apply qmv|apply qas)<;>rfl))
  refine aS (Or.inl rfl) Tryz.results27 (aC.tmp rfl) ?_
  exact yr.no h ((hk1.trans hk2).trans (hk3.ai hk4 (bf hb5))) (oB hz) hz
 have eo:orZ x.b (aK x.b)= .tuple #[dv (aK x.b),.int .i64 0]:=by unfold orZ;rw[if_pos hz]
 have hnm:=dD (hx.kp0 hk1)
 rw[eo] at hnm
 refine SG.ret rfl rfl rfl (vs:=[bkv x]) (Evs.of rfl) hnm (fun w2 hk2=>?_)
 clear r hnm eo
 repeat (apply gsv;rfl;(first|apply qmv|apply qxt)<;>rfl)
 refine SG.alloc rfl rfl rfl (fun b5 w3 hk3 hb5 hB5=>?_)
 refine SG.aG (l:=dc (aK x.b)) rfl rfl (ag rfl) (ag rfl) hB5 (ah _) rfl (aR _) (fun w4 hk4 hB5=>?_)
 have k34:=hk3.ai hk4 (bf hb5)
 have k4:=(hk1.trans hk2).trans k34
 have hB3:=hB3.kp0 (hk2.trans k34)
 have q5:Row w4 b5 0 (dc (aK x.b)):=Row.all hB5 rfl
 have h4:=h.kp0 k4
 obtain⟨-,-,-,-,-,-,r6⟩:=cj h4
 have hM:=h4.map
 repeat (first|apply gst|(apply gsv;rfl;(first|apply qmv|apply qas|apply qni)<;>first|rfl|(apply dct;first|assumption|omega)))
 refine gcf rfl ?_
 repeat apply gst
 cases hhas:ar c.ns (aK x.b) with
 |some q0=>
  refine CG.fq mixed [0,1,2,3,4,5,6,7,8,9,10] [] (by kernel_rfl) ?_
  repeat (apply gdv;rfl;rfl;(first|apply qmv|apply qas|apply qlc|apply qla|apply qfa|apply qnc|apply qlk|apply qxt)<;>first|rfl|assumption|exact List.not_mem_nil|apply ah|exact lk1 (by assumption)|fail)
  refine Der.fin (fun w5 hk5 _ _=>?_)
  clear q5 r6 hM
  repeat (first|apply gst|(apply gsv;rfl;apply qmv<;>rfl))
  refine gct rfl ?_
  repeat (first|apply gst|(apply gsv;rfl;apply qas<;>rfl))
  refine aS (Or.inl rfl) Tryz.results27 (aC.tmp rfl) ?_
  exact yr.no h (k4.trans hk5) (oA hz hhas) (by decide)
 |none=>
 refine CG.fq mixed [0,1,2,3,4,5,6,7,8,9,10] [] (by kernel_rfl) ?_
 repeat (apply gdv;rfl;rfl;(first|apply qmv|apply qas|apply qlc|apply qla|apply qfa|apply qnc|apply qlk|apply qxt)<;>first|rfl|assumption|exact List.not_mem_nil|apply ah|exact lk0 (by assumption)|fail)
 refine Der.fin (fun w5 hk5 _ _=>?_)
 repeat (first|apply gst|(apply gsv;rfl;apply qmv<;>rfl))
 refine gcf rfl ?_
 have k5:=k4.trans hk5
 have hB3:=hB3.kp0 hk5
 obtain⟨-,r0,-⟩:=bC hB3
 have h5:=h.kp0 k5
 have hM:=h5.map
 have r6:=r6.kp0 hk5
 clear q5
 repeat apply gst
 cases hpar:ar c.ns x.par with
 |none=>
  refine CG.fq mixed [0,1,2,3,4,5,6,7,8,9,10,11] [] (by kernel_rfl) ?_
  repeat (apply gdv;rfl;rfl;(first|apply qmv|apply qas|apply qlc|apply qla|apply qfa|apply qnc|apply qlk|apply qxt)<;>first|rfl|assumption|exact List.not_mem_nil|apply ah|exact lk0 (by assumption)|fail)
  refine Der.fin (fun w6 hk6 _ _=>?_)
  clear r0 r6 hM
  repeat (first|apply gst|(apply gsv;rfl;(first|apply qmv|apply qnt)<;>rfl))
  refine gct rfl ?_
  repeat (first|apply gst|(apply gsv;rfl;apply qas<;>rfl))
  refine aS (Or.inl rfl) Tryz.results27 (aC.tmp rfl) ?_
  exact yr.no h (k5.trans hk6) (vI hz hhas hpar) (by decide)
 |some q=>
 refine CG.fq mixed [0,1,2,3,4,5,6,7,8,9,10,11] [] (by kernel_rfl) ?_
 repeat (apply gdv;rfl;rfl;(first|apply qmv|apply qas|apply qlc|apply qla|apply qfa|apply qnc|apply qlk|apply qxt)<;>first|rfl|assumption|exact List.not_mem_nil|apply ah|exact lk1 (by assumption)|fail)
 refine Der.fin (fun w6 hk6 _ _=>?_)
 clear r0 r6 hM
 have ead:=vJ (nb:=nb) hz hhas hpar
 repeat (first|apply gst|(apply gsv;rfl;(first|apply qmv|apply qnt)<;>rfl))
 refine gcf rfl ?_
 have k6:=k5.trans hk6
 have hB3:=hB3.kp0 hk6
 obtain⟨r,-⟩:=bC hB3
 have hQ:=(h.ndA hpar).kp0 k6
 obtain⟨-,-,t3,-⟩:=dI hQ.blk
 obtain⟨o1,o2,o3⟩:=ok.nd _ _ hpar
 repeat apply gst
 refine CG.tail mixed 5 [0,1,2,3,4] (by kernel_rfl) ?_
 repeat (apply gdv;rfl;rfl;(first|apply qmv|apply qla|apply qfa|apply qnc)<;>first|rfl|assumption|exact List.not_mem_nil|apply aB)
 refine Der.tl (fun w7 hk7 _ _=>?_)
 refine SG.ret rfl rfl rfl (vs:=[bkv x,bkv q.2.x]) (Evs.of rfl) (pC ((hx.kp0 k6).kp0 hk7) (hQ.kp0 hk7).x (by omega)) (fun w8 hk8=>?_)
 clear r t3
 have k8:=(k6.trans hk7).trans hk8
 by_cases hc:oh x.b q.2.x.b=0
 rotate_left
 ·rw[if_pos hc] at ead
  repeat (first|apply gst|(apply gsv;rfl;(first|apply qmv|apply qas|apply qni)<;>first|rfl|(apply dcf;first|assumption|omega)))
  refine gct rfl ?_
  repeat (first|apply gst|(apply gsv;rfl;(first|apply qmv|apply qas)<;>rfl))
  refine aS (Or.inl rfl) Tryz.results27 (aC.tmp rfl) ?_
  exact yr.no h k8 ead hc
 rw[if_neg (fun g=>g hc)] at ead
 rw[hc]
 repeat (first|apply gst|(apply gsv;rfl;(first|apply qmv|apply qas|apply qni)<;>first|rfl|(apply dct;first|assumption|omega)))
 refine gcf rfl ?_
 have hB3:=(hB3.kp0 hk7).kp0 hk8
 have hQ:=(hQ.kp0 hk7).kp0 hk8
 obtain⟨r,-⟩:=bC hB3
 obtain⟨t0,-⟩:=dI hQ.blk
 obtain⟨m,hm,hi⟩:=hQ.book
 repeat apply gst
 refine CG.dG mixed 6 [0,1,2,3,5,4] [4] [] (fun _=>True) (by kernel_rfl) trivial (fun _ _ _ _=>trivial) ?_
 repeat (apply gdv;rfl;rfl;(first|apply qmv|apply qla|apply qfa|apply qnc)<;>first|rfl|assumption|exact List.not_mem_nil|apply aB)
 refine Der.mj (X:=Nat×Nat×Nat×Bk) (vs:=[bhv q.2.bk q.2.tb (.slice q.2.ae q.2.es.length q.2.ce)]) (fun z=>bhv z.1 z.2.2.1 (.slice none 0 0)) (fun z W=>(bB W z.1 z.2.1 z.2.2.2∧z.2.2.2.Perm m∧lB W z.2.2.1 q.2.t)∧w8.heap.size≤z.1∧w8.heap.size≤z.2.1∧w8.heap.size≤z.2.2.1) rfl rfl rfl rfl (Evs.of rfl) (fun z W W' hk h=>⟨⟨h.1.1.kp0 hk,h.1.2.1,h.1.2.2.kp0 hk⟩,h.2⟩) (fun _ _ _ h=>h) (fun W hk _=>(nx (hm.kp0 hk) (hQ.app.kp0 hk)).mono (fun e W' hh=>?_)) (fun z=>?_)
 ·obtain⟨bk',bm',tb',m',rfl,hB',hp',hT',g1,g2,g3,hk'⟩:=hh
  have:=hk.size
  exact⟨(bk',bm',tb',m'),rfl,⟨⟨hB',hp',hT'⟩,Nat.le_trans this g1,Nat.le_trans this g2,Nat.le_trans this g3⟩,hk'⟩
 obtain⟨bk0,bm0,tb0,m0⟩:=z
 refine Der.tl (fun w9 hk9 hF _=>?_)
 obtain⟨-,⟨hB9,hp9,hT9⟩,g1,g2,g3⟩:=hF
 simp only at hB9 hp9 hT9 g1 g2 g3
 have k9:=k8.trans hk9
 refine SG.call rfl rfl rfl (vs:=[bkv x]) (Evs.of rfl) ((ic (hx.kp0 k9)).mono (fun e w10 hh=>?_))
 obtain⟨y,hy,rfl,hY,hk10,hyn⟩:=hh
 have hyn:∀b off,y.a=some ⟨b,off,none⟩→w.heap.size≤b:=fun b off e=>Nat.le_trans k9.size (hyn b off e)
 refine⟨_,rfl,?_⟩
 refine SG.val rfl rfl rfl rfl (au rfl (bnd bk0 tb0 y)) ?_
 clear r t0
 refine SG.box rfl rfl rfl (ag rfl) (fun b12 wT hkT hb12 hB12=>?_)
 have hB12:Blk wT b12 (.cells (ndB bk0 tb0 (.slice none 0 0) y (.slice none 0 0)).toArray 118):=hB12
 have kT:=(k9.trans hk10).trans hkT
 have k89:=(hk9.trans hk10).trans hkT
 have hY:=hY.kp0 hkT
 have hB9:=(hB9.kp0 hk10).kp0 hkT
 have hT9:=(hT9.kp0 hk10).kp0 hkT
 have l12:=hB12.lt
 have lm0:=hB9.map.lt
 have s8:=k8.size
 have s89:=k89.size
 have s910:=(hk9.trans hk10).size
 have hB3T:=hB3.kp0 k89
 have l3:=hB3.lt
 obtain⟨u20,u21⟩:=qf hB12
 have hi0:BkI tot (ndN q.2) m0 q.2.f:=hi.perm hp9
 have J0:AdJ wT b12 bm0 y tot (ndN q.2) 0 bk0 bm0 tb0 m0 q.2.f q.2.t (.slice none 0 0) [] (.slice none 0 0) wT:=
  ⟨Kp.refl _ _,⟨hB12,hB9,hT9⟩,Or.inl rfl,hi0,by unfold ndN;omega,cO,rfl,cO⟩
 have hb5:Blk wT b5 (.cells (dc (aK x.b)).toArray 47):=(hB5.kp0 ((hk5.trans hk6).trans (hk7.trans hk8))).kp0 k89
 have l5:b5<w8.heap.size:=((hB5.kp0 ((hk5.trans hk6).trans (hk7.trans hk8)))).lt
 have hyl:=hY.len
 have hyt:y.xs.map (·.t)=x.b.txs:=by rw[←hy];rfl
 repeat (first|apply gst|(apply gsv;rfl;(first|apply qmv|apply qas|apply qlc|apply qfa|apply qnc|apply qln)<;>first|rfl|assumption|exact List.not_mem_nil))
 refine CG.loop (X:=Nat×(Nat×Nat×Nat×Bk)×(Fb×Tl×List Int)×(Value×Value)) (fun z=>[(0,.pointer (some ⟨c.cb,0,none⟩)),(3,.pointer (some ⟨b3,0,none⟩)),(5,.pointer (some ⟨b5,0,none⟩)),(12,.pointer (some ⟨b12,0,none⟩)),(74,.slice y.a y.xs.length y.c),(75,.int .i64 (y.xs.length:Int)),(76,.int .i64 (z.1:Int))])
  (fun z W=>z.1≤y.xs.length∧AdJ wT b12 bm0 y tot (ndN q.2) z.1 z.2.1.1 z.2.1.2.1 z.2.1.2.2.1 z.2.1.2.2.2 z.2.2.1.1 z.2.2.1.2.1 z.2.2.2.1 z.2.2.1.2.2 z.2.2.2.2 W∧ij nb x.b.ht x.b.mkr q.2.f q.2.t [] x.b.txs=ij nb x.b.ht x.b.mkr z.2.2.1.1 z.2.2.1.2.1 z.2.2.1.2.2 ((y.xs.drop z.1).map (·.t)))
  (fun z=>y.xs.length-z.1) (0,(bk0,bm0,tb0,m0),(q.2.f,q.2.t,[]),(.slice none 0 0,.slice none 0 0)) ⟨Nat.zero_le _,J0,by rw[←hyt];rfl⟩ (aZ.of rfl) ?_
 rintro⟨i,⟨bk,bm,tb,mm⟩,⟨f,t,es⟩,⟨va,vn⟩⟩ W ⟨hi',J,hrun⟩
 simp only at hi' J hrun
 refine CG.to [(0,.pointer (some ⟨c.cb,0,none⟩)),(3,.pointer (some ⟨b3,0,none⟩)),(5,.pointer (some ⟨b5,0,none⟩)),(12,.pointer (some ⟨b12,0,none⟩)),(74,.slice y.a y.xs.length y.c),(75,.int .i64 (y.xs.length:Int)),(76,.int .i64 (i:Int))] (aZ.of rfl) ?_
 clear u20 u21 J0
 have s1:=hk1.size
 have kW:Kp [] w W:=kT.ai J.kp (fun z hz=>by
  simp only[List.mem_cons,List.mem_nil_iff,or_false] at hz
  exact Or.inr (by omega))
 have hO:Oth 0 wT [b12,bm0]:=Oth.cons (Nat.zero_le _) (Oth.cells hB12 (by decide)) (Oth.cons (Nat.zero_le _) (hB9.map.noT _) Oth.nil)
 have hNx:NoT 52 0 wT [b12,bm0]:=NoT.cons (Nat.zero_le _) (NoT.cells hB12 (by decide)) (NoT.cons (Nat.zero_le _) (hB9.map.noT _) NoT.nil)
 have hYW:y.In 0 W:=⟨hY.tx.kp J.kp hO hNx,hyl⟩
 have hB3W:=hB3T.kp J.kp (nm2 (by omega) (by omega))
 have hB5W:=hb5.kp J.kp (nm2 (by omega) (by omega))
 have sW:=J.kp.size
 have hbig:ndN q.2≤300000:=by unfold ndN;omega
 have hy64:y.xs.length≤64:=by
  have:=jF hz
  rw[←hyt,List.length_map] at this
  exact this
 by_cases hlt:i<y.xs.length
 rotate_left
 ·have ei:i=y.xs.length:=by omega
  have g1':¬(i:Int)<(y.xs.length:Int):=by omega
  rw[List.drop_eq_nil_of_le (by omega),List.map_nil,wU] at hrun
  rw[hrun,if_neg (fun g=>g rfl)] at ead
  subst ei
  have hel:=J.el
  obtain⟨ae,ce,rfl⟩:=fM J.oa
  obtain⟨an,cn,rfl⟩:=fM J.on
  obtain⟨qn,hqn⟩:∃qn:Nm,qn=⟨bk,bm,tb,f,t,ae,ce,es,y,an,cn⟩:=⟨_,rfl⟩
  have hW:=h.kp0 kW
  have hxW:=hx.kp0 kW
  have hnm:y.xs.take y.xs.length=y.xs:=List.take_of_length_le (Nat.le_refl _)
  have hbm:w.heap.size≤bm:=J.bm.elim (fun e=>by omega) (fun g=>by have:=kT.size;omega)
  have hyht:y.ht=q.2.x.ht+1:=by
   have h1:y.ht=x.b.ht:=by rw[←hy];rfl
   rw[h1]
   exact yQ hc
  have hNd:sG W n A tot b12 qn:=by
   rw[hqn]
   refine⟨J.st.blk,⟨mm,J.st.book,J.bi.mono ?_⟩,fun hm=>absurd (hA _ hm) (by show ¬bm<_;omega),Nat.le_trans h.w0 hbm,J.st.app,?_,Or.inl (Ty.own J.oa),⟨⟨hYW.tx.sl,hYW.tx.tg.elim Or.inl (fun g=>Or.inr (fun b off e=>Nat.lt_of_lt_of_le (g b off e) (Nat.zero_le _))),fun z hz=>(hYW.tx.ins z hz).mono (Nat.zero_le _)⟩,hyl⟩,?_,Or.inl ?_,hel⟩
   ·unfold ndN
    simp only
    rw[hyht]
    omega
   ·obtain⟨a,c',e,-,hs⟩:=Sl.own (enc:=ziL) (sz:=1) (fun _=>rfl) J.oa rfl
    cases e
    exact hs
   ·obtain⟨a,c',e,-,hs⟩:=Sl.own ah J.on (by rw[List.length_map,hnm])
    cases e
    rw[hnm] at hs
    exact hs
   ·exact Ty.own J.on
  have q5:Row W b5 0 (dc (aK x.b)):=Row.all hB5W rfl
  obtain⟨-,-,-,-,t3,-,-⟩:=cj hW
  repeat (first|apply gst|(apply gsv;rfl;apply qls<;>first|rfl|(apply dcf;first|assumption|omega)))
  refine gcf rfl ?_
  repeat (first|apply gst|(apply gsv;rfl;(first|apply qmv|apply qlc|apply qfa|apply qnc)<;>first|rfl|assumption|exact List.not_mem_nil))
  refine SG.ret rfl rfl rfl (vs:=[.pointer (some ⟨c.tb,0,none⟩)]) (Evs.of rfl) (gR hW.tree) (fun W1 hk1'=>?_)
  refine SG.alloc rfl rfl rfl (fun b17 W2 hk2' hb17 hB17=>?_)
  refine SG.aG (l:=dc c.tr.tip) rfl rfl (ag rfl) (ag rfl) hB17 (ah _) rfl (aR _) (fun W3 hk3' hB17=>?_)
  have kW3:=hk1'.trans (hk2'.ai hk3' (bf hb17))
  have q5:=q5.kp0 kW3
  have t3:=t3.kp0 kW3
  obtain⟨-,r0,-⟩:=bC (hB3W.kp0 kW3)
  repeat apply gst
  refine CG.tail mixed 7 [0,1,2,3,4,5,6] (by kernel_rfl) ?_
  repeat (apply gdv;rfl;rfl;(first|apply qmv|apply qlc|apply qla|apply qfa|apply qnc)<;>first|rfl|assumption|exact List.not_mem_nil|apply ah)
  refine Der.tl (fun W4 hk4' _ _=>?_)
  have kW4:=kW3.trans hk4'
  have hW4:=hW.kp0 kW4
  refine SG.call rfl rfl rfl (vs:=[.pointer (some ⟨c.tb,0,none⟩),dv (aK x.b),dv x.par]) (Evs.of rfl) ((ur hW4.tree (fun e=>cS hW4.tree.blk hW4.tree.map e.symm) ok.wf ok.dep (aK x.b) x.par).mono (fun e W5 hh=>?_))
  obtain⟨rfl,hT5,hk5'⟩:=hh
  refine⟨_,rfl,?_⟩
  have hC5:=hW4.Da hk5' hT5
  have k05:Kp (chS c) w W5:=(kW.trans kW4).any.trans (hk5'.mono (fun z hz=>by
   simp only[List.mem_cons,List.mem_nil_iff,or_false] at hz
   rcases hz with rfl|rfl
   ·exact .head _
   ·exact .tail _ (.head _)))
  clear q5 t3 r0
  by_cases hae:c.tr.addE (aK x.b) x.par=0
  rotate_left
  ·have et:c.tr.add (aK x.b) x.par=c.tr:=by unfold Tr.add;rw[if_neg hae]
   rw[et] at hC5
   repeat (first|apply gst|(apply gsv;rfl;(first|apply qmv|apply qas|apply qni)<;>first|rfl|(apply dcf;first|assumption|omega)))
   refine gct rfl ?_
   repeat (first|apply gst|(apply gsv;rfl;(first|apply qmv|apply qas)<;>rfl))
   refine aS (Or.inl rfl) Tryz.results27 (aC.tmp rfl) ?_
   exact⟨by rw[ead];rfl,Or.inl ⟨by rw[ead];exact hae,hC5,k05⟩⟩
  rw[hae]
  have eadd:c.tr.add (aK x.b) x.par=c.tr.put (aK x.b) x.par:=by unfold Tr.add;rw[if_pos hae]
  have hstep:=mv ok.wf (aK x.b) x.par
  have lt1:=h.tree.blk.lt
  have lt2:=h.tree.map.lt
  have lt3:=h.map.lt
  have l51:=hb5.lt
  have hb5w:w.heap.size≤b5:=by have:=hk2.size;omega
  have q5:Row W5 b5 0 (dc (aK x.b)):=Row.all ((hB5W.kp0 kW4).kp hk5' (nm2 (by omega) (by omega))) rfl
  have hN5:sG W5 n A tot b12 qn:=(hNd.kp0 kW4).kp hk5' hW4.nmt (fun _ hz=>hz) (by decide) ((hNd.kp0 kW4).x.pT hk5' hW4.nmt (by decide) (by decide))
  have hM5:=hC5.map
  obtain⟨-,-,-,-,-,-,r6⟩:=cj hC5
  repeat (first|apply gst|(apply gsv;rfl;(first|apply qmv|apply qas|apply qni)<;>first|rfl|(apply dct;first|assumption|omega)))
  refine gcf rfl ?_
  repeat apply gst
  refine CG.tail mixed 6 [0,1,2,3,4,5] (by kernel_rfl) ?_
  repeat (apply gdv;rfl;rfl;(first|apply qmv|apply qlc|apply qla|apply qfa|apply qnc)<;>first|rfl|assumption|exact List.not_mem_nil|apply ah)
  refine Der.tl (fun W6 hk6' _ _=>?_)
  refine SG.mapUpdate (enc:=dv (n:=8)) (V:=ndP) (kx:=aK x.b) (vy:=(b12,qn)) rfl rfl (ag rfl) (ag rfl) (ag rfl) (hM5.kp0 hk6') ku.key (fun W7 hk7' hM7=>?_)
  have hC6:=hC5.kp0 hk6'
  have hS7:Cnd n CT A W6 [c.nm]:=Cnd.map h.nn hC6.map h.nA
  have hN6:=hN5.kp0 hk6'
  have hN7:sG W7 n A tot b12 qn:=hN6.kp hk7' hS7 (fun _ hz=>hz) (by decide) (hN6.x.pT hk7' hS7 (by decide) (by decide))
  have hC7:=hC6.ins (c:={c with tr:=c.tr.add (aK x.b) x.par}) hk7' hM7 hN7
  have k07:Kp (chS c) w W7:=(k05.trans hk6'.any).trans (hk7'.mono (fun z hz=>by rw[List.mem_singleton] at hz;rw[hz];exact .tail _ (.tail _ (.head _))))
  have t3:Row W7 c.cb 12 [.pointer (some ⟨c.tb,0,none⟩)]:=(cj hC7).2.2.2.2.1
  have hT7:bO W7 c.tb c.tm (c.tr.add (aK x.b) x.par):=hC7.tree
  clear q5 r6 hM5
  repeat (first|apply gst|(apply gsv;rfl;(first|apply qmv|apply qlc|apply qfa|apply qnc)<;>first|rfl|assumption|exact List.not_mem_nil))
  refine SG.ret rfl rfl rfl (vs:=[.pointer (some ⟨c.tb,0,none⟩)]) (Evs.of rfl) (gR hT7) (fun W8 hk8'=>?_)
  refine SG.alloc rfl rfl rfl (fun b19 W9 hk9' hb19 hB19=>?_)
  refine SG.aG (l:=dc (c.tr.add (aK x.b) x.par).tip) rfl rfl (ag rfl) (ag rfl) hB19 (ah _) rfl (aR _) (fun W10 hk10' hB19=>?_)
  have k710:=hk8'.trans (hk9'.ai hk10' (bf hb19))
  have hC10:=hC7.kp0 k710
  have k10:=k07.trans k710.any
  have r19:Row W10 b19 0 (dc (c.tr.add (aK x.b) x.par).tip):=Row.all hB19 rfl
  have l17:=hB17.lt
  have s34:=hk4'.size
  have hb17w:w.heap.size≤b17:=by have:=kW.size;have:=hk1'.size;omega
  have r17:Row W10 b17 0 (dc c.tr.tip):=Row.all (((((hB17.kp0 hk4').kp hk5' (nm2 (by omega) (by omega))).kp0 hk6').kp hk7' (nm1 (by show b17≠c.nm;omega))).kp0 k710) rfl
  clear t3
  by_cases htip:(c.tr.add (aK x.b) x.par).tip=c.tr.tip
  ·repeat (first|apply gst|(apply gsv;rfl;(first|apply qla|apply qnd)<;>first|rfl|assumption|(apply dct;first|assumption|omega)|exact List.not_mem_nil|apply ah))
   refine gcf rfl ?_
   repeat (first|apply gst|(apply gsv;rfl;apply qas<;>rfl))
   refine aS (Or.inl rfl) Tryz.results27 (aC.tmp rfl) ?_
   exact⟨by rw[ead];exact hae▸rfl,Or.inr ⟨ead.trans hae,c.pv,c.ps,b12,qn,hC10,by rw[hqn];exact hy,⟨q,hpar,by rw[hqn];exact hrun⟩,(if_pos htip).symm,k10,fun g hg=>Or.inl hg,by rw[hqn];exact hyn⟩⟩
  have hty:∀{d:Dg},(c.tr.add (aK x.b) x.par).has d=true→∃z,ar (cy c.ns (aK x.b) (b12,qn)) d=some z:=fun{d} hd=>by
   rw[eadd,dH,Bool.or_eq_true] at hd
   rw[bu]
   by_cases e:aK x.b=d
   ·exact⟨_,if_pos e⟩
   ·rw[if_neg e]
    exact ok.get (hd.resolve_left (by simpa using e))
  have wf':=hstep.1
  have hold:(c.tr.add (aK x.b) x.par).has c.tr.tip=true:=hstep.2.2.2.1
  repeat (first|apply gst|(apply gsv;rfl;(first|apply qla|apply qnd)<;>first|rfl|assumption|(apply dcf;first|assumption|omega)|exact List.not_mem_nil|apply ah))
  refine gct rfl ?_
  repeat (first|apply gst|(apply gsv;rfl;(first|apply qmv|apply qla)<;>first|rfl|assumption|exact List.not_mem_nil|apply ah))
  refine SG.call rfl rfl rfl (vs:=[.pointer (some ⟨c.cb,0,none⟩),dv c.tr.tip,dv (c.tr.add (aK x.b) x.par).tip]) (Evs.of rfl) ((lI hC10 wf' ok.pool hold wf'.tip (yu wf' hold) (yu wf' wf'.tip) (fun d hd=>hty (sR wf' hold hd)) (fun d hd=>hty (sR wf' wf'.tip hd))).mono (fun e W11 hh=>?_))
  obtain⟨rfl,pv',ps',hC11,hps,hk11,hg11,-⟩:=hh
  refine⟨_,rfl,?_⟩
  clear r19 r17
  repeat (first|apply gst|(apply gsv;rfl;apply qas<;>rfl))
  refine aS (Or.inl rfl) Tryz.results27 (aC.tmp rfl) ?_
  refine⟨by rw[ead];exact hae▸rfl,Or.inr ⟨ead.trans hae,pv',ps',b12,qn,hC11,by rw[hqn];exact hy,⟨q,hpar,by rw[hqn];exact hrun⟩,hps.trans (if_neg htip).symm,k10.trans (hk11.mono (fun z hz=> .tail _ (.tail _ (.tail _ hz)))),fun g hg=>(hg11 g hg).elim Or.inl (fun e=>Or.inr (Nat.le_trans k10.size e)),by rw[hqn];exact hyn⟩⟩
 have g1':(i:Int)<(y.xs.length:Int):=by omega
 have hS:=hYW.tx.sl
 have hxi:=hYW.tx.ins _ (List.getElem_mem hlt)
 rw[List.drop_eq_getElem_cons hlt,List.map_cons] at hrun
 generalize hya:y.a=ya at*
 obtain⟨ba,off,rfl,hrow⟩:=hS.at hlt
 repeat (first|apply gst|(apply gsv;rfl;apply qls<;>first|rfl|(apply dct;first|assumption|omega)))
 refine gct rfl ?_
 repeat (first|apply gst|(apply gsv;rfl;(first|apply qla|apply qix)<;>first|rfl|(apply Ar.mk;omega)|assumption|exact List.not_mem_nil|apply aj))
 refine SG.alloc rfl rfl rfl (fun b14 W1 hk1' hb14 hB14=>?_)
 refine SG.aG (l:=txc y.xs[i]) rfl rfl (ag rfl) (ag rfl) hB14 (aj _) rfl (bD _) (fun W2 hk2' hB14=>?_)
 have kW2:=hk1'.ai hk2' (bf hb14)
 have q14:Row W2 b14 0 (txc y.xs[i]):=Row.all hB14 rfl
 obtain⟨-,-,t3,-⟩:=cj (h.kp0 (kW.trans kW2))
 clear hrow
 repeat apply gst
 refine CG.tail mixed 5 [0,1,2,3,4] (by kernel_rfl) ?_
 repeat (apply gdv;rfl;rfl;(first|apply qmv|apply qlc|apply qla|apply qfa|apply qnc)<;>first|rfl|assumption|exact List.not_mem_nil|apply aj)
 refine Der.tl (fun W3 hk3' _ _=>?_)
 have kW3:=kW2.trans hk3'
 refine SG.ret rfl rfl rfl (vs:=[txv y.xs[i],.iface 40 (.pointer (some ⟨c.vb,0,none⟩))]) (Evs.of rfl) (iP (hN.kp0 (kW.trans kW3)) (hxi.kp0 kW3)) (fun W4 hk4'=>?_)
 have kW4:=kW3.trans hk4'
 have hB14:=(hB14.kp0 hk3').kp0 hk4'
 clear q14 t3
 by_cases hv:gv nb y.xs[i].t=0
 rotate_left
 ·rw[hrun,wR hv,if_pos hv] at ead
  repeat (first|apply gst|(apply gsv;rfl;(first|apply qmv|apply qas|apply qni)<;>first|rfl|(apply dcf;first|assumption|omega)))
  refine gct rfl ?_
  repeat (first|apply gst|(apply gsv;rfl;(first|apply qmv|apply qas)<;>rfl))
  refine aS (Or.inl rfl) Tryz.results27 (aC.tmp rfl) ?_
  exact yr.no h (kW.trans kW4) ead hv
 rw[hv]
 have J4:=J.kp0 kW4
 have q14:Row W4 b14 0 (txc y.xs[i]):=Row.all hB14 rfl
 obtain⟨-,-,r1,r2,-⟩:=bC (hB3W.kp0 kW4)
 repeat (first|apply gst|(apply gsv;rfl;(first|apply qmv|apply qas|apply qni)<;>first|rfl|(apply dct;first|assumption|omega)))
 refine gcf rfl ?_
 repeat apply gst
 refine CG.tail mixed 8 [0,1,2,3,4,5,6,7] (by kernel_rfl) ?_
 repeat (apply gdv;rfl;rfl;(first|apply qmv|apply qlc|apply qla|apply qfa|apply qnc)<;>first|rfl|assumption|exact List.not_mem_nil|apply ah|apply aj)
 refine Der.tl (fun W5 hk5' _ _=>?_)
 have kW5:=kW4.trans hk5'
 have J5:=J4.kp0 hk5'
 have hel:=J.el
 have htn:=J.tn
 refine SG.call rfl rfl rfl (vs:=[.pointer (some ⟨b12,0,none⟩),.int .i64 x.ht,dv x.mkr,txv y.xs[i]]) (Evs.of rfl) ((uO (n0:=0) J5.st J5.bi ht J5.oa J5.kp.size (Nat.zero_le _) (by omega) (by decide) (by decide) (by decide) (hxi.kp0 kW5) x.ht x.mkr (by omega)).mono (fun e W6 hh=>?_))
 obtain⟨bk2,bm2,tb2,va2,m2,rfl,hst6,hbi6,hoa6,hk6',hbm6,hva6⟩:=hh
 refine⟨_,rfl,?_⟩
 clear q14 r1 r2
 by_cases hp:gJ f y.xs[i].t=0
 rotate_left
 ·rw[hrun,wS hv hp,if_pos hp] at ead
  repeat (first|apply gst|(apply gsv;rfl;(first|apply qmv|apply qas|apply qni)<;>first|rfl|(apply dcf;first|assumption|omega)))
  refine gct rfl ?_
  repeat (first|apply gst|(apply gsv;rfl;(first|apply qmv|apply qas)<;>rfl))
  refine aS (Or.inl rfl) Tryz.results27 (aC.tmp rfl) ?_
  refine yr.no h ((kW.trans kW5).ai hk6' (fun z hz=>Or.inr ?_)) ead hp
  rcases J5.sub z hz with g|g
  ·simp only[List.mem_cons,List.mem_nil_iff,or_false] at g
   omega
  ·have:=kT.size
   omega
 have hB14:Blk W6 b14 (.cells (txc y.xs[i]).toArray 52):=(hB14.kp0 hk5').kp hk6' ((J5.no (by decide) (by decide)).nb (hB14.kp0 hk5'))
 have q14:Row W6 b14 0 (txc y.xs[i]):=Row.all hB14 rfl
 have hxi6:y.xs[i].In 0 W6:=(hxi.kp0 kW5).kpO hk6' (J5.no (by decide) (by decide))
 have ho6:=bA J5.on hk6' (cQ J5.on (J5.no (by decide) (by decide)))
 obtain⟨-,u21⟩:=qf (bk:=bk2) (tb:=tb2) (va:=va2) (y:=y) (vn:=vn) hst6.blk
 have hSl:∀z∈aT vn,z<W6.heap.size:=fun z hz=>bR ho6 z (ay hz)
 have n12:b12∉aT vn:=(NoT.own ho6 (Nat.zero_le _) (by decide)).nb hst6.blk
 have n14:b14∉aT vn:=(NoT.own ho6 (Nat.zero_le _) (by decide)).nb hB14
 have s6:=hk6'.size
 have s05:=kW5.size
 rw[hp]
 repeat (first|apply gst|(apply gsv;rfl;(first|apply qmv|apply qas|apply qni)<;>first|rfl|(apply dct;first|assumption|omega)))
 refine gcf rfl ?_
 repeat apply gst
 refine CG.dG mixed 9 [0,1,2,3,4,5,6,7,8] [7,8] (aT vn) (fun W=>W.ownsRow wT.heap.size 47 8 vn i (flt dc ((y.xs.take i).map (fun x=>aN x.t)))) (by kernel_rfl) ho6 (fun _ _ hk h=>aI h hk) ?_
 repeat (apply gdv;rfl;rfl;(first|apply qmv|apply qlc|apply qla|apply qfa|apply qnc)<;>first|rfl|assumption|apply aj)
 refine Der.call rfl rfl rfl (vs:=[txv y.xs[i]]) (Evs.of rfl) (fun W hk _=>fk (hxi6.kpO hk (NoT.own ho6 (Nat.zero_le _) (by decide)))) ?_
 refine Der.iZ (cs:=(dc (aN y.xs[i].t)).toArray) (E:=47) rfl rfl rfl rfl rfl (fun W=>C1 _ W) hSl (fun W W' hk h=>trivial) (fun _ _ hk h=>aI h hk) (fun bn=>?_)
 apply Der.iJ (P:=Tryz.prog) (t:=93) (base:=wT.heap.size) (e:=47) (i:=Tryz.t47) (f:=ty.i47) (v:=vn) (nn:=i) (xs:=flt dc ((y.xs.take i).map (fun x=>aN x.t))) (b:=bn) (off:=0) (m:=1) (c:=1) (news:=dc (aN y.xs[i].t))
 iterate 4 exact rfl
 iterate 2 exact ag rfl
 iterate 3 exact rfl
 ·exact fun W hk hF=>Row.all hF.2.2 rfl
 ·rw[ah];rfl
 ·exact aR _
 ·simp only[maxLen];omega
 ·show(i+1)*8≤_;omega
 ·omega
 ·exact fun _ h=>h
 ·exact fun W W' hk hF=>⟨trivial,hF.2.1,hF.2.2.kp hk (fun hm=>by have:=hSl _ hm;have:=hF.2.1;omega)⟩
 intro v7
 refine Der.tl (fun W7 hk7' hF ho7=>?_)
 have ho7:W7.ownsRow wT.heap.size 47 8 v7 (i+1) (flt dc ((y.xs.take (i+1)).map (fun x=>aN x.t))):=by
  rw[List.map_take,take_one (fun x:Tm=>aN x.t) hlt,bU,eR,←List.map_take]
  exact ho7
 obtain⟨a7,c7,rfl⟩:=fM ho7
 have hB7:=hst6.blk.kp hk7' n12
 clear q14 u21
 repeat (apply gsv;rfl;(first|apply qfa|apply qnc)<;>rfl)
 refine SG.bG (bhc bk2 tb2 va2++bkc y) [vn] [] rfl rfl (ag rfl) (ag rfl) hB7 (zS _ _ _ _ _) rfl rfl (zR _ _ _ _) rfl (fun W8 hk8' hB8=>?_)
 have hB8:Blk W8 b12 (.cells (ndB bk2 tb2 va2 y (.slice a7 (i+1) c7)).toArray 118):=by
  rw[←xp bk2 tb2 va2 y (.slice a7 (i+1) c7)]
  exact hB8
 rw[zw hv hp] at hrun
 repeat (first|apply gst|(apply gsv;rfl;(first|apply qmv|apply qad)<;>first|rfl|(apply Ar.mk;omega)))
 refine NG.round (i+1,(bk2,bm2,tb2,m2),(dof f x.mkr y.xs[i].t,dot t f x.ht x.mkr y.xs[i].t,doa es f x.mkr y.xs[i].t),(va2,.slice a7 (i+1) c7)) (aZ.of rfl) ⟨hlt,J5.did hlt rfl hp hst6 hbi6 hoa6 hk6' hbm6 hk7' ho7 hk8' hB8,hrun⟩ (by simp only;omega)
end
section
def iB(l:List Ac):Int:=(l.map (·.money)).sum
theorem jY(e:Ac)(l:List Ac):iB (e::l)=e.money+iB l:=by simp[iB]
def ofL(l:List Ac)(k:Dg):Pu:=match l.find? (fun e=>decide (e.key=k)) with
 |some e=>⟨e.money,e.nonce⟩
 |none=>pz
theorem qe:∀{l:List Ac} {ks:List Dg} {s:Int},(∀e∈l,¬sI e)→(l.map (·.key)).Nodup→(∀e∈l,e.key∉ks)→s+iB l≤1125899906842624→iy ks s l=0
 |[],ks,s,_,_,_,h=>by
  simp only[iB,List.map_nil,List.sum_nil] at h
  simp only[iy]
  rw[if_neg (by omega)]
 |e::l,ks,s,h1,h2,h3,h4=>by
  rw[jY] at h4
  rw[List.map_cons,List.nodup_cons] at h2
  simp only[iy]
  rw[if_neg (h1 e (by simp)),if_neg (h3 e (by simp))]
  refine qe (fun x hx=>h1 x (by simp[hx])) h2.2 (fun x hx hm=>?_) (by omega)
  rcases List.mem_cons.1 hm with h|h
  ·exact h2.1 (List.mem_map.2 ⟨x,hx,h⟩)
  ·exact h3 x (by simp[hx]) h
theorem ix:∀{l:List Ac} {ks:List Dg} {s:Int},iy ks s l=0→(∀e∈l,¬sI e)∧(l.map (·.key)).Nodup∧(∀e∈l,e.key∉ks)∧s+iB l≤1125899906842624
 |[],ks,s,h=>by
  simp only[iy] at h
  refine⟨by simp,by simp,by simp,?_⟩
  simp only[iB,List.map_nil,List.sum_nil]
  split at h
  ·cases h
  ·omega
 |e::l,ks,s,h=>by
  simp only[iy] at h
  split at h
  ·cases h
  ·rename_i hb
   split at h
   ·cases h
   ·rename_i hk
    obtain⟨a1,a2,a3,a4⟩:=ix h
    refine⟨fun x hx=>?_,?_,fun x hx=>?_,by rw[jY];omega⟩
    ·rcases List.mem_cons.1 hx with rfl|hx
     ·exact hb
     ·exact a1 x hx
    ·rw[List.map_cons,List.nodup_cons]
     refine⟨fun hm=>?_,a2⟩
     obtain⟨x,hx,he⟩:=List.mem_map.1 hm
     exact a3 x hx (by rw[he];simp)
    ·rcases List.mem_cons.1 hx with rfl|hx
     ·exact hk
     ·exact fun hm=>a3 x hx (by simp[hm])
theorem p7:∀{l:List Ac} {m:Bk},(l.map (·.key)).Nodup→∀k,bal (lL m l) k=match l.find? (fun e=>decide (e.key=k)) with
  |some e=>⟨e.money,e.nonce⟩
  |none=>bal m k
 |[],m,_,k=>rfl
 |e::l,m,h,k=>by
  rw[List.map_cons,List.nodup_cons] at h
  show bal (lL (jM m e.key ⟨e.money,e.nonce⟩) l) k=_
  rw[p7 h.2 k,List.find?_cons]
  by_cases ek:e.key=k
  ·have hn:l.find? (fun x=>decide (x.key=k))=none:=by
    rw[List.find?_eq_none]
    intro x hx
    simp only[decide_eq_true_eq]
    exact fun hk=>h.1 (List.mem_map.2 ⟨x,hx,by rw[hk,ek]⟩)
   rw[hn]
   simp only[ek,decide_true]
   rw[j9,if_pos rfl]
  ·simp only[ek,decide_false]
   cases l.find? (fun x=>decide (x.key=k)) with
   |some x=>rfl
   |none=>
    simp only
    rw[j9,if_neg ek]
theorem tJ{N:Int}:∀{l:List Ac} {m:Bk} {T:Int},Ok T N m→(∀e∈l,0≤e.money∧0≤e.nonce∧e.nonce≤N)→(l.map (·.key)).Nodup→(∀e∈l,bal m e.key=pz)→Ok (T+iB l) N (lL m l)∧(lL m l).length≤m.length+l.length
 |[],m,T,h,_,_,_=>by
  simp only[iB,List.map_nil,List.sum_nil,Int.add_zero]
  exact⟨h,Nat.le_refl _⟩
 |e::l,m,T,h,h1,h2,h3=>by
  rw[List.map_cons,List.nodup_cons] at h2
  have he:=h1 e (by simp)
  have h4:=h.put (Int.le_refl N) e.key ⟨e.money,e.nonce⟩ he.1 he.2
  rw[h3 e (by simp)] at h4
  have e1:T-pz.money+e.money=T+e.money:=by simp[pz]
  simp only at h4
  rw[e1] at h4
  have h5:=tJ h4 (fun x hx=>h1 x (by simp[hx])) h2.2 (fun x hx=>by
   rw[j9,if_neg (fun hk=>h2.1 (List.mem_map.2 ⟨x,hx,hk.symm⟩))]
   exact h3 x (by simp[hx]))
  have h6:=fE m e.key ⟨e.money,e.nonce⟩
  refine⟨?_,?_⟩
  ·rw[jY,←Int.add_assoc]
   exact h5.1
  ·have:=h5.2
   show(lL (jM m e.key ⟨e.money,e.nonce⟩) l).length≤_
   simp only[List.length_cons]
   omega
theorem BL(N:Int):Ok 0 N []:=⟨by simp,by simp,by simp,by simp,rfl⟩
theorem wZ{l:List Ac}{N:Int}(h:nC l=0)(hN:∀e∈l,e.nonce≤N):Ok (iB l) N (lL [] l)∧(lL [] l).length≤l.length∧(∀k,bal (lL [] l) k=ofL l k)∧(l.map (·.key)).Nodup∧iB l≤1125899906842624∧l.length≤1024:=by
 unfold nC at h
 split at h
 ·cases h
 ·rename_i hl
  obtain⟨a1,a2,a3,a4⟩:=ix h
  have h1:=tJ (N:=N) (m:=[]) (T:=0) (BL N) (fun e he=>by
   have b:=a1 e he
   have n:=hN e he
   unfold sI at b
   omega) a2 (fun e he=>rfl)
  rw[Int.zero_add] at h1 a4
  refine⟨h1.1,by simpa using h1.2,fun k=>?_,a2,a4,by omega⟩
  rw[p7 a2 k]
  rfl
end
section
section
variable {P:Program} {S:List Nat×Nat} {w0:World} {ops:List Oper} {G:List (Nat×GD)} {K:Env→List Fact→Prop} {i:Nat} {ord:List Nat} {L:Env} {Γ:List Fact} {ty:TypeId} {pos:String} {af:Array Edge} {g:Option (Nat×Bool)}
variable {κ ν:Type} {enc:κ→Value} {V:ν→Value}
def gM(m:Nat)(enc:κ→Value)(V:ν→Value)(kx:κ):GD:=⟨Nat,0,fun b=> .map (some b),fun b w=>m≤b∧(az w b enc V []∨∃y,az w b enc V [(kx,y)])⟩
theorem Ak{m:Nat}{kx:κ}(x:(gM m enc V kx).X):cp [] ((gM m enc V kx).phi x):=fun w w' hk h=>⟨h.1,h.2.elim (fun a=>Or.inl (a.kp0 hk)) (fun⟨y,a⟩=>Or.inr ⟨y,a.kp0 hk⟩)⟩
theorem bz.xu{m d:Nat}{T:TypeId}(kx:κ)(hg:cZ G i=some (gM m enc V kx))(hm:m=w0.heap.size)(ho:ops[i]?=some ⟨some d,.makeMap T none,ty,pos,af,g⟩)(hw:want ops L ⟨some d,.makeMap T none,ty,pos,af,g⟩=some true)
  (h:∀b:Nat,bz P S w0 ops G K ord ((d,.map (some b))::L) ((i,(gM m enc V kx).phi b)::Γ)):bz P S w0 ops G K (i::ord) L Γ:=by
 refine bz.eff (gM m enc V kx) hg ho hw (by simp[Op.operands]) (fun w hk _=>?_) h
 unfold aX
 have:(execOp (rho L) ⟨some d,.makeMap T none,ty,pos,af,g⟩).run P w= .ok (.value (.map (some w.heap.size))) {w with heap:=w.heap.push (.map #[] 0)}:=by
  simp[execOp,Instr.makeMap,newObj,Sem.run,Result.andThen]
 rw[this]
 exact⟨w.heap.size,rfl,⟨by rw[hm];exact hk.size,Or.inl (az.made w enc V)⟩,Kp.push w _ rfl⟩
def gX{Y:Type}(y0:Y)(m:Nat)(T:TypeId)(cs:Y→Array Value)(psi:Y→World→Prop):GD:=⟨Nat×Y,(0,y0),fun q=> .pointer (some ⟨q.1,0,none⟩),fun q w=>(m≤q.1∧Blk w q.1 (.cells (cs q.2) T))∧psi q.2 w⟩
theorem uC{Y:Type}{y0:Y}{m:Nat}{T:TypeId}{cs:Y→Array Value}{psi:Y→World→Prop}(hs:∀y,cp [] (psi y))(x:(gX y0 m T cs psi).X):cp [] ((gX y0 m T cs psi).phi x):=fun w w' hk h=>⟨⟨h.1.1,h.1.2.kp0 hk⟩,hs _ _ _ hk h.2⟩
theorem bz.E2{Y:Type}{y0:Y}{m d:Nat}{T:TypeId}{cs:Y→Array Value}{psi:Y→World→Prop}{x:Operand}{v:Value}(y:Y)(hg:cZ G i=some (gX y0 m T cs psi))(hm:m=w0.heap.size)(ho:ops[i]?=some ⟨some d,.box T x,ty,pos,af,g⟩)(hw:want ops L ⟨some d,.box T x,ty,pos,af,g⟩=some true)(hk:known L x=true)(hx:rho L x=v)(hc:v.cells=cs y)
  (hs:∀y,cp [] (psi y)) (hp:∀w,Kp S.1 w0 w→eJ ops i Γ w→psi y w)
  (h:∀q:Nat×Y,bz P S w0 ops G K ord ((d,.pointer (some ⟨q.1,0,none⟩))::L) ((i,(gX y0 m T cs psi).phi q)::Γ)):bz P S w0 ops G K (i::ord) L Γ:=by
 refine bz.eff (gX y0 m T cs psi) hg ho hw (by simp[Op.operands,hk]) (fun w hk1 hf=>?_) h
 unfold aX
 have:(execOp (rho L) ⟨some d,.box T x,ty,pos,af,g⟩).run P w= .ok (.value (.pointer (some ⟨w.heap.size,0,none⟩))) {w with heap:=w.heap.push (.cells v.cells T)}:=by
  simp[execOp,hx,tw,Result.andThen]
 rw[this,hc]
 have hpu:=Kp.push w (.cells (cs y) T) rfl
 exact⟨(w.heap.size,y),rfl,⟨⟨by rw[hm];exact hk1.size,Blk.push w _⟩,hs _ _ _ hpu (hp w hk1 hf)⟩,hpu⟩
theorem bz.Cs{d:Nat}{t:TypeId}{v:Value}{name:String}{f:FuncId}[M:Mth P t name f][Fn:Fnc P f]{x:Operand}{args:List Operand}{vs:List Value}{tys:Array TypeId}(D:GD)(hg:cZ G i=some D)
  (ho:ops[i]?=some ⟨some d,.call ⟨.invoke x name,args.toArray,tys⟩,ty,pos,af,g⟩) (hw:want ops L ⟨some d,.call ⟨.invoke x name,args.toArray,tys⟩,ty,pos,af,g⟩=some true) (hk:(Op.call ⟨.invoke x name,args.toArray,tys⟩).operands.toList.all (known L)=true)
  (hf:rho L x= .iface t v) (he:Evs L args vs) (hc:∀w,Kp S.1 w0 w→Calls P f (v::vs).toArray w (fun e w'=>∃x,e= .returned (D.val x)∧D.phi x w'∧Kp [] w w'))
  (h:∀x,bz P S w0 ops G K ord ((d,D.val x)::L) ((i,D.phi x)::Γ)):bz P S w0 ops G K (i::ord) L Γ:=
 bz.eff D hg ho hw hk (fun w h1 _=>kY (M:=M) (Fn:=Fn) hf he ((hc w h1).mono (fun e w' ⟨x,g1,g2,g3⟩=>⟨_,g1,x,rfl,g2,g3⟩))) h
def gN(m:Nat)(enc:κ→Value)(V:ν→Value)(kx:κ)(y0:ν):GD:=⟨Nat×ν,(0,y0),fun _=>undef,fun q w=>m≤q.1∧az w q.1 enc V [(kx,q.2)]⟩
theorem Aj{m:Nat}{kx:κ}{y0:ν}(x:(gN m enc V kx y0).X):cp [] ((gN m enc V kx y0).phi x):=fun w w' hk h=>⟨h.1,h.2.kp0 hk⟩
theorem bz.Ae[DecidableEq κ]{m b:Nat}{kx:κ}{y0 vy:ν}{k T E:TypeId}[u:Ut P T (.map k E)]{a x y:Operand}(hg:cZ G i=some (gN m enc V kx y0))(hm:m=w0.heap.size)
  (ho:ops[i]?=some ⟨none,.insert T a x y,ty,pos,af,g⟩) (hw:want ops L ⟨none,.insert T a x y,ty,pos,af,g⟩=some true) (hk:(known L a&&(known L x&&known L y))=true) (hanc:Γ.all (fun p=>anc ops i p.1)=true) (ha:rho L a= .map (some b)) (hx:rho L x=enc kx) (hy:rho L y=V vy) (Kk:bV P k enc)
  (hF:∀w,eJ ops i Γ w→(gM m enc V kx).phi b w)
  (hkeep:∀j,j≠i→∀w w' x,Kp [b] w w'→(∃es c,Blk w b (.map es c))→az w' b enc V [(kx,vy)]→(bZ G j).phi x w→(bZ G j).phi x w')
  (h:bz P S w0 ops G K ord L ((i,fun w=>m≤b∧az w b enc V [(kx,vy)])::Γ)):bz P S w0 ops G K (i::ord) L Γ:=by
 refine bz.EY (gN m enc V kx y0) (b,vy) hg ho hw (by simpa[Op.operands] using hk) hanc (fun w h1 h2=>?_) h
 obtain⟨hb,hM⟩:=hF w h2
 have key:∀{l:List (κ×ν)},az w b enc V l→cy l kx vy=[(kx,vy)]→aX P (rho L) ⟨none,.insert T a x y,ty,pos,af,g⟩ w (fun v w'=>v=(gN m enc V kx y0).val (b,vy)∧(gN m enc V kx y0).phi (b,vy) w'∧(∀X,Kp X w0 w→Kp X w0 w')∧∀j y,j≠i→(bZ G j).phi y w→(bZ G j).phi y w'):=fun{l} hl he=>by
  obtain⟨o',e1,e2,e3⟩:=eO (P:=P) (u:=u) hl Kk kx vy
  rw[he] at e2
  unfold aX
  have:(execOp (rho L) ⟨none,.insert T a x y,ty,pos,af,g⟩).run P w= .ok .skip {w with heap:=w.heap.setIfInBounds b o'}:=by
   simp only[execOp,ha,hx,hy,Sem.run_bind,e1,Result.andThen,Sem.run_pure]
  rw[this]
  obtain⟨es,c,hbl,-⟩:=hl
  exact⟨rfl,⟨hb,e2⟩,fun X hX=>hX.ai e3 (bf (by rw[←hm];exact hb)),fun j y hj hp=>hkeep j hj _ _ y e3 ⟨es,c,hbl⟩ e2 hp⟩
 rcases hM with hM|⟨y,hM⟩
 ·exact key hM rfl
 ·exact key hM (by simp[cy])
end
end
section
def cF:List UInt8:=[98,97,105,122,101]
def bF:Dg:=aK (bK cF).b
def mg(b:Bd)(l:List Ac):Int:=if bdz b≠0 then bdz b else if 1000<b.fork then 2 else nC l
theorem pd:aU (bK cF).b=0:=by
 unfold aU
 simp[bK,Bm.b,fT,qV]
theorem rP:orZ (bK cF).b (aK (bK cF).b)= .tuple #[dv bF,.int .i64 0]:=by unfold orZ;rw[if_pos pd];rfl
theorem ye{b:Bd}(h:bdz b=0):0≤b.fork∧b.fork≤1024:=by
 unfold bdz at h
 split at h
 ·cases h
 ·rename_i g
  have:¬bdB b.fork:=fun h=>g (Or.inl h)
  unfold bdB at this
  omega
def gC(m:Nat)(t:Tl)(mk:Nat→Value):GD:=⟨Nat,0,mk,fun q w=>m≤q∧lB w q t⟩
theorem o9{m:Nat}{t:Tl}{mk:Nat→Value}(x:(gC m t mk).X):cp [] ((gC m t mk).phi x):=fun w w' hk h=>⟨h.1,h.2.kp0 hk⟩
theorem xo{l:List Ac}(h:nC l=0):∀e∈l,0≤e.nonce∧e.nonce≤1099511627776:=fun e he=>by
 unfold nC at h
 split at h
 ·cases h
 ·have:=(ix h).1 e he
  unfold sI at this
  omega
def yR(b:Bd)(vb tb pb:Nat)(m:Value):List Value:=bdL b++(.iface 40 (.pointer (some ⟨vb,0,none⟩))::(dc bF++[.pointer (some ⟨tb,0,none⟩),.pointer (some ⟨pb,0,none⟩),m]))
theorem Le(w:World)(vb tb pb:Nat)(a b c:Int)(d0 d1 d2 d3 d4 d5 d6 d7:UInt8):(Instr.build 127 #[(0,.agg #[.int .i64 a,.int .i64 b,.int .i64 c]),(1,.iface 40 (.pointer (some ⟨vb,0,none⟩))),(2,.agg #[bv d0,bv d1,bv d2,bv d3,bv d4,bv d5,bv d6,bv d7]),(3,.pointer (some ⟨tb,0,none⟩)),(4,.pointer (some ⟨pb,0,none⟩))]).run Tryz.prog w=
  .ok (.agg #[.int .i64 a,.int .i64 b,.int .i64 c,.iface 40 (.pointer (some ⟨vb,0,none⟩)),bv d0,bv d1,bv d2,bv d3,bv d4,bv d5,bv d6,bv d7,.pointer (some ⟨tb,0,none⟩),.pointer (some ⟨pb,0,none⟩),.map none]) w:=by kernel_rfl
theorem bch(b:Bd)(vb tb pb:Nat)(w:World):(Instr.build 127 #[(0,bdv b),(1,.iface 40 (.pointer (some ⟨vb,0,none⟩))),(2,dv bF),(3,.pointer (some ⟨tb,0,none⟩)),(4,.pointer (some ⟨pb,0,none⟩))]).run Tryz.prog w= .ok (.agg (yR b vb tb pb (.map none)).toArray) w:=by
 unfold yR
 generalize bF=d
 obtain⟨l,h⟩:=d
 match l,h with
 |[d0,d1,d2,d3,d4,d5,d6,d7],_=>exact Le w vb tb pb b.fork b.leave b.sleep d0 d1 d2 d3 d4 d5 d6 d7
def D4(n:Nat)(w:World)(b:Bd)(vb:Nat)(t:Tl)(l:List Ac)(e:Ending)(w':World):Prop:=
 ∃(c:Cm) (z:Nat) (q:Nm),e= .returned (.tuple #[.pointer (some ⟨c.cb,0,none⟩),.int .i64 0])∧(∀A0:List Nat,(∀x∈A0,x<w.heap.size)→dA w' n (c.tm::c.nm::A0) (iB l) c)∧(c.bd=b∧c.vb=vb∧c.first=bF∧c.tr=Tr.new bF b.fork.toNat∧c.ps=[]∧c.pv= .slice none 0 0)∧c.ns=[(bF,z,q)]∧q.x=bK cF∧q.f=bal (lL [] l)∧q.t=t∧q.es=[]∧w.heap.size≤c.cb∧w.heap.size≤c.tm∧w.heap.size≤c.nm
abbrev ptN(b:Nat):Value:= .pointer (some ⟨b,0,none⟩)
theorem uq{m:Nat}{t:Tl}{cs:Nat→Array Value}{T:TypeId}{w w':World}{b vy:Nat}{k:Dg}(hk:Kp [b] w w')(hb:∃es c,Blk w b (.map es c))(hm:az w' b (dv (n:=8)) ptN [(k,vy)]):
  (∀x,(gM m (dv (n:=8)) ptN k).phi x w→(gM m (dv (n:=8)) ptN k).phi x w')∧(∀mk x,(gC m t mk).phi x w→(gC m t mk).phi x w')∧(∀x,(gX 0 m T cs (fun q w=>m≤q∧lB w q t)).phi x w→(gX 0 m T cs (fun q w=>m≤q∧lB w q t)).phi x w'):=by
 obtain⟨es,c,hb⟩:=hb
 have nb:∀{z:Nat} {cs:Array Value} {T:TypeId},Blk w z (.cells cs T)→z∉[b]:=fun hz=>nm1 (fun e=>by
  subst e
  cases hz.uniq hb)
 refine⟨fun x h=>⟨h.1,?_⟩,fun _ x h=>⟨h.1,h.2.kp hk (nb h.2)⟩,fun x h=>⟨⟨h.1.1,h.1.2.kp hk (nb h.1.2)⟩,h.2.1,h.2.2.kp hk (nb h.2.2)⟩⟩
 by_cases e:x=b
 ·subst e
  exact Or.inr ⟨vy,hm⟩
 ·exact h.2.elim (fun a=>Or.inl (a.kp hk (nm1 e))) (fun⟨y,a⟩=>Or.inr ⟨y,a.kp hk (nm1 e)⟩)
theorem xt{w:World}{b z:Nat}{k:Dg}{q:Nm}(h:az w b (dv (n:=8)) ptN [(k,z)]):az w b (dv (n:=8)) ndP [(k,z,q)]:=by
 obtain⟨es,c,h1,h2,h3⟩:=h
 exact⟨es,c,h1,h2,h3⟩
theorem xZ(b:Bd)(vb tb pb:Nat)(m:Value):(yR b vb tb pb m).toArray.toList=(bdL b++(.iface 40 (.pointer (some ⟨vb,0,none⟩))::(dc bF++[.pointer (some ⟨tb,0,none⟩),.pointer (some ⟨pb,0,none⟩)])))++([m]++[]):=by simp[yR]
theorem uU(b:Bd)(vb tb pb:Nat)(m:Value):(bdL b++(.iface 40 (.pointer (some ⟨vb,0,none⟩))::(dc bF++[.pointer (some ⟨tb,0,none⟩),.pointer (some ⟨pb,0,none⟩)])))++([m]++[])=yR b vb tb pb m:=by simp[yR]
theorem xY(b:Bd)(vb tb pb:Nat):(bdL b++(Value.iface 40 (Value.pointer (some ⟨vb,0,none⟩))::(dc bF++[Value.pointer (some ⟨tb,0,none⟩),Value.pointer (some ⟨pb,0,none⟩)]))).length=14:=by simp[bdL,ah]
attribute [local irreducible] CG NG SG aO Der Row Blk az aH bz aK aU bF nC
theorem uT{n:Nat}{w:World}(hn0:n≤w.heap.size)(b:Bd){vb:Nat}{a:Option Addr}{c0:Nat}{l:List Ac}(hS:SlE w a l)(hl:l.length≤1000){ta:Nat}{t:Tl}(hT:lB w ta t):
  Calls Tryz.prog 28 #[bdv b,.iface 40 (.pointer (some ⟨vb,0,none⟩)),.slice a l.length c0,.iface 74 (.pointer (some ⟨ta,0,none⟩))] w (fun e w'=>Kp [] w w'∧
   (mg b l≠0∧e= .returned (.tuple #[.pointer none,.int .i64 (mg b l)])∨mg b l=0∧D4 n w b vb t l e w')):=by
 refine nZ Tryz.func28 rfl Tryz.ntmps28 rfl ?_
 repeat apply gst
 refine SG.box rfl rfl rfl (ag rfl) (fun b4 w1 hk1 hb4 hB4=>?_)
 have hB4:Blk w1 b4 (.cells (bdL b).toArray 31):=hB4
 have r4:Row w1 b4 0 (bdL b):=Row.all hB4 rfl
 repeat (first|apply gst|(apply gsv;rfl;(first|apply Dm|apply qmv|apply qas|apply qpk)<;>rfl))
 refine gcf rfl ?_
 repeat (first|apply gst|(apply gsv;rfl;apply qla<;>first|rfl|assumption|exact List.not_mem_nil))
 refine SG.ret rfl rfl rfl (vs:=[bdv b]) (Evs.of rfl) (sy b w1) (fun w2 hk2=>?_)
 have k2:=hk1.trans hk2
 clear r4
 by_cases hz:bdz b=0
 rotate_left
 ·have ez:mg b l=bdz b:=by unfold mg;rw[if_pos hz]
  repeat (first|apply gst|(apply gsv;rfl;(first|apply qmv|apply qas|apply qni)<;>first|rfl|(apply dcf;first|assumption|omega)))
  refine gct rfl ?_
  repeat (first|apply gst|(apply gsv;rfl;(first|apply qmv|apply qas)<;>rfl))
  refine dX (Or.inl rfl) Tryz.results28 (aC.tmp rfl) (aC.tmp rfl) ?_
  exact⟨k2,Or.inl ⟨by rw[ez];exact hz,by rw[ez]⟩⟩
 have ez1:mg b l=if 1000<b.fork then 2 else nC l:=by unfold mg;rw[if_neg (fun g=>g hz)]
 obtain⟨f0,f1⟩:=ye hz
 rw[hz]
 repeat (first|apply gst|(apply gsv;rfl;(first|apply qmv|apply qas|apply qni)<;>first|rfl|(apply dct;first|assumption|omega)))
 refine gcf rfl ?_
 repeat apply gst
 refine SG.ret rfl rfl rfl (vs:=[sv cF]) (Evs.of rfl) (rO cF (by decide) w2) (fun w3 hk3=>?_)
 refine SG.alloc rfl rfl rfl (fun b11 w4 hk4 hb11 hB11=>?_)
 refine SG.aG (l:=bkc (bK cF)) rfl rfl (ag rfl) (ag rfl) hB11 (aB _) rfl (dh _) (fun w5 hk5 hB11=>?_)
 have k5:=(k2.trans hk3).trans (hk4.ai hk5 (bf hb11))
 have r11:Row w5 b11 0 (bkc (bK cF)):=Row.all hB11 rfl
 repeat (first|apply gst|(apply gsv;rfl;apply qla<;>first|rfl|assumption|exact List.not_mem_nil))
 have hnm:=dD (nR cF 0 w5)
 rw[rP] at hnm
 refine SG.ret rfl rfl rfl (vs:=[bkv (bK cF)]) (Evs.of rfl) hnm (fun w6 hk6=>?_)
 clear r11 hnm
 repeat (apply gsv;rfl;(first|apply qmv|apply qxt)<;>rfl)
 refine SG.alloc rfl rfl rfl (fun b12 w7 hk7 hb12 hB12=>?_)
 refine SG.aG (l:=dc bF) rfl rfl (ag rfl) (ag rfl) hB12 (ah _) rfl (aR _) (fun w8 hk8 hB12=>?_)
 have k58:=hk6.trans (hk7.ai hk8 (bf hb12))
 have k8:=k5.trans k58
 have r12:Row w8 b12 0 (dc bF):=Row.all hB12 rfl
 have r4:Row w8 b4 0 [.int .i64 b.fork]:=Row.of (((hB4.kp0 hk2).kp0 (hk3.trans (hk4.ai hk5 (bf hb11)))).kp0 k58) [] [.int .i64 b.leave,.int .i64 b.sleep] rfl rfl
 repeat (first|apply gst|(apply gsv;rfl;(first|apply qmv|apply qas|apply qni)<;>first|rfl|(apply dct;first|assumption|omega)))
 refine gcf rfl ?_
 repeat (first|apply gst|(apply gsv;rfl;(first|apply qlc|apply qla|apply qfa)<;>first|rfl|assumption|exact List.not_mem_nil|apply ah))
 by_cases hf:1000<b.fork
 ·rw[if_pos hf] at ez1
  refine SG.ret rfl rfl rfl (vs:=[dv bF,.int .i64 b.fork]) (Evs.of rfl) (xF w8 bF b.fork (Or.inr hf)) (fun w9 hk9=>?_)
  clear r12 r4
  repeat (first|apply gst|(apply gsv;rfl;(first|apply qmv|apply qas|apply qni|apply qxt)<;>first|rfl|(apply dcf;first|assumption|omega)))
  refine gct rfl ?_
  repeat (first|apply gst|(apply gsv;rfl;(first|apply qmv|apply qas)<;>rfl))
  refine dX (Or.inl rfl) Tryz.results28 (aC.tmp rfl) (aC.tmp rfl) ?_
  exact⟨k8.trans hk9,Or.inl ⟨by rw[ez1];decide,by rw[ez1]⟩⟩
 rw[if_neg hf] at ez1
 have ef:b.fork=((b.fork.toNat:Nat):Int):=by omega
 have hkn:=uj w8 bF b.fork.toNat (by omega)
 rw[←ef] at hkn
 refine SG.call rfl rfl rfl (vs:=[dv bF,.int .i64 b.fork]) (Evs.of rfl) (hkn.mono (fun e w9 hh=>?_))
 obtain⟨bt,bm,rfl,hT9,hbt,hbm,hne,hk9⟩:=hh
 refine⟨_,rfl,?_⟩
 have k9:=k8.trans hk9
 clear r12 r4
 repeat (first|apply gst|(apply gsv;rfl;(first|apply qmv|apply qas|apply qni|apply qxt)<;>first|rfl|(apply dct;first|assumption|omega)))
 refine gcf rfl ?_
 repeat (first|apply gst|(apply gsv;rfl;apply qmv<;>rfl))
 refine SG.call rfl rfl rfl (vs:=[.slice a l.length c0]) (Evs.of rfl) ((sq c0 (hS.kp0 k9) (by omega)).mono (fun e w10 hh=>?_))
 obtain⟨hk10,hh⟩:=hh
 have k10:=k9.trans hk10
 rcases hh with⟨hn,rfl⟩|⟨hn,bk,bkm,rfl,hBk,hbk,hbkm⟩
 ·refine⟨_,rfl,?_⟩
  repeat (first|apply gst|(apply gsv;rfl;(first|apply qmv|apply qas|apply qni|apply qxt)<;>first|rfl|(apply dcf;first|assumption|omega)))
  refine gct rfl ?_
  repeat (first|apply gst|(apply gsv;rfl;(first|apply qmv|apply qas)<;>rfl))
  refine dX (Or.inl rfl) Tryz.results28 (aC.tmp rfl) (aC.tmp rfl) ?_
  exact⟨k10,Or.inl ⟨by rw[ez1];exact hn,by rw[ez1]⟩⟩
 refine⟨_,rfl,?_⟩
 rw[hn] at ez1
 repeat (first|apply gst|(apply gsv;rfl;(first|apply qmv|apply qas|apply qni|apply qxt)<;>first|rfl|(apply dct;first|assumption|omega)))
 refine gcf rfl ?_
 repeat apply gst
 refine SG.call rfl rfl rfl (vs:=[.int .i64 256]) (Evs.of rfl) ((xn (by omega) (by omega)).mono (fun e w11 hh=>?_))
 obtain⟨pb,rfl,hpb,hk11,hPl⟩:=hh
 refine⟨_,rfl,?_⟩
 have k11:=k10.trans hk11
 repeat (first|apply gst|(apply gsv;rfl;(first|apply qmv|apply qas|apply qni|apply qxt)<;>first|rfl|(apply dct;first|assumption|omega)))
 refine gcf rfl ?_
 have r12:Row w11 b12 0 (dc bF):=Row.all ((hB12.kp0 hk9).kp0 (hk10.trans hk11)) rfl
 have r4:Row w11 b4 0 (bdL b):=Row.all ((((hB4.kp0 hk2).kp0 (hk3.trans (hk4.ai hk5 (bf hb11)))).kp0 k58).kp0 ((hk9.trans hk10).trans hk11)) rfl
 repeat (first|apply gst|(apply gsv;rfl;(first|apply qmv|apply qla)<;>first|rfl|assumption|exact List.not_mem_nil|apply ah))
 refine SG.val rfl rfl rfl rfl (au rfl (bch b vb bt pb)) ?_
 refine SG.box rfl rfl rfl (ag rfl) (fun cb w12 hk12 hcb hBc=>?_)
 have hBc:Blk w12 cb (.cells (yR b vb bt pb (.map none)).toArray 127):=hBc
 have k12:=k11.trans hk12
 clear r12 r4
 have r12:Row w12 b12 0 (dc bF):=Row.all (((hB12.kp0 hk9).kp0 (hk10.trans hk11)).kp0 hk12) rfl
 have r11:Row w12 b11 0 (bkc (bK cF)):=Row.all ((hB11.kp0 k58).kp0 (((hk9.trans hk10).trans hk11).trans hk12)) rfl
 repeat (first|apply gst|(apply gsv;rfl;apply qas<;>rfl))
 obtain⟨N,hN⟩:∃N,N=w12.heap.size:=⟨_,rfl⟩
 refine CG.free mixed 12 [0,2,3,4,7,1,11,5,6,8,9,10] [(1,gM N (dv (n:=8)) ptN bF),(5,gC N t (fun q=> .iface 74 (.pointer (some ⟨q,0,none⟩)))),(6,gC N t (fun q=>bhv bk q (.slice none 0 0))),(8,gC N t (fun q=> .agg (ndB bk q (.slice none 0 0) (bK cF) (.slice none 0 0)).toArray)),(9,gX 0 N 118 (fun q=>(ndB bk q (.slice none 0 0) (bK cF) (.slice none 0 0)).toArray) (fun q w=>N≤q∧lB w q t)),(10,gN N (dv (n:=8)) ptN bF 0)] (by kernel_rfl) ?_ ?_
 ·intro p hp
  simp only[List.mem_cons,List.mem_nil_iff,or_false] at hp
  rcases hp with rfl|rfl|rfl|rfl|rfl|rfl
  ·exact Ak
  ·exact o9
  ·exact o9
  ·exact o9
  ·exact uC (fun y w w' hk h=>⟨h.1,h.2.kp0 hk⟩)
  ·exact Aj
 repeat (apply gxv;rfl;rfl;(first|apply qmv|apply qla)<;>first|rfl|assumption|exact List.not_mem_nil|apply ah)
 refine bz.xu bF rfl hN rfl rfl (fun nm=>?_)
 repeat (apply gxv;rfl;rfl;apply qmv<;>rfl)
 refine bz.Cs (t:=74) (v:= .pointer (some ⟨ta,0,none⟩)) (vs:=[]) _ rfl rfl rfl rfl (ag rfl) True.intro (fun W hk=>(fb ((hT.kp0 k12).kp0 hk)).mono (fun e W' hh=>?_)) (fun q5=>?_)
 ·obtain⟨b',he,hb',hT',hk'⟩:=hh
  exact⟨b',he,⟨by rw[hN];exact Nat.le_trans hk.size hb',hT'⟩,hk'⟩
 refine bz.D9 (gC N t (fun q=>bhv bk q (.slice none 0 0))) q5 rfl rfl rfl rfl (au rfl (bbh bk q5)) rfl (fun W hk hF=>hF _ (.head _) (by kernel_rfl)) (fun q6=>?_)
 refine bz.D9 (gC N t (fun q=> .agg (ndB bk q (.slice none 0 0) (bK cF) (.slice none 0 0)).toArray)) q6 rfl rfl rfl rfl (au rfl (bnd bk q6 (bK cF))) rfl (fun W hk hF=>hF _ (.head _) (by kernel_rfl)) (fun q8=>?_)
 refine bz.E2 (Y:=Nat) q8 rfl hN rfl rfl rfl rfl rfl (fun y W W' hk h=>⟨h.1,h.2.kp0 hk⟩) (fun W hk hF=>hF _ (.head _) (by kernel_rfl)) (fun q9=>?_)
 obtain⟨z,tb⟩:=q9
 refine bz.Ae (V:=ptN) (vy:=z) (b:=nm) rfl hN rfl rfl rfl (by kernel_rfl) (ag rfl) (ag rfl) (ag rfl) ku.key (fun W hF=>hF _ (.tail _ (.tail _ (.tail _ (.tail _ (.head _))))) (by kernel_rfl)) ?_ ?_
 ·refine nL (q:=fun D=>∀w w' x,Kp [nm] w w'→(∃es c,Blk w nm (.map es c))→az w' nm (dv (n:=8)) ptN [(bF,z)]→D.phi x w→D.phi x w') (fun _ _ _ _ _ _ h=>h) (fun p hp hne W W' x hk hb hm h=>?_)
  simp only[List.mem_cons,List.mem_nil_iff,or_false] at hp
  rcases hp with rfl|rfl|rfl|rfl|rfl|rfl
  ·exact(uq (t:=t) (cs:=fun _=> #[]) (T:=0) hk hb hm).1 x h
  ·exact(uq (m:=N) (t:=t) (cs:=fun _=> #[]) (T:=0) hk hb hm).2.1 _ x h
  ·exact(uq (m:=N) (t:=t) (cs:=fun _=> #[]) (T:=0) hk hb hm).2.1 _ x h
  ·exact(uq (m:=N) (t:=t) (cs:=fun _=> #[]) (T:=0) hk hb hm).2.1 _ x h
  ·exact(uq (m:=N) (t:=t) hk hb hm).2.2 x h
  ·exact absurd rfl hne
 refine bz.tl (fun w13 hk13 hF=>?_)
 have h1:=hF _ (.head _)
 have h2:=hF _ (.tail _ (.head _))
 simp only at h1 h2
 have h1:N≤nm∧az w13 nm (dv (n:=8)) ptN [(bF,z)]:=h1
 have h2:(N≤z∧Blk w13 z (.cells (ndB bk tb (.slice none 0 0) (bK cF) (.slice none 0 0)).toArray 118))∧N≤tb∧lB w13 tb t:=h2
 have k13:=k12.trans hk13
 clear r12 r11
 repeat (apply gsv;rfl;(first|apply qfa|apply qnc)<;>rfl)
 refine SG.bG (bdL b++(.iface 40 (.pointer (some ⟨vb,0,none⟩))::(dc bF++[.pointer (some ⟨bt,0,none⟩),.pointer (some ⟨pb,0,none⟩)]))) [.map none] [] rfl rfl (ag rfl) (ag rfl) (hBc.kp0 hk13) (xZ _ _ _ _ _) rfl rfl (xY _ _ _ _) rfl (fun w14 hk14 hBc14=>?_)
 have hBc14:Blk w14 cb (.cells (yR b vb bt pb (.map (some nm))).toArray 127):=by
  rw[←uU b vb bt pb (.map (some nm))]
  exact hBc14
 repeat (first|apply gst|(apply gsv;rfl;(first|apply qmv|apply qas)<;>rfl))
 refine dX (Or.inl rfl) Tryz.results28 (aC.tmp rfl) (aC.tmp rfl) ?_
 have s1:=k11.size
 have lcb:=hBc.lt
 have hcbw:w.heap.size≤cb:=Nat.le_trans k11.size hcb
 refine⟨k13.ai hk14 (bf hcbw),Or.inr ⟨ez1,?_⟩⟩
 have sk9:=k8.size
 have sk10:=k9.size
 have sk11:=k10.size
 have hSc:Cnd n [127] [] w13 [cb]:=Cnd.cells (Nat.le_trans hn0 hcbw) (hBc.kp0 hk13) (by decide)
 have k9':=((hk10.trans hk11).trans hk12).trans hk13
 obtain⟨b1,b2,b3,b4⟩:=wZ (N:=1099511627776) hn (fun e he=>(xo hn e he).2)
 have lbm:=hT9.map.lt
 have lbk:=hBk.map.lt
 have lnm:=h1.2.lt
 have t1:=((hk10.trans hk11).trans hk12).size
 have t2:=(hk11.trans hk12).size
 have t3:=h1.1
 have t4:=hk9.size
 refine⟨⟨cb,bt,bm,pb,nm,vb,.slice none 0 0,b,bF,Tr.new bF b.fork.toNat,[],[(bF,z,⟨bk,bkm,tb,bal (lL [] l),t,none,0,[],bK cF,none,0⟩)]⟩,z,⟨bk,bkm,tb,bal (lL [] l),t,none,0,[],bK cF,none,0⟩,rfl,fun A0 hA0=>?_,⟨rfl,rfl,rfl,rfl,rfl,rfl⟩,rfl,rfl,rfl,rfl,rfl,hcbw,by show w.heap.size≤bm;omega,by show w.heap.size≤nm;omega⟩
 have hT14:bO w14 bt bm (Tr.new bF b.fork.toNat):=⟨hSc.blk hk14 (hT9.kp0 k9').blk (by decide),hSc.zU hk14 (hT9.kp0 k9').map List.not_mem_nil⟩
 have hP13:=(hPl n (by omega)).kp0 (hk12.trans hk13)
 have hBk13:=hBk.kp0 ((hk11.trans hk12).trans hk13)
 have h0:∀{α:Type} {T:TypeId},Tg T n w14 none ([]:List α):=Or.inl (fun h=>absurd rfl h)
 refine⟨hBc14,hT14,hP13.kp hk14 (hSc.no hP13.blk (by show _∉_;decide)) (fun _ hg=>by cases hg) (hSc.not (by decide)),xt (hSc.zU hk14 h1.2 List.not_mem_nil),fun p hp=>?_,.head _,.tail _ (.head _),by show bm≠nm;omega,by show n≤bm;omega,by show n≤nm;omega,by show n≤bt;omega,by have:=k13.size;have:=hk14.size;omega⟩
 rw[List.mem_singleton] at hp
 subst hp
 refine⟨hSc.blk hk14 h2.1.2 (by decide),⟨lL [] l,⟨hSc.blk hk14 hBk13.blk (by decide),hSc.zU hk14 hBk13.map List.not_mem_nil⟩,⟨b1,?_,rfl⟩⟩,fun hm=>?_,by show n≤bkm;omega,hSc.blk hk14 h2.2.2 (by decide),Sl.nil,h0,nR _ _ _,Sl.nil,h0,rfl⟩
 ·show _≤1000+400*_
  omega
 ·have hm:bkm∈bm::nm::A0:=hm
  rcases List.mem_cons.1 hm with e|hm
  ·omega
  rcases List.mem_cons.1 hm with e|hm
  ·omega
  ·have:=hA0 _ hm
   omega
end
section
section
variable {P:Program} {S:List Nat} {w0:World} {F:World→Prop} {L:Env} {d:Option Nat} {ty:TypeId} {pos:String} {af:Array Edge} {g:Option (Nat×Bool)}
theorem qr8{T T':TypeId}[u:Ut P T (.int .u8)]{x:Operand}{k:Int}{b:UInt8}(hx:ro L x=some (bv b))(h:Ar (0<k∧k<256)):aO P S w0 F L ⟨d,.binOp .rem T x (.const (.int .u8 k)) T',ty,pos,af,g⟩ (bv (b%UInt8.ofNat k.toNat)):=fun w _ _=>by
 obtain⟨h1,h2⟩:=h.h
 have hb:k≠0:=by omega
 have hc:rho L (.const (.int .u8 k))= .int .u8 k:=rfl
 have hk:(UInt8.ofNat k.toNat).toNat=k.toNat:=by
  rw[UInt8.toNat_ofNat']
  exact Nat.mod_eq_of_lt (by omega)
 have e:((b.toNat:Int).tmod k)=((b%UInt8.ofNat k.toNat).toNat:Int):=by
  rw[UInt8.toNat_mod,hk,Int.tmod_eq_emod_of_nonneg (by omega),Int.natCast_emod,Int.toNat_of_nonneg (by omega)]
 simp only[execOp,ag hx,hc,eqGuard,binOp,Op.intDiv,if_neg hb,Sem.run_bind,Sem.run_pure,Result.andThen,e];rfl
theorem qa8{T T':TypeId}[u:Ut P T (.int .u8)]{x:Operand}{k:Int}{b:UInt8}(hx:ro L x=some (bv b))(h:Ar (0≤k∧k<256)):aO P S w0 F L ⟨d,.binOp .add T (.const (.int .u8 k)) x T',ty,pos,af,g⟩ (bv (UInt8.ofNat k.toNat+b)):=fun w _ _=>by
 obtain⟨h1,h2⟩:=h.h
 have hc:rho L (.const (.int .u8 k))= .int .u8 k:=rfl
 have hk:(UInt8.ofNat k.toNat).toNat=k.toNat:=by
  rw[UInt8.toNat_ofNat']
  exact Nat.mod_eq_of_lt (by omega)
 have e:IntKind.wrap .u8 (k+(b.toNat:Int))=((UInt8.ofNat k.toNat+b).toNat:Int):=by
  rw[UInt8.toNat_add,hk]
  simp only[IntKind.wrap,IntKind.signed,IntKind.bits]
  simp
  omega
 simp only[execOp,ag hx,hc,eqGuard,binOp,Op.intArith,Sem.run_bind,Sem.run_pure,Result.andThen,e];rfl
theorem q16{T T':TypeId}[u:Ut P T (.int .u16)][u':Ut P T' (.int .i64)]{x:Operand}{a:Int}(hx:ro L x=some (.int .u16 a))(h:Ar (0≤a∧a<65536)):aO P S w0 F L ⟨d,.convert T T' x,ty,pos,af,g⟩ (.int .i64 a):=by
 have e:IntKind.wrap .i64 a=a:=by
  have:=h.h
  simp only[IntKind.wrap,IntKind.signed,IntKind.bits]
  simp
  omega
 have:=qcv (P:=P) (S:=S) (w0:=w0) (F:=F) (L:=L) (d:=d) (ty:=ty) (pos:=pos) (af:=af) (g:=g) (u:=u) (u':=u') hx
 rw[e] at this
 exact this
theorem qi8{T T':TypeId}[u:Ut P T (.int .i64)][u':Ut P T' (.int .u8)]{x:Operand}{a:Int}(hx:ro L x=some (.int .i64 a))(h:Ar (0≤a∧a<256)):aO P S w0 F L ⟨d,.convert T T' x,ty,pos,af,g⟩ (bv (UInt8.ofNat a.toNat)):=by
 have e:IntKind.wrap .u8 a=((UInt8.ofNat a.toNat).toNat:Int):=by
  have:=h.h
  rw[UInt8.toNat_ofNat']
  simp only[IntKind.wrap,IntKind.signed,IntKind.bits]
  simp
  omega
 have:=qcv (P:=P) (S:=S) (w0:=w0) (F:=F) (L:=L) (d:=d) (ty:=ty) (pos:=pos) (af:=af) (g:=g) (u:=u) (u':=u') hx
 rw[e] at this
 exact this
end
end
section
def d1(b:UInt8):Dg:=⟨[b,0,0,0,0,0,0,0],rfl⟩
theorem bd1(b:UInt8)(w:World):(Instr.build 47 #[(0,bv b)]).run Tryz.prog w= .ok (dv (d1 b)) w:=by kernel_rfl
def bdU(f l s:UInt8):Bd:=⟨(f.toNat:Int)%6,(l.toNat:Int)%6,(s.toNat:Int)%6⟩
theorem bbd(f l s:Int)(w:World):(Instr.build 31 #[(0,.int .i64 f),(1,.int .i64 l),(2,.int .i64 s)]).run Tryz.prog w= .ok (bdv ⟨f,l,s⟩) w:=by kernel_rfl
theorem CE(f l s:UInt8):bdz (bdU f l s)=0∧0≤(bdU f l s).fork∧(bdU f l s).fork<6:=by
 have h1:=f.toNat_lt
 unfold bdz bdB bdU
 refine⟨if_neg ?_,?_,?_⟩<;>simp only<;>omega
def u4c(l:List Nat):List Value:=[.int .u16 ((l.getD 0 0:Nat):Int),.int .u16 ((l.getD 1 0:Nat):Int),.int .u16 ((l.getD 2 0:Nat):Int),.int .u16 ((l.getD 3 0:Nat):Int)]
def u4v(l:List Nat):Value:= .agg (u4c l).toArray
theorem Bf(l:List Nat){j:Nat}(h:j<4):(u4c l)[j]?=some (.int .u16 ((l.getD j 0:Nat):Int)):=by
 match j,h with
 |0,_=>rfl
 |1,_=>rfl
 |2,_=>rfl
 |3,_=>rfl
def acU(l:List Nat)(n:Nat):List Ac:=(List.range n).map (fun j=>⟨d1 (UInt8.ofNat (j+1)),((l.getD j 0:Nat):Int),0⟩)
theorem my(l:List Nat)(n:Nat):acU l (n+1)=acU l n++[⟨d1 (UInt8.ofNat (n+1)),((l.getD n 0:Nat):Int),0⟩]:=by simp[acU,List.range_succ]
theorem gn(l:List Nat)(n:Nat):(acU l n).length=n:=by simp[acU]
theorem DV(w:World)(a0 a1 a2 a3 a4 a5 a6 a7:UInt8)(x:Int):(Instr.build 59 #[(0,.agg #[bv a0,bv a1,bv a2,bv a3,bv a4,bv a5,bv a6,bv a7]),(1,.int .i64 x)]).run Tryz.prog w= .ok (.agg #[bv a0,bv a1,bv a2,bv a3,bv a4,bv a5,bv a6,bv a7,.int .i64 x,.int .i64 0]) w:=by kernel_rfl
theorem Li(d:Dg)(x:Int)(w:World):(Instr.build 59 #[(0,dv d),(1,.int .i64 x)]).run Tryz.prog w= .ok (acv ⟨d,x,0⟩) w:=by
 obtain⟨l,h⟩:=d
 match l,h with
 |[a0,a1,a2,a3,a4,a5,a6,a7],_=>exact DV w a0 a1 a2 a3 a4 a5 a6 a7 x
theorem U4.lt{l:List Nat}(hb:∀x∈l,x<65536)(j:Nat):l.getD j 0<65536:=by
 rw[List.getD_eq_getElem?_getD]
 cases h:l[j]? with
 |none=>simp
 |some x=>exact hb x (List.mem_of_getElem? h)
attribute [local irreducible] CG NG SG aO Der Row Blk az aH
theorem py(f l s:UInt8)(w:World):Ret Tryz.prog 13 #[bv f,bv l,bv s] w (bdv (bdU f l s)):=by
 refine c9 Tryz.func13 rfl Tryz.ntmps13 rfl ?_
 repeat apply gst
 refine SG.alloc rfl rfl rfl (fun b6 w1 hk1 hb6 hB6=>?_)
 repeat (first|apply gst|(apply gsv;rfl;(first|apply qb3|apply qri|apply qmv)<;>first|rfl|(apply Ar.mk;omega)))
 refine SG.val rfl rfl rfl rfl (au rfl (bbd _ _ _)) ?_
 refine SG.aG (l:=bdL (bdU f l s)) rfl rfl (ag rfl) (ag rfl) hB6 rfl rfl rfl (fun w2 hk2 hB2=>?_)
 have hr:Row w2 b6 0 (bdL (bdU f l s)):=Row.all hB2 rfl
 repeat apply gst
 refine aS (Or.inl rfl) Tryz.results13 (aC.agg rfl rfl hr rfl) ?_
 exact⟨rfl,hk1.ai hk2 (bf hb6)⟩
theorem mw(w:World)(l:List Nat)(hb:∀x∈l,x<65536):oC Tryz.prog 59 acl 10 29 #[u4v l] w (acU l 4):=by
 refine aQ Tryz.func29 rfl Tryz.ntmps29 rfl ?_
 repeat apply gst
 refine SG.box rfl rfl rfl (ag rfl) (fun b1 w1 hk1 hb1 hB1=>?_)
 have hB1:Blk w1 b1 (.cells (u4c l).toArray 24):=hB1
 have r1:Row w1 b1 0 (u4c l):=Row.all hB1 rfl
 have hlen:(u4c l).length=4:=rfl
 repeat (first|apply gst|(apply gsv;rfl;(first|apply qmv|apply qas|apply qla)<;>first|rfl|assumption|exact List.not_mem_nil))
 refine CG.loop (X:=Nat×Value) (fun q=>[(3,q.2),(6,.agg (u4c l).toArray),(7,.int .i64 (q.1:Int))])
  (fun q w'=>q.1≤4∧Kp [] w w'∧w'.ownsRow w.heap.size 59 10 q.2 q.1 (flt acl (acU l q.1)))
  (fun q=>4-q.1) (0,.slice none 0 0) ⟨by omega,hk1,cO⟩ (aZ.of rfl) ?_
 rintro⟨i,v⟩ w3 ⟨hi,k3,ho3⟩
 simp only at hi ho3
 refine CG.to [(3,v),(6,.agg (u4c l).toArray),(7,.int .i64 (i:Int))] (aZ.of rfl) ?_
 clear r1
 by_cases hlt:i<4
 ·have g1:(i:Int)<4:=by omega
  have hat:=Bf l hlt
  have hu:=U4.lt hb i
  generalize hx:l.getD i 0=x at*
  repeat (first|apply gst|(apply gsv;rfl;apply qls<;>first|rfl|(apply dct;first|assumption|omega)))
  refine gct rfl ?_
  repeat (first|apply gst|(apply gsv;rfl;(first|apply qid|apply qi8|apply qmv|apply qas|apply qad)<;>first|rfl|(apply Ar.mk;omega)|assumption))
  have ei:(UInt8.ofNat ((i:Int)+1).toNat)=UInt8.ofNat (i+1):=by congr 1
  rw[ei]
  refine SG.val rfl rfl rfl rfl (au rfl (bd1 _)) ?_
  repeat (apply gsv;rfl;(first|apply q16|apply qmv)<;>first|rfl|(apply Ar.mk;omega))
  refine SG.val rfl rfl rfl rfl (au rfl (Li _ _)) ?_
  refine SG.buildSlice rfl rfl rfl rfl (E0 _) (fun b7 w7 hk7 hb7 hB7=>?_)
  have s3:=k3.size
  have s7:=hk7.size
  have ho7:=xi (gn l i).symm (aI ho3 hk7)
  refine SG.ou (enc:=acl) (xs:=acU l i) (ys:=[⟨d1 (UInt8.ofNat (i+1)),(x:Int),0⟩]) (base:=w.heap.size) rfl rfl rfl (ag rfl) (ag rfl) rfl rfl rfl rfl aF fA ho7 (fL (enc:=acl) (sz:=10) aF hB7) (by rw[gn];simp only[maxLen,List.length_singleton];omega) (by rw[gn];show(i+1)*24≤_;omega) (by omega) (fun v8 w8 hk8 ho8 hv8=>?_)
  rw[←hx,←my,gn] at ho8
  repeat (first|apply gst|(apply gsv;rfl;(first|apply qmv|apply qas|apply qad)<;>first|rfl|(apply Ar.mk;omega)))
  refine NG.round (i+1,v8) (aZ.of rfl) ⟨hlt,(k3.trans hk7).ai hk8 (cP ho7 (Nat.le_refl _)),ho8⟩ (by simp only;omega)
 ·have g1:¬(i:Int)<4:=by omega
  have e4:i=4:=by omega
  subst e4
  repeat (first|apply gst|(apply gsv;rfl;apply qls<;>first|rfl|(apply dcf;first|assumption|omega)))
  refine gcf rfl ?_
  repeat (first|apply gst|(apply gsv;rfl;(first|apply qmv|apply qas)<;>rfl))
  refine aS (Or.inl rfl) Tryz.results29 (aC.tmp rfl) ?_
  exact⟨v,rfl,by rw[gn];exact ho3,k3⟩
end
section
structure Wl where
 c:Cm
 nb:Nbk
 vN:Value
 pm:Nat
 vs:Value
 ss:List Tm
 vb:Value
 bs:List Bm
def wlc(q:Wl):List Value:=[.pointer (some ⟨q.c.cb,0,none⟩),.pointer (some ⟨q.c.vb,0,none⟩),q.vs,q.vb]
structure iL(w:World)(n:Nat)(tot:Int)(bw:Nat)(q:Wl):Prop where
 blk:Blk w bw (.cells (wlc q).toArray 44)
 ch:dA w n [q.c.tm,q.c.nm,q.pm] tot q.c
 nb:dP w n q.c.vb q.pm q.vN q.nb
 sg:w.ownsRow n 52 13 q.vs q.ss.length (flt txc q.ss)
 si:∀x∈q.ss,x.In n w
 bl:w.ownsRow n 50 18 q.vb q.bs.length (flt bkc q.bs)
 bi:∀x∈q.bs,x.In n w
 sn:∀p∈q.c.ns,p.2.2.x.xs≠[]→∀b off,p.2.2.x.a=some ⟨b,off,none⟩→b∉aT q.vs
 sb:∀x∈q.bs,x.xs≠[]→∀b off,x.a=some ⟨b,off,none⟩→b∉aT q.vs
 pn:q.pm≠q.c.tm∧q.pm≠q.c.nm
 bn:n≤bw
theorem iL.kp0{w w':World}{n:Nat}{tot:Int}{bw:Nat}{q:Wl}(h:iL w n tot bw q)(hk:Kp [] w w'):iL w' n tot bw q:=
 ⟨h.blk.kp0 hk,h.ch.kp0 hk,h.nb.kp0 hk,aI h.sg hk,fun x hx=>(h.si x hx).kp0 hk,aI h.bl hk,fun x hx=>(h.bi x hx).kp0 hk,h.sn,h.sb,h.pn,h.bn⟩
theorem cu{w:World}{bw:Nat}{q:Wl}(h:Blk w bw (.cells (wlc q).toArray 44)):Row w bw 0 [.pointer (some ⟨q.c.cb,0,none⟩)]∧Row w bw 1 [.pointer (some ⟨q.c.vb,0,none⟩)]∧Row w bw 2 [q.vs]∧Row w bw 3 [q.vb]:=
 ⟨Row.of h [] [.pointer (some ⟨q.c.vb,0,none⟩),q.vs,q.vb] rfl rfl,Row.of h [.pointer (some ⟨q.c.cb,0,none⟩)] [q.vs,q.vb] rfl rfl,Row.of h [.pointer (some ⟨q.c.cb,0,none⟩),.pointer (some ⟨q.c.vb,0,none⟩)] [q.vb] rfl rfl,Row.of h [.pointer (some ⟨q.c.cb,0,none⟩),.pointer (some ⟨q.c.vb,0,none⟩),q.vs] [] rfl rfl⟩
theorem zf{l:List Nat}(hb:∀x∈l,x<65536):nC (acU l 4)=0∧0≤iB (acU l 4)∧iB (acU l 4)≤300000:=by
 have h0:=U4.lt hb 0
 have h1:=U4.lt hb 1
 have h2:=U4.lt hb 2
 have h3:=U4.lt hb 3
 have e:acU l 4=[⟨d1 1,((l.getD 0 0:Nat):Int),0⟩,⟨d1 2,((l.getD 1 0:Nat):Int),0⟩,⟨d1 3,((l.getD 2 0:Nat):Int),0⟩,⟨d1 4,((l.getD 3 0:Nat):Int),0⟩]:=rfl
 have es:iB (acU l 4)=((l.getD 0 0:Nat):Int)+(((l.getD 1 0:Nat):Int)+(((l.getD 2 0:Nat):Int)+(((l.getD 3 0:Nat):Int)+0))):=by
  rw[e]
  simp[iB]
 have hm:∀x∈acU l 4,¬sI x:=fun x hx=>by
  rw[e] at hx
  simp only[List.mem_cons,List.mem_nil_iff,or_false] at hx
  unfold sI
  rcases hx with rfl|rfl|rfl|rfl<;>simp only<;>omega
 refine⟨?_,by omega,by omega⟩
 unfold nC
 rw[gn,if_neg (by omega)]
 exact qe hm (by rw[e];show[d1 1,d1 2,d1 3,d1 4].Nodup;decide) (fun _ _ h=>by cases h) (by omega)
def JN:Nm:=⟨0,0,0,fun _=>pz,⟨0,zd⟩,none,0,[],bm0,none,0⟩
def KL:Cm:=⟨0,0,0,0,0,0,undef,⟨0,0,0⟩,zd,Tr.new zd 0,[],[]⟩
def gCh(n:Nat)(b:Bd)(vb pm:Nat)(l:List Ac)(t:Tl):GD:=⟨Cm×Nat×Nm,(KL,0,JN),fun x=> .tuple #[.pointer (some ⟨x.1.cb,0,none⟩),.int .i64 0],fun x w=>dA w n [x.1.tm,x.1.nm,pm] (iB l) x.1∧((x.1.bd=b∧x.1.vb=vb∧x.1.first=bF∧x.1.tr=Tr.new bF b.fork.toNat∧x.1.ps=[]∧x.1.pv= .slice none 0 0)∧x.1.ns=[(bF,x.2.1,x.2.2)]∧x.2.2.x=bK cF∧x.2.2.f=bal (lL [] l)∧x.2.2.t=t∧x.2.2.es=[])∧pm≠x.1.tm∧pm≠x.1.nm⟩
theorem xM{n:Nat}{b:Bd}{vb pm:Nat}{l:List Ac}{t:Tl}(x:(gCh n b vb pm l t).X):cp [] ((gCh n b vb pm l t).phi x):=fun w w' hk h=>⟨h.1.kp0 hk,h.2⟩
structure D6(b:Bd)(l:List Nat)(q:Wl)(y:Bm):Prop where
 bd:q.c.bd=b
 fst:q.c.first=bF
 tr:q.c.tr=Tr.new bF b.fork.toNat
 ps:q.c.ps=[]
 ns:∃z m,q.c.ns=[(bF,z,m)]∧m.x=bK cF∧m.f=bal (lL [] (acU l 4))∧m.t=⟨0,zd⟩∧m.es=[]
 nb:q.nb=[]
 ss:q.ss=[]
 bs:q.bs=[y]
 y:y.b=(bK cF).b
def t00:Tl:=⟨0,zd⟩
theorem KS(w:World):(Instr.build 76 #[]).run Tryz.prog w= .ok (.agg (tlc t00).toArray) w:=by kernel_rfl
theorem bwl(w:World)(cb vb:Nat)(a:Option Addr)(m cc:Nat):(Instr.build 44 #[(0,.pointer (some ⟨cb,0,none⟩)),(1,.pointer (some ⟨vb,0,none⟩)),(3,.slice a m cc)]).run Tryz.prog w= .ok (.agg #[.pointer (some ⟨cb,0,none⟩),.pointer (some ⟨vb,0,none⟩),.slice none 0 0,.slice a m cc]) w:=by kernel_rfl
theorem Lf(w:World)(a0 a1 a2 a3 a4 a5 a6 a7 b0 b1 b2 b3 b4 b5 b6 b7:UInt8)(h:Int)(a:Option Addr)(n c:Nat):(Instr.buildSlice 42 1 #[(0,.agg #[bv a0,bv a1,bv a2,bv a3,bv a4,bv a5,bv a6,bv a7,.int .i64 h,bv b0,bv b1,bv b2,bv b3,bv b4,bv b5,bv b6,bv b7,.slice a n c])]).run Tryz.prog w=
  .ok (.slice (some ⟨w.heap.size,0,none⟩) 1 1) {w with heap:=w.heap.push (.cells #[bv a0,bv a1,bv a2,bv a3,bv a4,bv a5,bv a6,bv a7,.int .i64 h,bv b0,bv b1,bv b2,bv b3,bv b4,bv b5,bv b6,bv b7,.slice a n c] 50)}:=by kernel_rfl
theorem bbl(y:Bm)(w:World):(Instr.buildSlice 42 1 #[(0,bkv y)]).run Tryz.prog w= .ok (.slice (some ⟨w.heap.size,0,none⟩) 1 1) {w with heap:=w.heap.push (.cells (bkc y).toArray 50)}:=by
 obtain⟨⟨la,ha⟩,h,⟨lb,hb⟩,a,c,xs⟩:=y
 match la,ha,lb,hb with
 |[a0,a1,a2,a3,a4,a5,a6,a7],_,[b0,b1,b2,b3,b4,b5,b6,b7],_=>exact Lf w a0 a1 a2 a3 a4 a5 a6 a7 b0 b1 b2 b3 b4 b5 b6 b7 h a xs.length c
attribute [local irreducible] CG NG SG aO Der Row Blk az aH bz nC bF
theorem jQ(w:World){b:Bd}(hb:bdz b=0)(hf:b.fork≤1000){l:List Nat}(hl:∀x∈l,x<65536):Calls Tryz.prog 12 #[bdv b,u4v l] w (fun e w'=>Kp [] w w'∧∃bw q y,e= .returned (.pointer (some ⟨bw,0,none⟩))∧iL w' w.heap.size (iB (acU l 4)) bw q∧D6 b l q y):=by
 refine bh Tryz.func12 rfl Tryz.ntmps12 rfl ?_
 obtain⟨hz,he0,he1⟩:=zf hl
 repeat apply gst
 refine SG.box rfl rfl rfl (ag rfl) (fun b2 w1 hk1 hb2 hB2=>?_)
 have hB2:Blk w1 b2 (.cells (bdL b).toArray 31):=hB2
 refine SG.box rfl rfl rfl (ag rfl) (fun b3 w2 hk2 hb3 hB3=>?_)
 have hB3:Blk w2 b3 (.cells (u4c l).toArray 24):=hB3
 have k2:=hk1.trans hk2
 repeat (first|apply gst|(apply gsv;rfl;apply qas<;>rfl))
 refine SG.call rfl rfl rfl (vs:=[]) True.intro ((ny w2).mono (fun e w3 hh=>?_))
 obtain⟨bb,pm,rfl,hN,hne,hk3⟩:=hh
 refine⟨_,rfl,?_⟩
 have k3:=k2.trans hk3
 repeat (first|apply gst|(apply gsv;rfl;(first|apply qep|apply qmv|apply qas)<;>rfl))
 refine gcf rfl ?_
 have r2:Row w3 b2 0 (bdL b):=Row.all ((hB2.kp0 hk2).kp0 hk3) rfl
 have r3:Row w3 b3 0 (u4c l):=Row.all (hB3.kp0 hk3) rfl
 have hu4:(u4c l).length=4:=rfl
 have hb3l:(bdL b).length=3:=rfl
 obtain⟨N,hNe⟩:∃N,N=w3.heap.size:=⟨_,rfl⟩
 repeat apply gst
 refine CG.free mixed 13 [0,1,2,3,5,6,7,4,8,9,10,11,12] [(6,gX () N 76 (fun _=>(tlc t00).toArray) (fun _ _=>True)),(4,gS N acl 10 (acU l 4)),(8,gCh w.heap.size b bb pm (acU l 4) t00)] (by kernel_rfl) ?_ ?_
 ·intro p hp
  simp only[List.mem_cons,List.mem_nil_iff,or_false] at hp
  rcases hp with rfl|rfl|rfl
  ·exact uC (fun _ _ _ _ h=>h)
  ·exact Ai
  ·exact xM
 repeat (apply gxv;rfl;rfl;(first|apply CV|apply qmv|apply qla)<;>first|rfl|assumption|exact List.not_mem_nil)
 refine bz.val rfl rfl rfl rfl (au rfl KS) ?_
 refine bz.E2 (Y:=Unit) () rfl hNe rfl rfl rfl rfl rfl (fun _ _ _ _ h=>h) (fun _ _ _=>trivial) (fun q6=>?_)
 repeat (apply gxv;rfl;rfl;apply CV<;>rfl)
 refine bz.AB (acU l 4) rfl rfl rfl rfl (vs:=[u4v l]) (Evs.of rfl) (Nat.le_of_eq hNe) (fun W hk _=>(mw W l hl).toS aF) (fun a4 c4=>?_)
 refine bz.uY (vs:=[bdv b,.iface 40 (.pointer (some ⟨bb,0,none⟩)),.slice a4 (acU l 4).length c4,.iface 74 (.pointer (some ⟨q6.1,0,none⟩))]) (gCh w.heap.size b bb pm (acU l 4) t00) rfl rfl rfl rfl (Evs.of rfl) (fun W hk hF=>?_) (fun x=>?_)
 ·have h4:=hF _ (.head _) (by kernel_rfl)
  have h6:=hF _ (.tail _ (.head _)) (by kernel_rfl)
  have s3:=k3.size
  have sW:=hk.size
  refine(uT (n:=w.heap.size) (by omega) b h4.sl (by rw[gn];omega) h6.1.2).mono (fun e W' hh=>?_)
  obtain⟨hkW,hh⟩:=hh
  have hcz:mg b (acU l 4)=0:=by
   unfold mg
   rw[if_neg (fun g=>g hb),if_neg (by omega),hz]
  rcases hh with⟨g,-⟩|⟨-,c,z,m,he,hC,hP,hns,hx,hf',ht,hes,-,g1,g2⟩
  ·exact absurd hcz g
  ·have lpm:=hN.map.lt
   have hC:=hC [pm] (fun x hx=>by rw[List.mem_singleton] at hx;omega)
   exact⟨(c,z,m),he,⟨hC,⟨hP,hns,hx,hf',ht,hes⟩,by show pm≠c.tm;omega,by show pm≠c.nm;omega⟩,hkW⟩
 obtain⟨c,z,m⟩:=x
 repeat (apply gxv;rfl;rfl;(first|apply qmv|apply qas|apply qxt)<;>rfl)
 refine bz.tl (fun w4 hk4 hF=>?_)
 have hC:=hF _ (.head _)
 obtain⟨hC,⟨⟨p1,p2,p3,p4,p5,p6⟩,hns,hx,hf',ht,hes⟩,hp1,hp2⟩:=hC
 simp only at hC p1 p2 p3 p4 p5 p6 hns hx hf' ht hes hp1 hp2
 clear r2 r3
 have k4:=k3.trans hk4
 have hq:ar c.ns c.tr.tip=some (z,m):=by
  rw[hns,p4]
  show(if bF=bF then some (z,m) else none)=_
  rw[if_pos rfl]
 repeat (first|apply gst|(apply gsv;rfl;(first|apply qep|apply qmv|apply qas|apply qpk|apply qni)<;>first|rfl|(apply dct;first|assumption|omega)))
 refine gcf rfl ?_
 repeat (first|apply gst|(apply gsv;rfl;apply qmv<;>rfl))
 refine SG.call rfl rfl rfl (vs:=[.pointer (some ⟨c.cb,0,none⟩)]) (Evs.of rfl) ((uS hC hq).mono (fun e w5 hh=>?_))
 obtain⟨y,hy,rfl,hY,hk5⟩:=hh
 refine⟨_,rfl,?_⟩
 refine SG.buildSlice rfl rfl rfl rfl (bbl y) (fun b33 w6 hk6 hb33 hB33=>?_)
 refine SG.val rfl rfl rfl rfl (au rfl (fun W=>bwl W c.cb bb (some ⟨b33,0,none⟩) 1 1)) ?_
 refine SG.box rfl rfl rfl (ag rfl) (fun bw w7 hk7 hbw hBw=>?_)
 have hBw:Blk w7 bw (.cells #[.pointer (some ⟨c.cb,0,none⟩),.pointer (some ⟨bb,0,none⟩),.slice none 0 0,.slice (some ⟨b33,0,none⟩) 1 1] 44):=hBw
 repeat (first|apply gst|(apply gsv;rfl;apply qas<;>rfl))
 refine aS (Or.inl rfl) Tryz.results12 (aC.tmp rfl) ?_
 have k5:=k4.trans hk5
 have k67:=hk6.trans hk7
 have k7:=k5.trans k67
 have s2:=k2.size
 have s5:=k5.size
 have hN7:dP w7 w.heap.size bb pm (.slice none 0 0) []:=⟨(hN.blk.kp0 hk4).kp0 (hk5.trans k67),bW (aI hN.own (hk4.trans (hk5.trans k67))) s2,(hN.map.kp0 hk4).kp0 (hk5.trans k67),Nat.le_trans s2 hN.bp,Nat.le_trans s2 hN.pp⟩
 have ho7:w7.ownsRow w.heap.size 50 18 (.slice (some ⟨b33,0,none⟩) 1 1) [y].length (flt bkc [y]):=by
  have h:=hB33.kp0 hk7
  exact xj aB (l:=[y]) (by rw[eR];exact h) (by omega) rfl (by simp[maxLen])
 refine⟨k7,bw,⟨c,[],.slice none 0 0,pm,.slice none 0 0,[],.slice (some ⟨b33,0,none⟩) 1 1,[y]⟩,y,rfl,?_,⟨p1,p3,p4,p5,⟨z,m,hns,hx,hf',ht,hes⟩,rfl,rfl,rfl,?_⟩⟩
 ·refine⟨?_,hC.kp0 (hk5.trans k67),?_,cO,fun x h=>(by cases h),ho7,fun x h=>?_,fun _ _ _ _ _ _ h=>(by cases h),fun _ _ _ _ _ _ h=>(by cases h),⟨hp1,hp2⟩,Nat.le_trans s5 (Nat.le_trans hk6.size hbw)⟩
  ·have e:wlc ⟨c,[],.slice none 0 0,pm,.slice none 0 0,[],.slice (some ⟨b33,0,none⟩) 1 1,[y]⟩=[.pointer (some ⟨c.cb,0,none⟩),.pointer (some ⟨c.vb,0,none⟩),.slice none 0 0,.slice (some ⟨b33,0,none⟩) 1 1]:=rfl
   rw[e,p2]
   exact hBw
  ·show dP w7 w.heap.size c.vb pm (.slice none 0 0) []
   rw[p2]
   exact hN7
  ·rw[List.mem_singleton] at h
   subst h
   exact(hY.kp0 k67).mono (Nat.zero_le _)
 ·rw[hy]
  show m.x.b=_
  rw[hx]
end
section
section
variable {P:Program} {n:Nat} {ops:List Oper} {Q:Exit→Act→World→Prop} {S:List Nat×Nat} {w0:World} {L:Env} {G:List (Nat×GD)} {K:Env→List Fact→Prop} {Γ:List Fact} {i:Nat} {ord:List Nat} {ty:TypeId} {pos:String} {af:Array Edge} {g:Option (Nat×Bool)}
theorem bz.pU{m b:Nat}{T:TypeId}{inf:TypeInfo}[f:Inf P T inf]{a x:Operand}{l:List Value}(hg:cZ G i=some (gP m T))
  (ho:ops[i]?=some ⟨none,.store T a x,ty,pos,af,g⟩) (hw:want ops L ⟨none,.store T a x,ty,pos,af,g⟩=some true) (hk:(known L a&&known L x)=true) (ha:Γ.all (fun p=>anc ops i p.1)=true)
  (hpa:rho L a= .pointer (some ⟨b,0,none⟩)) (hx:rho L x= .agg l.toArray) (hn:l.length=inf.size) (hm:w0.heap.size≤m)
  (hF:∀w,Kp S.1 w0 w→eJ ops i Γ w→(m≤b∧∃cs,Blk w b (.cells cs T)∧cs.size=inf.size)∧aW l=true)
  (hkeep:∀p∈G,p.1≠i→∀y w w' cs,m≤b→Blk w b (.cells cs T)→cs.size=inf.size→Kp [b] w w'→Blk w' b (.cells l.toArray T)→p.2.phi y w→p.2.phi y w')
  (h:bz P S w0 ops G K ord L ((i,fun w=>m≤b∧Blk w b (.cells l.toArray T))::Γ)):bz P S w0 ops G K (i::ord) L Γ:=by
 refine bz.EY (gP m T) (b,l.toArray) hg ho hw (by simpa[Op.operands] using hk) ha (fun w h1 h2=>?_) h
 obtain⟨⟨g1,cs,g2,g3⟩,hone⟩:=hF w h1 h2
 unfold aX
 have hsp:(spl cs.toList 0 (Value.agg l.toArray).cells.toList)=l:=by
  simp only[Value.cells]
  exact te (by simp;omega)
 have hrun:(execOp (rho L) ⟨none,.store T a x,ty,pos,af,g⟩).run P w= .ok .skip {w with heap:=w.heap.setIfInBounds b (.cells l.toArray T)}:=by
  have:=db (P:=P) (f:=f) (off:=0) (v:= .agg l.toArray) g2 (by simpa[Value.cells] using hn) (by simp[Value.cells];omega) (by simpa[Value.cells] using hone)
  rw[hsp] at this
  simp only[execOp,hx,hpa,Sem.run_bind,this,Result.andThen,Sem.run_pure]
 rw[hrun]
 have hk':=Kp.set w (o':= .cells l.toArray T) g2 rfl rfl
 exact⟨rfl,⟨g1,g2.set _⟩,fun X hX=>hX.ai hk' (bf (by omega)),fun j y hj hp=>nL (q:=fun D=>∀y,D.phi y w→D.phi y _) (fun _ _=>trivial) (fun p hp hne y hy=>hkeep p hp hne y w _ cs g1 g2 g3 hk' (g2.set _) hy) j hj y hp⟩
end
section
variable {P:Program} {S:List Nat} {w0:World} {F:World→Prop} {L:Env} {d:Option Nat} {ty:TypeId} {pos:String} {af:Array Edge} {g:Option (Nat×Bool)}
end
end
section
structure Ax where
 dO:UInt8
 who:UInt8
 non:Int
 fee:Int
 kind:Int
 ba:Option Addr
 bc:Nat
 body:List UInt8
 bad:Bool
 wh:UInt8
 la:Option Addr
 lc:Nat
 lv:List UInt8
def axc(a:Ax):List Value:=[bv a.dO,bv a.who,.int .i64 a.non,.int .i64 a.fee,.int .i64 a.kind,.slice a.ba a.body.length a.bc,.bool a.bad,bv a.wh,.slice a.la a.lv.length a.lc]
def axv(a:Ax):Value:= .agg (axc a).toArray
structure Ax.In(a:Ax)(n:Nat)(w:World):Prop where
 b:Bs w a.ba a.bc a.body
 bn:a.body≠[]→∀b off,a.ba=some ⟨b,off,none⟩→b<n
 l:Bs w a.la a.lc a.lv
 ln:a.lv≠[]→∀b off,a.la=some ⟨b,off,none⟩→b<n
 lb:a.body.length≤a.bc
 ll:a.lv.length≤a.lc
 l2:a.lv.length≤10000000
theorem Ax.In.kp0{a:Ax}{n:Nat}{w w':World}(h:a.In n w)(hk:Kp [] w w'):a.In n w':=⟨h.b.kp0 hk,h.bn,h.l.kp0 hk,h.ln,h.lb,h.ll,h.l2⟩
theorem dN{w:World}{b:Nat}{a:Ax}{T:TypeId}(h:Blk w b (.cells (axc a).toArray T)):Row w b 0 (axc a)∧Row w b 0 [bv a.dO]∧Row w b 1 [bv a.who]∧Row w b 2 [.int .i64 a.non]∧Row w b 3 [.int .i64 a.fee]∧Row w b 4 [.int .i64 a.kind]∧Row w b 5 [.slice a.ba a.body.length a.bc]∧Row w b 6 [.bool a.bad]∧Row w b 7 [bv a.wh]∧Row w b 8 [.slice a.la a.lv.length a.lc]:=by
 have h0:Row w b 0 (axc a):=Row.all h rfl
 have p:∀(pre l post:List Value),axc a=pre++(l++post)→Row w b pre.length l:=fun pre l post e=>by
  have:=h0.part pre l post e
  rwa [Nat.zero_add] at this
 exact⟨h0,p [] [bv a.dO] _ rfl,p [bv a.dO] [bv a.who] _ rfl,p [bv a.dO,bv a.who] [.int .i64 a.non] _ rfl,p [bv a.dO,bv a.who,.int .i64 a.non] [.int .i64 a.fee] _ rfl,p [bv a.dO,bv a.who,.int .i64 a.non,.int .i64 a.fee] [.int .i64 a.kind] _ rfl,p [bv a.dO,bv a.who,.int .i64 a.non,.int .i64 a.fee,.int .i64 a.kind] [.slice a.ba a.body.length a.bc] _ rfl,p [bv a.dO,bv a.who,.int .i64 a.non,.int .i64 a.fee,.int .i64 a.kind,.slice a.ba a.body.length a.bc] [.bool a.bad] _ rfl,p [bv a.dO,bv a.who,.int .i64 a.non,.int .i64 a.fee,.int .i64 a.kind,.slice a.ba a.body.length a.bc,.bool a.bad] [bv a.wh] _ rfl,p [bv a.dO,bv a.who,.int .i64 a.non,.int .i64 a.fee,.int .i64 a.kind,.slice a.ba a.body.length a.bc,.bool a.bad,bv a.wh] [.slice a.la a.lv.length a.lc] [] rfl⟩
def gSg(t:Tx)(z:Int)(n0 base bb pm:Nat)(v:Value)(nb:Nbk):GD:=⟨Tm×Value,(tm0,undef),fun x=> .tuple #[txv x.1,.int .i64 z],fun x w=>((x.1.t=t∧(x.1.t.body≠[]→∀b off,x.1.a1=some ⟨b,off,none⟩→b∉aT x.1.s))∧∀g,x.2.ownBlock=some g→v.ownBlock=some g∨n0≤g)∧x.1.In 0 w∧dP w base bb pm x.2 nb∧w.ownsRow n0 5 1 x.1.s x.1.t.sig.length (flt by1 x.1.t.sig)⟩
theorem qo{t:Tx}{z:Int}{n0 base bb pm:Nat}{v:Value}{nb:Nbk}(x:(gSg t z n0 base bb pm v nb).X):cp [] ((gSg t z n0 base bb pm v nb).phi x):=fun w w' hk h=>⟨h.1,h.2.1.kp0 hk,h.2.2.1.kp0 hk,aI h.2.2.2 hk⟩
theorem qp{t:Tx}{z:Int}{n0 base bb pm b:Nat}{v:Value}{nb:Nbk}{w w':World}{cs:Array Value}(hB:Blk w b (.cells cs 52))(hk:Kp [b] w w')(x:(gSg t z n0 base bb pm v nb).X)(h:(gSg t z n0 base bb pm v nb).phi x w):(gSg t z n0 base bb pm v nb).phi x w':=⟨h.1,h.2.1.kpO hk (vK hB (by decide)),h.2.2.1.kpb hk hB (by decide) (by decide),cG h.2.2.2 hk (bL h.2.2.2 (by decide) hB)⟩
theorem Cb{m k:Nat}{T:TypeId}{S:List Nat}{w w':World}(hS:∀x∈S,x<m)(hk:Kp S w w')(x:(gV m T k).X)(h:(gV m T k).phi x w):(gV m T k).phi x w':=by
 obtain⟨h1,cs,h2,h3⟩:=h
 exact⟨h1,cs,h2.kp hk (fun hm=>by have:=hS _ hm;omega),h3⟩
theorem Cc{m:Nat}{T:TypeId}{S:List Nat}{w w':World}(hS:∀x∈S,x<m)(hk:Kp S w w')(x:(gP m T).X)(h:(gP m T).phi x w):(gP m T).phi x w':=⟨h.1,h.2.kp hk (fun hm=>by have h1:=hS _ hm;have h2:m≤x.1:=h.1;omega)⟩
theorem Bs.take{w:World}{a:Option Addr}{c:Nat}{l:List UInt8}(h:Bs w a c l)(j:Nat):Bs w a c (l.take j):=by
 refine⟨h.sl.take j,Nat.le_trans (List.length_take_le' j l) h.len,?_,fun hn b off e=>h.lt (fun h0=>hn (by rw[h0,List.take_nil])) b off e⟩
 rcases h.some with⟨rfl,h2⟩|h2|⟨rfl,h2⟩
 ·exact Or.inl ⟨List.take_nil,h2⟩
 ·exact Or.inr (Or.inl h2)
 ·exact Or.inr (Or.inr ⟨List.take_nil,h2⟩)
def qI(m m':Nbk):Prop:=∀t,gv m t=0→gv m' t=0
theorem qI.refl(m:Nbk):qI m m:=fun _ h=>h
theorem lA{κ ν:Type}[DecidableEq κ]{k:κ}{v:ν}:∀{m l:List (κ×ν)},ar m k=some v→ar (m++l) k=some v
 |(x,y)::m,l,h=>by
  have h:(if x=k then some y else ar m k)=some v:=h
  show(if x=k then some y else ar (m++l) k)=some v
  by_cases e:x=k
  ·rw[if_pos e] at h⊢
   exact h
  ·rw[if_neg e] at h⊢
   exact lA h
theorem wN(m:Nbk)(k d:Dg):qI m (fc m k d):=fun t h=>by
 unfold fc
 cases hk:ar m (k,d) with
 |some _=>exact h
 |none=>
  show gv (if 65536≤m.length then m else m++[((k,d),m.length)]) t=0
  by_cases h6:65536≤m.length
  ·rw[if_pos h6];exact h
  ·rw[if_neg h6]
   unfold gv at h⊢
   by_cases hw:aP t≠0
   ·rw[if_pos hw] at h⊢;exact h
   ·rw[if_neg hw] at h⊢
    by_cases hv:oJ m t.frm (dp t) t.sig=true
    ·rw[if_pos]
     unfold oJ at hv⊢
     cases ha:ar m (t.frm,dp t) with
     |none=>rw[ha] at hv;simp at hv
     |some i=>rw[ha] at hv;rw[lA ha];exact hv
    ·rw[if_neg hv] at h;cases h
theorem Bt(m:Nbk)(t:Tx)(k:Dg):qI m (sgn m t k).2.2:=by
 unfold sgn
 by_cases h:aP (mB t k)≠0
 ·rw[if_pos h]
  exact qI.refl m
 ·rw[if_neg h]
  cases fe m k (dp (mB t k)) with
  |none=>exact qI.refl m
  |some i=>exact wN _ _ _
def Lm(w:World)(n bb pm:Nat)(v:Value)(m:Nbk)(e:Ending)(w':World):Prop:=
 ∃(y:Tm) (v':Value) (nb':Nbk),e= .returned (txv y)∧y.In n w'∧dP w' n bb pm v' nb'∧Kp (bb::pm::aT v) w w'∧(∀g,v'.ownBlock=some g→v.ownBlock=some g∨w.heap.size≤g)∧(nb'.length≤m.length+1∧qI m nb')
theorem KQ(w:World)(a b c:Int)(p:Option Addr)(m cc:Nat):(Instr.build 52 #[(1,.int .i64 a),(2,.int .i64 b),(3,.int .i64 c),(4,.slice p m cc)]).run Tryz.prog w= .ok (.agg (dc zd++[Value.int .i64 a,Value.int .i64 b,Value.int .i64 c,Value.slice p m cc,Value.slice none 0 0]).toArray) w:=by kernel_rfl
theorem dP.nin{w:World}{base bb pm b:Nat}{v:Value}{m:Nbk}{cs:Array Value}{T:TypeId}(h:dP w base bb pm v m)(hB:Blk w b (.cells cs T))(h1:T≠162)(h2:T≠341):b∉bb::pm::aT v:=fun hm=>by
 rcases List.mem_cons.1 hm with rfl|hm
 ·have:=Blk.uniq hB h.blk
  simp only[Obj.cells.injEq] at this
  exact h1 this.2.1
 rcases List.mem_cons.1 hm with rfl|hm
 ·exact cS hB h.map rfl
 ·exact bL h.own h2 hB _ (ay hm) (List.mem_singleton.2 rfl)
theorem dP.JM{w:World}{base bb pm:Nat}{v:Value}{m:Nbk}(h:dP w base bb pm v m):Oth base w (bb::pm::aT v):=by
 refine Oth.cons h.bp (Oth.cells h.blk (by decide)) (Oth.cons h.pp (fun cs f e=>?_) (Oth.own h.own (Nat.le_refl _) (by decide)))
 obtain⟨es,c,h1,-⟩:=h.map
 have:=Blk.uniq h1 e
 cases this
theorem BH{w:World}{base base' n n' sz sz':Nat}{T T':TypeId}{v v':Value}{xs xs':List Value}(h:w.ownsRow base T sz v n xs)(h':w.ownsRow base' T' sz' v' n' xs')(hT:T≠T'):∀b,v.ownBlock=some b→b∉aT v':=fun b hb hm=>by
 rcases h.2 with⟨rfl,_⟩|⟨g,cap,cur,rfl,_,hg,_⟩
 ·cases hb
 ·cases hb
  exact bL h' hT hg _ (ay hm) (List.mem_singleton.2 rfl)
theorem dP.kpU{w w':World}{base bb pm base' n' sz':Nat}{v v':Value}{m:Nbk}{T:TypeId}{xs':List Value}(h:dP w base bb pm v m)(ho:w.ownsRow base' T sz' v' n' xs')(hT:T≠162)(hT2:T≠341)(hk:Kp (aT v') w w'):dP w' base bb pm v m:=
 ⟨h.blk.kp hk (fun hm=>bL ho (fun e=>hT e.symm) h.blk _ (ay hm) (List.mem_singleton.2 rfl)),cG h.own hk (BH h.own ho (fun e=>hT2 e.symm)),h.map.kp hk (oY ho h.map),h.bp,h.pp⟩
theorem zt(m:Nbk)(t:Tx)(k:Dg):(sgn m t k).2.1.sig.length≤2:=by
 unfold sgn
 by_cases h:aP (mB t k)≠0
 ·rw[if_pos h]
  show[].length≤2
  decide
 ·rw[if_neg h]
  cases fe m k (dp (mB t k)) with
  |none=>show[].length≤2;decide
  |some i=>show(kl i).length≤2;simp[kl]
theorem tq(m:Nbk)(k d:Dg):(fc m k d).length≤m.length+1:=by
 unfold fc
 cases ar m (k,d) with
 |some _=>exact Nat.le_succ _
 |none=>
  by_cases h:65536≤m.length
  ·show(if 65536≤m.length then m else _).length≤_
   rw[if_pos h]
   exact Nat.le_succ _
  ·show(if 65536≤m.length then m else _).length≤_
   rw[if_neg h,List.length_append]
   exact Nat.le_refl _
theorem zu(m:Nbk)(t:Tx)(k:Dg):(sgn m t k).2.2.length≤m.length+1:=by
 unfold sgn
 by_cases h:aP (mB t k)≠0
 ·rw[if_pos h]
  exact Nat.le_succ _
 ·rw[if_neg h]
  cases fe m k (dp (mB t k)) with
  |none=>exact Nat.le_succ _
  |some i=>exact tq _ _ _
theorem K1(w:World):(Instr.buildSlice 33 1 #[(0,.int .u8 1)]).run Tryz.prog w= .ok (.slice (some ⟨w.heap.size,0,none⟩) 1 1) {w with heap:=w.heap.push (.cells #[bv 1] 5)}:=by kernel_rfl
theorem xf(d:Dg)(n:Int):(kG d n).length≤100:=by
 have p1:=bj (num d)
 have p2:=bj (dz n)
 unfold kG
 rw[List.length_append]
 omega
attribute [local irreducible] CG NG SG aO Der Row Blk az aH bz num cz cm bQ bH orJ cM aP cL ofI dd dp kG sgn
theorem xl{w:World}{n bw:Nat}{tot:Int}{q:Wl}(h:iL w n tot bw q)(hn:n≤w.heap.size)(hnl:q.nb.length≤60000){a:Ax}(ha:a.In n w)(hbl:a.body.length≤10000000):
  Calls Tryz.prog 43 #[.pointer (some ⟨bw,0,none⟩),axv a] w (Lm w n q.c.vb q.pm q.vN q.nb):=by
 refine bh Tryz.func43 rfl Tryz.ntmps43 rfl ?_
 repeat apply gst
 refine SG.box rfl rfl rfl (ag rfl) (fun b3 w1 hk1 hb3 hB3=>?_)
 have hB3:Blk w1 b3 (.cells (axc a).toArray 35):=hB3
 refine SG.alloc rfl rfl rfl (fun b4 w2 hk2 hb4 hB4=>?_)
 have k2:=hk1.trans hk2
 have hB3:=hB3.kp0 hk2
 have k2l:=hB3.lt
 have s1:=hk1.size
 have s12:=hk2.size
 obtain⟨-,-,r1,r2,r3,r4,r5,r6,-⟩:=dN hB3
 have hlb:=ha.lb
 obtain⟨k,hk,hk20⟩:∃k:Nat,(if(20:Int)<(a.body.length:Int) then(20:Int) else(a.body.length:Int))=(k:Int)∧k≤a.body.length:=by
  by_cases h:(20:Int)<(a.body.length:Int)
  ·exact⟨20,by rw[if_pos h];rfl,by omega⟩
  ·exact⟨a.body.length,by rw[if_neg h],Nat.le_refl _⟩
 repeat apply gst
 refine CG.hZ mixed [0,1,2,3,4,5,6,7,8,9,10,11,12,13] [(14,15,5,.tmp 23)] (by kernel_rfl) (by kernel_rfl) ?_
 repeat (apply gdv;rfl;rfl;(first|apply qmn|apply qlc|apply qfa|apply qln|apply qto)<;>first|rfl|(apply Ar.mk;omega)|assumption|exact List.not_mem_nil)
 refine Der.val rfl rfl rfl (au rfl (fun W=>KQ W a.non a.fee a.kind a.ba k a.bc)) ?_
 refine Der.one (iM.of (by rfl) rfl rfl rfl (ag rfl) (by rfl) (by rfl) (by rfl)) (fun b5 w3 hk3 hb5 hB5=>?_)
 obtain⟨x0,hx0⟩:∃x0:Tm,x0=⟨⟨zd,a.non,a.fee,a.kind,a.body.take k,[]⟩,a.ba,a.bc,none,0⟩:=⟨_,rfl⟩
 have elk:(a.body.take k).length=k:=by rw[List.length_take];omega
 have hB5:Blk w3 b5 (.cells (txc x0).toArray 52):=by
  have e:txc x0=dc zd++[Value.int .i64 a.non,Value.int .i64 a.fee,Value.int .i64 a.kind,Value.slice a.ba k a.bc,Value.slice none 0 0]:=by
   rw[hx0]
   simp only[txc,Tm.b,Tm.s,elk]
   rfl
  rw[e]
  exact hB5
 have k3:=k2.trans hk3
 have hx3:x0.In n w3:=by
  rw[hx0]
  have htb:Tb n w3 a.ba (a.body.take k):=by
   by_cases h0:a.body.take k=[]
   ·exact Or.inl (fun h=>absurd h0 h)
   ·exact Or.inr (ha.bn (fun h=>h0 (by rw[h,List.take_nil])))
  exact⟨(ha.b.kp0 k3).take k,Bs.nil,htb,Or.inl (fun h=>absurd rfl h),by show(a.body.take k).length≤_;omega,by show 0≤_;omega⟩
 have hB3:=hB3.kp0 hk3
 clear r1 r2 r3 r4 r5 r6
 have k3l:b3<w3.heap.size:=hB3.lt
 have s2:=k2.size
 have s3:=hk3.size
 have k5l:b5<w3.heap.size:=hB5.lt
 refine NG.next ?_
 refine CG.zv (fun L w'=>∃x1:Tm,aZ [(0,.pointer (some ⟨bw,0,none⟩)),(3,.pointer (some ⟨b3,0,none⟩)),(4,.pointer (some ⟨b4,0,none⟩)),(5,.pointer (some ⟨b5,0,none⟩))] L∧Blk w' b5 (.cells (txc x1).toArray 52)∧x1.In n w'∧Kp [] w w'∧Kp [b5] w3 w') ?_ ?_
 ·obtain⟨-,-,-,-,-,q4,-⟩:=dN hB3
  obtain⟨-,-,-,-,-,q5,-⟩:=aJ hB5
  by_cases hz:a.kind=0
  rotate_left
  ·repeat (first|apply gst|(apply gsv;rfl;(first|apply qlc|apply qfa|apply qei)<;>first|rfl|assumption|(apply dcf;first|assumption|omega)|exact List.not_mem_nil))
   refine gcf rfl ?_
   repeat apply gst
   exact NG.cut ⟨x0,by(repeat' (first|exact True.intro|exact rfl|refine And.intro ?_ ?_)),hB5,hx3,k3,Kp.refl _ _⟩
  have hS5:=hx3.b.sl
  repeat (first|apply gst|(apply gsv;rfl;(first|apply qlc|apply qfa|apply qei)<;>first|rfl|assumption|(apply dct;first|assumption|omega)|exact List.not_mem_nil))
  refine gct rfl ?_
  repeat (first|apply gst|(apply gsv;rfl;(first|apply qas|apply qlc|apply qfa|apply qln|apply qgt)<;>first|rfl|assumption|exact List.not_mem_nil|exact dcu))
  refine CG.fH (fun L w'=>w'=w3∧∃z:Int,aZ [(0,.pointer (some ⟨bw,0,none⟩)),(3,.pointer (some ⟨b3,0,none⟩)),(4,.pointer (some ⟨b4,0,none⟩)),(5,.pointer (some ⟨b5,0,none⟩)),(6,.int .i64 z)] L) ?_ ?_
  ·by_cases h1:1<x0.t.body.length
   ·have h1':(1:Int)<(x0.t.body.length:Int):=by omega
    refine CG.iX rfl (ag rfl) (decide_eq_true h1') ?_
    obtain⟨b',o',e',hr⟩:=hS5 1 _ (List.getElem?_eq_getElem h1)
    have q6:Row w3 b5 11 [.slice (some ⟨b',o',none⟩) x0.t.body.length x0.c1]:=by rw[←e'];exact q5
    have hr:Row w3 b' (o'+(1:Int).toNat*1) [bv x0.t.body[1]]:=hr
    clear q5
    repeat (first|apply gst|(apply gsv;rfl;(first|apply qb3|apply qas|apply qlc|apply qfa|apply qic)<;>first|rfl|(apply Ar.mk;omega)|assumption|exact List.not_mem_nil))
    exact NG.cut ⟨rfl,_,by(repeat' (first|exact True.intro|exact rfl|refine And.intro ?_ ?_))⟩
   ·have h1':¬(1:Int)<(x0.t.body.length:Int):=by omega
    refine CG.iY rfl (ag rfl) (decide_eq_false h1') ?_
    repeat apply gst
    exact NG.cut ⟨rfl,_,by(repeat' (first|exact True.intro|exact rfl|refine And.intro ?_ ?_))⟩
  rintro L w' ⟨rfl,z,hL⟩
  refine CG.to _ hL ?_
  repeat (first|apply gst|(apply gsv;rfl;(first|apply qas|apply qlc|apply qfa|apply qln|apply qgt)<;>first|rfl|assumption|exact List.not_mem_nil|exact dcu))
  refine CG.fH (fun L w''=>w''=w'∧∃y:UInt8,aZ [(0,.pointer (some ⟨bw,0,none⟩)),(3,.pointer (some ⟨b3,0,none⟩)),(4,.pointer (some ⟨b4,0,none⟩)),(5,.pointer (some ⟨b5,0,none⟩)),(6,.int .i64 z),(7,bv y)] L) ?_ ?_
  ·by_cases h1:0<x0.t.body.length
   ·have h1':(0:Int)<(x0.t.body.length:Int):=by omega
    refine CG.iX rfl (ag rfl) (decide_eq_true h1') ?_
    obtain⟨b',o',e',hr⟩:=hS5 0 _ (List.getElem?_eq_getElem h1)
    have q6:Row w' b5 11 [.slice (some ⟨b',o',none⟩) x0.t.body.length x0.c1]:=by rw[←e'];exact q5
    have hr:Row w' b' (o'+(0:Int).toNat*1) [bv x0.t.body[0]]:=hr
    clear q5
    repeat (first|apply gst|(apply gsv;rfl;(first|apply qr8|apply qas|apply qlc|apply qfa|apply qic)<;>first|rfl|(apply Ar.mk;omega)|assumption|exact List.not_mem_nil))
    exact NG.cut ⟨rfl,_,by(repeat' (first|exact True.intro|exact rfl|refine And.intro ?_ ?_))⟩
   ·have h1':¬(0:Int)<(x0.t.body.length:Int):=by omega
    refine CG.iY rfl (ag rfl) (decide_eq_false h1') ?_
    repeat apply gst
    exact NG.cut ⟨rfl,0,by(repeat' (first|exact True.intro|exact rfl|refine And.intro ?_ ?_))⟩
  rintro L w'' ⟨rfl,y,hL⟩
  refine CG.to _ hL ?_
  repeat (first|apply gst|(apply gsv;rfl;apply qmv<;>rfl))
  refine SG.val rfl rfl rfl rfl (au rfl (bd1 _)) ?_
  repeat (apply gsv;rfl;apply qmv<;>rfl)
  refine SG.call rfl rfl rfl (vs:=[dv (d1 y),.int .i64 z]) (Evs.of rfl) ((kV (d1 y) z _).mono (fun e W1 hh=>?_))
  obtain⟨v3,he,ho3,hkW⟩:=hh
  refine⟨_,he,?_⟩
  clear he q4 q5
  have lpp:=xf (d1 y) z
  obtain⟨a3,c3,rfl,hS3⟩:=Bs.own ho3
  have t3:Ty 5 W1 a3 (kG (d1 y) z):=Ty.own ho3
  have g3:∀b off,a3=some ⟨b,off,none⟩→_≤b:=dV ho3
  have hB5:=hB5.kp0 hkW
  repeat (apply gsv;rfl;apply qfa<;>rfl)
  refine SG.bG (dc x0.t.frm++[.int .i64 x0.t.non,.int .i64 x0.t.fee,.int .i64 x0.t.kind]) [.slice x0.a1 x0.t.body.length x0.c1] [.slice x0.a2 x0.t.sig.length x0.c2] rfl rfl (ag rfl) (ag rfl) hB5 (by rw[List.toList_toArray];exact jg x0.t x0.a1 x0.a2 x0.c1 x0.c2) rfl rfl (sS x0.t) rfl (fun W4 hk4 hB5=>?_)
  have hB5:Blk W4 b5 (.cells (txc ⟨{x0.t with body:=kG (d1 y) z},a3,c3,x0.a2,x0.c2⟩).toArray 52):=by rw[jg];exact hB5
  repeat apply gst
  have hxx:=(hx3.kp0 hkW).kpO hk4 (Oth.cons (Nat.le_trans hn (by omega)) (Oth.cells (‹Blk W1 b5 (.cells (txc x0).toArray 52)›:Blk W1 b5 (.cells (txc x0).toArray 52)) (by decide)) Oth.nil)
  exact NG.cut ⟨_,by(repeat' (first|exact True.intro|exact rfl|refine And.intro ?_ ?_)),hB5,⟨hS3.kp hk4 (fun b off e=>nm1 (by have:=g3 b off e;omega)),hxx.s,Or.inl (t3.kp hk4 (fun _ b off e=>nm1 (by have:=g3 b off e;omega))),hxx.t2,by show(kG (d1 y) z).length≤_;omega,hxx.l2⟩,(k3.trans hkW).ai hk4 (bf (by omega)),hkW.any.trans hk4⟩
 rintro L w5 ⟨x1,hL,hB55,hx5,k5,k35⟩
 refine CG.to [(0,.pointer (some ⟨bw,0,none⟩)),(3,.pointer (some ⟨b3,0,none⟩)),(4,.pointer (some ⟨b4,0,none⟩)),(5,.pointer (some ⟨b5,0,none⟩))] hL ?_
 have s5:=k35.size
 have hq5:=h.kp0 k5
 obtain⟨-,z1,-,-⟩:=cu hq5.blk
 have hB35:Blk w5 b3 (.cells (axc a).toArray 35):=hB3.kp k35 (nm1 (by omega))
 obtain⟨-,-,z2,-⟩:=dN hB35
 obtain⟨z3,-⟩:=aJ hB55
 have hNb:=hq5.nb
 have lb:=hNb.blk.lt
 have lm:=hNb.map.lt
 have lo:=bR hNb.own
 have hS:∀x∈q.c.vb::q.pm::aT q.vN,x<w5.heap.size:=fun x hx=>by
  rcases List.mem_cons.1 hx with rfl|hx
  ·exact lb
  rcases List.mem_cons.1 hx with rfl|hx
  ·exact lm
  exact lo x (ay hx)
 obtain⟨W,hW⟩:∃W:UInt8,W=1+a.who%4:=⟨_,rfl⟩
 refine CG.seq ?_
 refine CG.Al mixed (q.c.vb::q.pm::aT q.vN,11) 17 [0,1,2,3,4,5,6,7,8,9,10,11,12,13,14,15,16] [(11,gSg (sgn q.nb x1.t (d1 W)).2.1 (sgn q.nb x1.t (d1 W)).1 w5.heap.size n q.c.vb q.pm q.vN (sgn q.nb x1.t (d1 W)).2.2),(15,gV w5.heap.size 52 13),(16,gP w5.heap.size 52)] (by kernel_rfl) ?_ ?_
 ·intro p hp
  simp only[List.mem_cons,List.mem_nil_iff,or_false] at hp
  rcases hp with rfl|rfl|rfl
  ·exact qo
  ·exact lV
  ·exact lX
 have ni5:=hNb.nin hB55 (by decide) (by decide)
 have ni3:=hNb.nin hB35 (by decide) (by decide)
 have niw:=hNb.nin hq5.blk (by decide) (by decide)
 repeat (apply gxv;rfl;rfl;(first|apply qr8|apply qa8|apply qmv|apply qlc|apply qla|apply qfa|apply qnc)<;>first|rfl|(apply Ar.mk;omega)|assumption|apply aj)
 refine bz.val rfl rfl rfl rfl (au rfl (fun W'=>bd1 _ W')) ?_
 rw[show UInt8.ofNat (1:Int).toNat+a.who%UInt8.ofNat (4:Int).toNat=W from hW.symm]
 skip
 refine bz.call rfl rfl rfl rfl (vs:=[.pointer (some ⟨q.c.vb,0,none⟩),dv (d1 W)]) (Evs.of rfl) (fun W' _ _=>jA q.c.vb (d1 W) W') ?_
 skip
 refine bz.Cr (vs:=[txv x1,.iface 197 (wrv q.c.vb (d1 W))]) (gSg (sgn q.nb x1.t (d1 W)).2.1 (sgn q.nb x1.t (d1 W)).1 w5.heap.size n q.c.vb q.pm q.vN (sgn q.nb x1.t (d1 W)).2.2) rfl rfl rfl rfl rfl (Evs.of rfl) (fun W' hk _=>(kM (hNb.kp0 hk) (Nat.le_trans hn (Nat.le_trans k5.size hk.size)) (by omega) (hx5.kp0 hk) (d1 W)).mono (fun e W2 hh=>?_)) ?_ (fun y=>?_)
 ·obtain⟨y,v',he,h1,h2,h3,h4,h5,h6,h7⟩:=hh
  exact⟨(y,v'),he,⟨⟨⟨h1,h7⟩,fun g hg=>(h5 g hg).elim Or.inl (fun h=>Or.inr (Nat.le_trans hk.size h))⟩,h2,h3,bW h6 hk.size⟩,h4⟩
 ·intro j hj W1 W2 y hk hp
  refine nL (q:=fun D=>∀y,D.phi y W1→D.phi y W2) (fun _ _=>trivial) (fun p hp hne y hy=>?_) j hj y hp
  simp only[List.mem_cons,List.mem_nil_iff,or_false] at hp
  rcases hp with rfl|rfl|rfl
  ·exact absurd rfl hne
  ·exact Cb hS hk y hy
  ·exact Cc hS hk y hy
 repeat (apply gxv;rfl;rfl;(first|apply qmv|apply qxt)<;>rfl)
 refine bz.qB rfl rfl rfl rfl rfl (Nat.le_refl _) (fun b8=>?_)
 refine bz.pU (l:=txc y.1) rfl rfl rfl rfl (by kernel_rfl) (ag rfl) (ag rfl) (aj _) (Nat.le_refl _) (fun W hk hF=>⟨hF _ (.head _) (by kernel_rfl),bD _⟩) ?_ ?_
 ·intro p hp hne y w w' cs g0 g1 g2 g3 g4 g5
  simp only[List.mem_cons,List.not_mem_nil,or_false] at hp
  rcases hp with rfl|rfl|rfl
  ·exact qp g1 g3 y g5
  ·exact lW (aj _) g3 g4 g5
  ·exact absurd rfl hne
 refine bz.tl (fun w6 hk6 hF=>?_)
 obtain⟨lb8,hB8⟩:w5.heap.size≤b8∧Blk w6 b8 (.cells (txc y.1).toArray 52):=hF _ (.head _)
 obtain⟨⟨⟨hy,hyb⟩,hg⟩,hyI,hN6,hyo⟩:((y.1.t=(sgn q.nb x1.t (d1 W)).2.1∧(y.1.t.body≠[]→∀b off,y.1.a1=some ⟨b,off,none⟩→b∉aT y.1.s))∧∀g,y.2.ownBlock=some g→q.vN.ownBlock=some g∨w5.heap.size≤g)∧y.1.In 0 w6∧dP w6 n q.c.vb q.pm y.2 (sgn q.nb x1.t (d1 W)).2.2∧w6.ownsRow w5.heap.size 5 1 y.1.s y.1.t.sig.length (flt by1 y.1.t.sig):=hF _ (.tail _ (.tail _ (.head _)))
 obtain⟨y,v'⟩:=y
 simp only at hB8 hy hyb hg hyI hN6 hyo
 clear hF z1 z2 z3
 have s6:=hk6.size
 have s05:=k5.size
 have k4l:=hB4.lt
 have hB4:Blk w5 b4 (.cells (txc tm0).toArray 52):=(hB4.kp0 hk3).kp k35 (nm1 (by omega))
 have ni4:=hNb.nin hB4 (by decide) (by decide)
 have hB4:=hB4.kp hk6 ni4
 have hB56:=hB55.kp hk6 ni5
 have hB36:=hB35.kp hk6 ni3
 have hgg:∀g,v'.ownBlock=some g→q.vN.ownBlock=some g∨w.heap.size≤g:=fun g h=>(hg g h).imp id (fun h=>Nat.le_trans k5.size h)
 obtain⟨z,hz⟩:∃z,(sgn q.nb x1.t (d1 W)).1=z:=⟨_,rfl⟩
 rw[hz]
 obtain⟨nb',hnb'⟩:∃nb',(sgn q.nb x1.t (d1 W)).2.2=nb':=⟨_,rfl⟩
 have hnl':nb'.length≤q.nb.length+1∧qI q.nb nb':=by rw[←hnb'];exact⟨zu _ _ _,Bt _ _ _⟩
 rw[hnb'] at hN6
 have k6:=k5.any.trans hk6
 obtain⟨z1,-⟩:=aJ hB56
 have hx6:=hx5.kpO hk6 hNb.JM
 by_cases hz0:z=0
 rotate_left
 ·repeat (first|apply gst|(apply gsv;rfl;(first|apply qmv|apply qas|apply qni)<;>first|rfl|(apply dcf;first|assumption|omega)))
  refine gct rfl ?_
  repeat (first|apply gst|(apply gsv;rfl;apply qla<;>first|rfl|assumption|exact List.not_mem_nil|apply aj))
  refine SG.aG (l:=txc x1) rfl rfl (ag rfl) (ag rfl) hB4 (aj _) rfl (bD _) (fun w7 hk7 hB7=>?_)
  have hr:Row w7 b4 0 (txc x1):=Row.all hB7 rfl
  clear z1
  repeat apply gst
  refine aS (Or.inl rfl) Tryz.results43 (aC.agg rfl rfl hr (aj _)) ?_
  exact⟨x1,v',nb',rfl,hx6.kpO hk7 (Oth.cons (by omega) (Oth.cells hB4 (by decide)) Oth.nil),hN6.kpb hk7 hB4 (by decide) (by decide),k6.ai hk7 (bf (by omega)),hgg,hnl'⟩
 subst hz0
 clear z1
 obtain⟨-,-,-,-,-,-,z6,-⟩:_∧_∧_∧_∧_∧_∧Row w6 b3 6 [.bool a.bad]∧_:=by
  obtain⟨h1,h2,h3,h4,h5,h6,h7,h8,h9⟩:=dN hB36
  exact⟨h1,h2,h3,h4,h5,h6,h8,h9⟩
 repeat (first|apply gst|(apply gsv;rfl;(first|apply qmv|apply qas|apply qni)<;>first|rfl|(apply dct;first|assumption|omega)))
 refine gcf rfl ?_
 repeat (first|apply gst|(apply gsv;rfl;(first|apply qlc|apply qfa)<;>first|rfl|assumption|exact List.not_mem_nil))
 refine CG.fH (fun L w'=>∃y2:Tm,aZ [(4,.pointer (some ⟨b4,0,none⟩)),(8,.pointer (some ⟨b8,0,none⟩))] L∧Blk w' b8 (.cells (txc y2).toArray 52)∧y2.In n w'∧dP w' n q.c.vb q.pm v' nb'∧Kp (b8::aT y.s) w6 w') ?_ ?_
 ·cases hbad:a.bad with
  |false=>
   refine gcf rfl ?_
   repeat apply gst
   exact NG.cut ⟨y,by(repeat' (first|exact True.intro|exact rfl|refine And.intro ?_ ?_)),hB8,hyI.mono (Nat.zero_le n),hN6,Kp.refl _ _⟩
  |true=>
   refine gct rfl ?_
   obtain⟨-,-,-,-,-,-,z7⟩:=aJ hB8
   have hl2:y.t.sig.length≤2:=by rw[hy];exact zt _ _ _
   repeat (first|apply gst|(apply gsv;rfl;(first|apply qlc|apply qfa)<;>first|rfl|assumption|exact List.not_mem_nil))
   refine SG.buildSlice rfl rfl rfl rfl K1 (fun b7 w7 hk7 hb7 hB7=>?_)
   have s7:=hk7.size
   have lt8:=hB8.lt
   have ho7:=aI hyo hk7
   have hB87:=hB8.kp0 hk7
   refine SG.ou (enc:=by1) (xs:=y.t.sig) (ys:=[1]) (base:=w5.heap.size) rfl rfl rfl (ag rfl) (ag rfl) rfl rfl rfl rfl dL iF ho7 (fL (enc:=by1) (sz:=1) (x:=(1:UInt8)) dL hB7) (by simp only[maxLen,List.length_singleton];omega) (by show(y.t.sig.length+1)*1≤_;omega) (by omega) (fun vA wA hkA hoA hvA=>?_)
   have hyb7:=(hyI.kp0 hk7).b.kpn hkA hyb
   have htb7:Tb 0 wA y.a1 y.t.body:=(hyI.kp0 hk7).t1.kp hkA hyb
   obtain⟨aA,cA,rfl,hSA⟩:=Bs.own hoA
   have tA:Ty 5 wA aA (y.t.sig++[1]):=Ty.own hoA
   have gA:=dV hoA
   have n8:b8∉aT y.s:=fun hm=>bL ho7 (by decide) hB87 _ (ay hm) (List.mem_singleton.2 rfl)
   have hB8A:=hB87.kp hkA n8
   have hNA:=hN6.kp0 hk7
   clear z7
   repeat (apply gsv;rfl;apply qfa<;>rfl)
   refine SG.bG (dc y.t.frm++[.int .i64 y.t.non,.int .i64 y.t.fee,.int .i64 y.t.kind,.slice y.a1 y.t.body.length y.c1]) [.slice y.a2 y.t.sig.length y.c2] [] rfl rfl (ag rfl) (ag rfl) hB8A (by simp[txc,Tm.b,Tm.s]) rfl rfl (by simp[ah]) rfl (fun wC hkC hBC=>?_)
   have hBC:Blk wC b8 (.cells (txc ⟨{y.t with sig:=y.t.sig++[1]},y.a1,y.c1,aA,cA⟩).toArray 52):=by
    have e:txc ⟨{y.t with sig:=y.t.sig++[1]},y.a1,y.c1,aA,cA⟩=(dc y.t.frm++[.int .i64 y.t.non,.int .i64 y.t.fee,.int .i64 y.t.kind,.slice y.a1 y.t.body.length y.c1])++([.slice aA (y.t.sig++[1]).length cA]++[]):=by simp[txc,Tm.b,Tm.s]
    rw[e]
    exact hBC
   repeat apply gst
   obtain⟨c1,c2⟩:=hyb7.kpO htb7 hkC (vK hB8A (by decide))
   obtain⟨c3,c4⟩:=hSA.kpO (n:=0) (Or.inl tA) hkC (vK hB8A (by decide))
   exact NG.cut ⟨_,by(repeat' (first|exact True.intro|exact rfl|refine And.intro ?_ ?_)),hBC,⟨c1,c3,c2.mono (Nat.zero_le n),c4.mono (Nat.zero_le n),hyI.l1,by simp only[List.length_append,List.length_singleton];omega⟩,(hNA.kpU ho7 (by decide) (by decide) hkA).kpb hkC hB8A (by decide) (by decide),(hk7.any.trans (hkA.mono (fun z hz=>List.mem_cons_of_mem _ hz))).trans (hkC.mono (fun z hz=>by rw[List.mem_singleton] at hz;rw[hz];exact List.mem_cons_self))⟩
 rintro L w7 ⟨y2,hL,hB87,hy7,hN7,hk7⟩
 refine CG.to _ hL ?_
 have hB47:=hB4.kp hk7 (fun hm=>by
  rcases List.mem_cons.1 hm with h|hm
  ·omega
  ·have:=bE hyo b4 (ay hm);omega)
 have z1:Row w7 b8 0 (txc y2):=Row.all hB87 rfl
 repeat (first|apply gst|(apply gsv;rfl;apply qla<;>first|rfl|assumption|exact List.not_mem_nil|apply aj))
 refine SG.aG (l:=txc y2) rfl rfl (ag rfl) (ag rfl) hB47 (aj _) rfl (bD _) (fun w8 hk8 hB48=>?_)
 have hr:Row w8 b4 0 (txc y2):=Row.all hB48 rfl
 clear z1
 repeat apply gst
 refine aS (Or.inl rfl) Tryz.results43 (aC.agg rfl rfl hr (aj _)) ?_
 have s7:=hk7.size
 exact⟨y2,v',nb',rfl,hy7.kpO hk8 (Oth.cons (by omega) (Oth.cells hB47 (by decide)) Oth.nil),hN7.kpb hk8 hB47 (by decide) (by decide),(k6.ai hk7 (fun z hz=>Or.inr (by
  rcases List.mem_cons.1 hz with rfl|hz
  ·omega
  ·have:=bE hyo z (ay hz);omega))).ai hk8 (bf (by omega)),hgg,hnl'⟩
end
section
open Go.ChangeShapes Go.WideShapes Go.ChangeAt Go.RowKit
theorem own:ownKnob Tryz.prog.godebug=none:=by kernel_rfl
theorem laidOut:laidOutB Tryz.prog=true:=by kernel_rfl
theorem qx:Tryz.prog.cellsOf 5=1:=by kernel_rfl
theorem Co:Tryz.prog.cellsOf 3=1:=by kernel_rfl
theorem Cn:Tryz.prog.cellsOf 4=1:=by kernel_rfl
theorem Az:Tryz.prog.cellsOf 23=1:=by kernel_rfl
theorem Cl:Tryz.prog.cellsOf 33=1:=by kernel_rfl
theorem Ay:Tryz.prog.cellsOf 22=3:=by kernel_rfl
theorem Aw:Tryz.prog.cellsOf 24=4:=by kernel_rfl
theorem uV:Tryz.prog.cellsOf 35=9:=by kernel_rfl
theorem Bg{n:Int}(h:(Lit.int .u16 n).wf=true):0≤n∧n<65536:=by
 simp[Lit.wf,IntKind.min,IntKind.max,IntKind.signed,IntKind.bits] at h
 omega
theorem dB{α:Type}(l:List α)(a n:Nat):l.drop a=(l.drop a).take n++l.drop (a+n):=by
 rw[←List.drop_drop,List.take_append_drop]
theorem one_le{H:Type}(d:DataW H):1≤Rows.uptoBulk d:=by
 cases d with
 |lit l=>cases l<;>simp[Rows.uptoBulk]
 |nil=>simp[Rows.uptoBulk]
 |ptr d=>simp[Rows.uptoBulk]
 |slice elems spare=>simp[Rows.uptoBulk]
 |agg parts=>simp[Rows.uptoBulk]
 |iface t d=>simp[Rows.uptoBulk]
 |map entries=>simp[Rows.uptoBulk]
 |held h=>simp[Rows.uptoBulk]
theorem tP{H:Type}{d:DataW H}{l:List (DataW H)}(h:d∈l):Rows.uptoBulk d≤Rows.uptoBulkAll l:=by
 induction l with
 |nil=>cases h
 |cons x r ih=>
  simp only[Rows.uptoBulkAll]
  cases List.mem_cons.1 h with
  |inl e=>subst e;omega
  |inr e=>have:=ih e;omega
theorem length_le{H:Type}(l:List (DataW H)):l.length≤Rows.uptoBulkAll l:=by
 induction l with
 |nil=>simp[Rows.uptoBulkAll]
 |cons x r ih=>have:=one_le x;simp only[Rows.uptoBulkAll,List.length_cons];omega
structure SlB{H:Type}(en:TypeId×Value→H)(P:Program)(w:World)(e:TypeId)(a:Option Addr)(n B:Nat):Prop where
 row:∀i,i<n→∃b off cs fuel y,a=some ⟨b,off,none⟩∧Row w b (off+i*P.cellsOf e) cs∧DataW.trod en P w 0 (fun _=>true) true fuel e cs=some y∧Rows.uptoBulk y.1≤B
theorem pV{H:Type}{en:TypeId×Value→H}{P:Program}{w:World}{t e:TypeId}{cs:List Value}{fuel B:Nat}{y:DataW H×List MemPlace}(ht:P.underlying t=some (.slice e))(he:0<P.cellsOf e)
  (hf:DataW.trod en P w 0 (fun _=>true) true fuel t cs=some y) (hB:Rows.uptoBulk y.1≤B):∃a n c,cs=[.slice a n c]∧n≤c∧c≤B∧(n=0∧a=none∨(∃b off,a=some ⟨b,off,none⟩)∨c=0)∧SlB en P w e a n B:=by
 rcases Go.Deep.open_slice ht hf with⟨hc,_⟩|⟨a,len,cap,m,n,D,Pl,hc,_,hl,hm,hmm,hx,hall⟩
 ·exact⟨none,0,0,hc,Nat.le_refl _,Nat.zero_le _,Or.inl ⟨rfl,rfl⟩,⟨fun i hi=>absurd hi (Nat.not_lt_zero _)⟩⟩
 ·subst hc
  have hmc:m=cap:=by rw[hmm];simp
  rw[hx] at hB
  simp only[Rows.uptoBulk] at hB
  have l1:=length_le ((List.range len).map D)
  have l2:=length_le ((List.range (m-len)).map fun j=>D (len+j))
  simp only[List.length_map,List.length_range] at l1 l2
  have row:∀i,i<m→∃b off cs y,(some a:Option Addr)=some ⟨b,off,none⟩∧Row w b (off+i*P.cellsOf e) cs∧DataW.trod en P w 0 (fun _=>true) true n e cs=some y∧y.1=D i:=fun i hi=>by
   obtain⟨cs0,h10,_⟩:=hall 0 (by omega)
   obtain⟨b,off,ha,_,_⟩:=iR h10 he
   have ha':a=⟨b,off,none⟩:=by simpa[Addr.add] using ha
   subst ha'
   obtain⟨cs,h1,h2⟩:=hall i hi
   rw[cg] at h1
   obtain⟨b2,off2,hb2,hr,hlen⟩:=iR h1 he
   cases hb2
   exact⟨b,off,cs,_,rfl,hr,h2,rfl⟩
  refine⟨some a,len,cap,rfl,hl,by omega,?_,⟨fun i hi=>?_⟩⟩
  ·by_cases h0:cap=0
   ·exact Or.inr (Or.inr h0)
   ·obtain⟨b,off,cs,y,h1,-⟩:=row 0 (by omega)
    exact Or.inr (Or.inl ⟨b,off,h1⟩)
  ·obtain⟨b,off,cs,y,h1,h2,h3,h4⟩:=row i (by omega)
   have:=tP (List.mem_map.2 ⟨i,List.mem_range.2 hi,rfl⟩:D i∈(List.range len).map D)
   exact⟨b,off,cs,_,y,h1,h2,h3,by rw[h4];omega⟩
theorem n9{H α:Type}{en:TypeId×Value→H}{P:Program}{w:World}{e:TypeId}{a:Option Addr}{n B:Nat}(enc:α→List Value)(p:α→Prop)(h:SlB en P w e a n B)
  (rd:∀cs fuel y,DataW.trod en P w 0 (fun _=>true) true fuel e cs=some y→Rows.uptoBulk y.1≤B→∃x:α,cs=enc x∧p x):∃l:List α,l.length=n∧Sl enc (P.cellsOf e) w a l∧∀x∈l,p x:=by
 have key:∀i:_root_.Fin n,∃x:α,(∃b off,a=some ⟨b,off,none⟩∧Row w b (off+i.1*P.cellsOf e) (enc x))∧p x:=by
  intro i
  obtain⟨b,off,cs,fuel,y,h1,h2,h4,h5⟩:=h.row i.1 i.2
  obtain⟨x,rfl,hp⟩:=rd cs fuel y h4 h5
  exact⟨x,⟨b,off,h1,h2⟩,hp⟩
 refine⟨List.ofFn (fun i=>Classical.choose (key i)),by simp,fun i x hx=>?_,fun x hx=>?_⟩
 ·rw[List.getElem?_ofFn] at hx
  split at hx
  ·rename_i hi
   cases hx
   exact(Classical.choose_spec (key ⟨i,hi⟩)).1
  ·cases hx
 ·obtain⟨i,rfl⟩:=List.mem_ofFn.1 hx
  exact(Classical.choose_spec (key i)).2
theorem yX{H:Type}{en:TypeId×Value→H}{w:World}{cs:List Value}{fuel B:Nat}{y:DataW H×List MemPlace}(hf:DataW.trod en Tryz.prog w 0 (fun _=>true) true fuel 33 cs=some y)(hB:Rows.uptoBulk y.1≤B):
  ∃a c l,cs=[.slice a (l:List UInt8).length c]∧Bs w a c l∧(l≠[]→∀b off,a=some ⟨b,off,none⟩→b<w.heap.size)∧l.length≤c∧l.length≤B:=by
 obtain⟨a,n,c,e,hn,hc,hs,hS⟩:=pV Tryz.underlying33 (by rw[qx];omega) hf hB
 obtain⟨l,h1,h2,-⟩:=n9 (fun u:UInt8=>[bv u]) (fun _=>True) hS (fun cs fuel y hy _=>by
  obtain⟨u,e⟩:=gL Tryz.underlying5 hy
  exact⟨u,e,trivial⟩)
 rw[qx] at h2
 subst h1
 have lt:l≠[]→∀b off,a=some ⟨b,off,none⟩→b<w.heap.size:=fun hne b off e=>by
  obtain⟨b',off',e',hr⟩:=h2.at (List.length_pos_iff.2 hne)
  rw[e] at e'
  cases e'
  exact hr.lt
 refine⟨a,c,l,e,⟨h2,hn,?_,lt⟩,lt,hn,by omega⟩
 rcases hs with⟨h,rfl⟩|h|h
 ·exact Or.inl ⟨List.eq_nil_of_length_eq_zero h,rfl⟩
 ·exact Or.inr (Or.inl h)
 ·exact Or.inr (Or.inr ⟨List.eq_nil_of_length_eq_zero (by omega),h⟩)
set_option maxRecDepth 100000 in
theorem CH{H:Type}{enc:TypeId×Value→H}{w:World}{cs:List Value}{fuel:Nat}{y:DataW H×List MemPlace}(h:DataW.trod enc Tryz.prog w 0 (fun _=>true) true fuel 35 cs=some y)(hB:Rows.uptoBulk y.1≤1048576):∃x:Ax,cs=axc x∧x.In w.heap.size w∧x.body.length≤10000000:=by
 obtain⟨xs,m,_,hy,hl,hlen,hf⟩:=DataW.trod_struct Tryz.underlying35 h
 rw[uV] at hl
 rw[hy] at hB
 match xs,hlen with
 |[y0,y1,y2,y3,y4,y5,y6,y7,y8],_=>
  simp only[Rows.uptoBulk,Rows.uptoBulkAll,List.map_cons,List.map_nil] at hB
  have h0:DataW.trod enc Tryz.prog w 0 (fun _=>true) true m 5 ((cs.drop 0).take (Tryz.prog.cellsOf 5))=some y0:=hf 0 _ rfl
  have h1:DataW.trod enc Tryz.prog w 0 (fun _=>true) true m 5 ((cs.drop 1).take (Tryz.prog.cellsOf 5))=some y1:=hf 1 _ rfl
  have h2:DataW.trod enc Tryz.prog w 0 (fun _=>true) true m 3 ((cs.drop 2).take (Tryz.prog.cellsOf 3))=some y2:=hf 2 _ rfl
  have h3:DataW.trod enc Tryz.prog w 0 (fun _=>true) true m 3 ((cs.drop 3).take (Tryz.prog.cellsOf 3))=some y3:=hf 3 _ rfl
  have h4:DataW.trod enc Tryz.prog w 0 (fun _=>true) true m 3 ((cs.drop 4).take (Tryz.prog.cellsOf 3))=some y4:=hf 4 _ rfl
  have h5:DataW.trod enc Tryz.prog w 0 (fun _=>true) true m 33 ((cs.drop 5).take (Tryz.prog.cellsOf 33))=some y5:=hf 5 _ rfl
  have h6:DataW.trod enc Tryz.prog w 0 (fun _=>true) true m 4 ((cs.drop 6).take (Tryz.prog.cellsOf 4))=some y6:=hf 6 _ rfl
  have h7:DataW.trod enc Tryz.prog w 0 (fun _=>true) true m 5 ((cs.drop 7).take (Tryz.prog.cellsOf 5))=some y7:=hf 7 _ rfl
  have h8:DataW.trod enc Tryz.prog w 0 (fun _=>true) true m 33 ((cs.drop 8).take (Tryz.prog.cellsOf 33))=some y8:=hf 8 _ rfl
  rw[qx] at h0 h1 h7
  rw[Co] at h2 h3 h4
  rw[Cl] at h5 h8
  rw[Cn] at h6
  obtain⟨u0,e0⟩:=gL Tryz.underlying5 h0
  obtain⟨u1,e1⟩:=gL Tryz.underlying5 h1
  obtain⟨n2,e2,_,_⟩:=DataW.trod_int Tryz.underlying3 h2
  obtain⟨n3,e3,_,_⟩:=DataW.trod_int Tryz.underlying3 h3
  obtain⟨n4,e4,_,_⟩:=DataW.trod_int Tryz.underlying3 h4
  obtain⟨a5,c5,l5,e5,b5,t5,g5,k5⟩:=yX (B:=1048576) h5 (by omega)
  obtain⟨q6,e6,_⟩:=DataW.trod_bool Tryz.underlying4 h6
  obtain⟨u7,e7⟩:=gL Tryz.underlying5 h7
  obtain⟨a8,c8,l8,e8,b8,t8,g8,k8⟩:=yX (B:=1048576) h8 (by omega)
  refine⟨⟨u0,u1,n2,n3,n4,a5,c5,l5,q6,u7,a8,c8,l8⟩,?_,⟨b5,t5,b8,t8,g5,g8,by show l8.length≤_;omega⟩,by show l5.length≤_;omega⟩
  have hd:cs.drop (8+1)=[]:=List.drop_of_length_le (by omega)
  have e:cs=cs.drop 0:=rfl
  rw[e,dB cs 0 1,e0,dB cs (0+1) 1,e1,dB cs (0+1+1) 1,e2,dB cs (0+1+1+1) 1,e3,dB cs (0+1+1+1+1) 1,e4,dB cs (0+1+1+1+1+1) 1,e5,dB cs (0+1+1+1+1+1+1) 1,e6,dB cs (0+1+1+1+1+1+1+1) 1,e7,dB cs (0+1+1+1+1+1+1+1+1) 1,e8,hd]
  rfl
set_option maxRecDepth 100000 in
theorem AV{H:Type}{enc:TypeId×Value→H}{w:World}{v:Value}{d:DataW H}{ps:List MemPlace}{b0:Nat}(hval:Value.okWide Tryz.prog w .any b0 25 v)(h:DataW.Trod enc Tryz.prog w 0 (fun _=>true) true 25 v d ps)(hB:Rows.uptoBulk d≤1048576):
  ∃a c acts,v= .slice a (acts:List Ax).length c∧Sl axc 9 w a acts∧(∀x∈acts,x.In w.heap.size w)∧∀x∈acts,x.body.length≤10000000:=by
 obtain⟨a,n,c,rfl⟩:=okWide_slice Tryz.underlying25 hval
 obtain⟨fuel,hf⟩:=h
 obtain⟨a',n',c',e,hn,hc,-,hS⟩:=pV (B:=1048576) Tryz.underlying25 (by rw[uV];omega) hf hB
 simp only[Value.cells,List.cons.injEq,Value.slice.injEq,and_true] at e
 obtain⟨rfl,rfl,rfl⟩:=e
 obtain⟨l,h1,h2,h3⟩:=n9 axc (fun x=>x.In w.heap.size w∧x.body.length≤10000000) hS (fun cs fuel y hy hb=>CH hy hb)
 rw[uV] at h2
 subst h1
 exact⟨a,c,l,rfl,h2,fun x hx=>(h3 x hx).1,fun x hx=>(h3 x hx).2⟩
set_option maxRecDepth 100000 in
theorem DW{H:Type}{enc:TypeId×Value→H}{w:World}{v:Value}{d:DataW H}{ps:List MemPlace}{b0:Nat}(hval:Value.okWide Tryz.prog w .any b0 22 v)(h:DataW.Trod enc Tryz.prog w 0 (fun _=>true) true 22 v d ps):∃f l s:UInt8,v= .agg #[bv f,bv l,bv s]:=by
 simp only[Value.okWide,Tryz.underlying22] at hval
 obtain⟨xs,rfl,_⟩:=hval
 obtain⟨fuel,hf⟩:=h
 obtain⟨⟨x,hl⟩,hx⟩:=vz Tryz.underlying22 Tryz.underlying5 qx Ay hf
 match x,hl with
 |[p,q,r],hl=>
  refine⟨p,q,r,?_⟩
  have hx:xs.toList=dc ⟨[p,q,r],hl⟩:=by simpa[Value.cells] using hx
  have:xs.toList=[bv p,bv q,bv r]:=hx.trans rfl
  have e:xs= #[bv p,bv q,bv r]:=Array.toList_inj.1 (by simpa using this)
  rw[e]
set_option maxRecDepth 100000 in
theorem C9{H:Type}{enc:TypeId×Value→H}{w:World}{v:Value}{d:DataW H}{ps:List MemPlace}{b0:Nat}(hval:Value.okWide Tryz.prog w .any b0 24 v)(h:DataW.Trod enc Tryz.prog w 0 (fun _=>true) true 24 v d ps):∃l:List Nat,v=u4v l∧∀x∈l,x<65536:=by
 simp only[Value.okWide,Tryz.underlying24] at hval
 obtain⟨xs,rfl,_⟩:=hval
 obtain⟨fuel,hf⟩:=h
 obtain⟨ys,m,_,_,hl,hxl,hat⟩:=DataW.trod_array Tryz.underlying24 hf
 rw[Aw] at hl
 have hl:xs.toList.length=4:=hl
 obtain⟨cs,hcs⟩:∃cs,(Value.agg xs).cells.toList=cs:=⟨_,rfl⟩
 have hxs:xs.toList=cs:=hcs
 rw[hxs] at hl
 rw[hcs] at hat
 match cs,hl with
 |[c0,c1,c2,c3],_=>
  have k:∀i (hi:i<4),∃n:Nat,[c0,c1,c2,c3][i]?=some (.int .u16 n)∧n<65536:=fun i hi=>by
   have h:=hat i hi
   rw[Az] at h
   rw[List.getElem?_eq_getElem (by rw[hxl];exact hi)] at h
   obtain⟨z,e,_,wf⟩:=DataW.trod_int Tryz.underlying23 h
   obtain⟨z0,z1⟩:=Bg wf
   refine⟨z.toNat,?_,by omega⟩
   have e:([c0,c1,c2,c3].drop (i*1)).take 1=[.int .u16 z]:=e
   rw[Nat.mul_one] at e
   have e2:(([c0,c1,c2,c3].drop i).take 1)[0]?=some (.int .u16 z):=by rw[e];rfl
   rw[List.getElem?_take,if_pos (by omega),List.getElem?_drop,Nat.add_zero] at e2
   rw[e2]
   have:((z.toNat:Nat):Int)=z:=by omega
   rw[this]
  obtain⟨n0,e0,p0⟩:=k 0 (by omega)
  obtain⟨n1,e1,p1⟩:=k 1 (by omega)
  obtain⟨n2,e2,p2⟩:=k 2 (by omega)
  obtain⟨n3,e3,p3⟩:=k 3 (by omega)
  refine⟨[n0,n1,n2,n3],?_,fun x hx=>?_⟩
  ·obtain rfl:c0= .int .u16 n0:=Option.some.inj e0
   obtain rfl:c1= .int .u16 n1:=Option.some.inj e1
   obtain rfl:c2= .int .u16 n2:=Option.some.inj e2
   obtain rfl:c3= .int .u16 n3:=Option.some.inj e3
   have e:xs=(u4c [n0,n1,n2,n3]).toArray:=Array.toList_inj.1 (by rw[hxs];rfl)
   rw[e]
   rfl
  ·simp only[List.mem_cons,List.mem_nil_iff,or_false] at hx
   rcases hx with rfl|rfl|rfl|rfl<;>assumption
end
section
open Go.ChangeShapes Go.WideShapes Go.ChangeAt Go.RowKit
def xy:DataW Unit→Array Value
 | .agg l=>(l.map (fun d=>match d with| .lit (.int k n)=>Value.int k n|_=>undef)).toArray
 |_=> #[]
def lU(d:DataW Unit):Obj→Obj
 | .cells _ t frozen=> .cells (xy d) t frozen
 |o=>o
noncomputable def jR(os:Os):World:=
 {World.holding Tryz.prog os ⟨#[],#[],[]⟩ with heap:=(((World.holding Tryz.prog os ⟨#[],#[],[]⟩).heap.modify 1 (lU Rows.laid_internal_strconv_uint64pow10)).modify 2 (lU Rows.laid_math_bits_deBruijn32tab)).modify 3 (lU Rows.laid_math_bits_deBruijn64tab)}
def C3:Value:= .agg #[.int .u8 0,.int .u8 0,.int .u8 0]
def C2:Value:= .agg #[.int .u16 0,.int .u16 0,.int .u16 0,.int .u16 0]
end
section
def Mks(w:World)(n:Nat)(vs:Value)(e:Ending)(w':World):Prop:=
 ∃(y:Bm) (ok:Bool),e= .returned (.tuple #[bkv y,.bool ok])∧y.In n w'∧Kp [] w w'∧(y.xs≠[]→∀b off,y.a=some ⟨b,off,none⟩→b∉aT vs)
theorem BJ(b:Bl)(d:Dg):∃(D:Dg) (z:Int),orZ b d= .tuple #[dv D,.int .i64 z]:=by
 unfold orZ
 by_cases h:aU b=0
 ·exact⟨d,0,by rw[if_pos h]⟩
 ·exact⟨zd,aU b,by rw[if_neg h]⟩
theorem CA(n:Nat)(w:World):bm0.In n w:=⟨⟨Sl.nil,Or.inl (fun h=>absurd rfl h),fun _ h=>by cases h⟩,by decide⟩
theorem Bm.In.up{m n:Nat}{x:Bm}{w:World}(h:x.In m w)(hn:m≤n):x.In n w:=⟨⟨h.tx.sl,h.tx.tg.imp id (fun g b off e=>Nat.lt_of_lt_of_le (g b off e) hn),fun y hy=>(h.tx.ins y hy).mono hn⟩,h.len⟩
theorem Bm.In.wr{n b:Nat}{x:Bm}{w w':World}{cs:Array Value}(h:x.In n w)(hk:Kp [b] w w')(hb:n≤b)(hB:Blk w b (.cells cs 50)):x.In n w':=⟨h.tx.kp hk (Oth.cons hb (Oth.cells hB (by decide)) Oth.nil) (NoT.cons hb (NoT.cells hB (by decide)) NoT.nil),h.len⟩
attribute [local irreducible] CG NG SG aO Der Row Blk az aH bz aK aU orZ
theorem qL{w:World}{n bw:Nat}{tot:Int}{q:Wl}(h:iL w n tot bw q){H:Int}(ok:kt q.c H)(hH:H≤500)(ht:tot≤1000000000)(hb0:0<q.bs.length)(hbl:q.bs.length≤1000)(hbh:∀x∈q.bs,0≤x.ht∧x.ht≤1000)(hsl:q.ss.length≤1000){a:Ax}(ha:a.In n w):
  Calls Tryz.prog 45 #[.pointer (some ⟨bw,0,none⟩),.pointer (some ⟨q.c.cb,0,none⟩),axv a] w (Mks w n q.vs):=by
 refine c9 Tryz.func45 rfl Tryz.ntmps45 rfl ?_
 obtain⟨av,cv,ev,hcv,hSv⟩:=Sl.own aB h.bl rfl
 obtain⟨j,hj⟩:∃j,j=a.wh.toNat%q.bs.length:=⟨_,rfl⟩
 have hjl:j<q.bs.length:=by rw[hj];exact Nat.mod_lt _ hb0
 have hjz:(a.wh.toNat:Int)%(q.bs.length:Int)=(j:Int):=by rw[hj];rfl
 have hwz:0≤(a.wh.toNat:Int)∧0<(q.bs.length:Int):=by omega
 obtain⟨bv',ov,rfl,hrv⟩:=hSv.at hjl
 repeat apply gst
 refine SG.box rfl rfl rfl (ag rfl) (fun b5 w1 hk1 hb5 hB5=>?_)
 have hB5:Blk w1 b5 (.cells (axc a).toArray 35):=hB5
 refine SG.alloc rfl rfl rfl (fun b6 w2 hk2 hb6 hB6=>?_)
 have hB6:Blk w2 b6 (.cells (bkc bm0).toArray 50):=hB6
 have k2:=hk1.trans hk2
 have hB52:=hB5.kp0 hk2
 have h2:=h.kp0 k2
 have hnb6:w.heap.size≤b6:=Nat.le_trans hk1.size hb6
 obtain⟨-,-,-,-,-,-,-,-,r7,-⟩:=dN hB52
 obtain⟨-,-,-,z3⟩:=cu h2.blk
 rw[ev] at z3
 have hrv:=hrv.kp0 k2
 repeat (first|apply gst|(apply gsv;rfl;apply qas<;>rfl))
 refine CG.hZ mixed [0,1,2,3,4,5,6,7,8,9,10,11,12,13,14] [(15,16,8,.tmp 34)] (by kernel_rfl) (by kernel_rfl) ?_
 repeat (apply gdv;rfl;rfl;(first|apply qb3|apply qri|apply qmv|apply qlc|apply qfa|apply qnc|apply qln)<;>first|rfl|(apply Ar.mk;omega)|assumption|exact List.not_mem_nil)
 rw[hjz]
 repeat (apply gdv;rfl;rfl;(first|apply qla|apply qix)<;>first|rfl|(apply Ar.mk;omega)|assumption|exact List.not_mem_nil|apply aB)
 refine Der.one (iM.of (by rfl) rfl rfl rfl (ag rfl) (by exact aB _) (by rfl) (by exact dh _)) (fun b8 w3 hk3 hb8 hB8=>?_)
 obtain⟨x,hx⟩:∃x,q.bs[j]=x:=⟨_,rfl⟩
 have hxm:x∈q.bs:=by rw[←hx];exact List.getElem_mem hjl
 rw[hx] at hB8
 have hB8:Blk w3 b8 (.cells (bkc x).toArray 50):=hB8
 have k3:=k2.trans hk3
 have hxI:=(h.bi x hxm).kp0 k3
 clear r7 z3 hrv
 obtain⟨D,z,eD⟩:=BJ x.b (aK x.b)
 have hnm:=dD hxI
 rw[eD] at hnm
 have r8:Row w3 b8 0 (bkc x):=Row.all hB8 rfl
 repeat (first|apply gst|(apply gsv;rfl;apply qla<;>first|rfl|assumption|exact List.not_mem_nil|apply aB))
 refine SG.ret rfl rfl rfl (vs:=[bkv x]) (Evs.of rfl) hnm (fun w4 hk4=>?_)
 clear r8
 repeat (apply gsv;rfl;(first|apply qmv|apply qxt)<;>rfl)
 refine SG.alloc rfl rfl rfl (fun b9 w5 hk5 hb9 hB9=>?_)
 refine SG.aG (l:=dc D) rfl rfl (ag rfl) (ag rfl) hB9 (ah _) rfl (aR _) (fun w6 hk6 hB9=>?_)
 have k46:=hk4.trans (hk5.ai hk6 (bf hb9))
 have k6:=k3.trans k46
 have hB56:=hB52.kp0 (hk3.trans k46)
 have hB66:=hB6.kp0 (hk3.trans k46)
 have hB86:=hB8.kp0 k46
 obtain⟨-,r0,-⟩:=dN hB56
 obtain⟨K,hK⟩:∃K:UInt8,a.dO%UInt8.ofNat (Int.toNat 4)=K:=⟨_,rfl⟩
 repeat (first|apply gst|(apply gsv;rfl;(first|apply qr8|apply qas|apply qlc|apply qfa|apply qei)<;>first|rfl|(apply Ar.mk;omega)|assumption|exact List.not_mem_nil|exact dcu))
 rw[hK]
 clear r0
 refine CG.to [(0,.pointer (some ⟨bw,0,none⟩)),(1,.pointer (some ⟨q.c.cb,0,none⟩)),(5,.pointer (some ⟨b5,0,none⟩)),(6,.pointer (some ⟨b6,0,none⟩)),(7,.bool false),(8,.pointer (some ⟨b8,0,none⟩)),(9,.pointer (some ⟨b9,0,none⟩)),(42,bv K),(43,.bool (decide ((K.toNat:Int)=1)))] (aZ.of rfl) ?_
 by_cases hk1:(K.toNat:Int)=1
 ·refine CG.iX rfl (ag rfl) (decide_eq_true hk1) ?_
  have h6:=h.kp0 k6
  repeat (first|apply gst|(apply gsv;rfl;apply qmv<;>rfl))
  refine SG.call rfl rfl rfl (vs:=[.pointer (some ⟨q.c.cb,0,none⟩)]) (Evs.of rfl) ((qN h6.ch ok.pool).mono (fun e w7 hh=>?_))
  obtain⟨v7,he,ho7,hk7⟩:=hh
  refine⟨_,he,?_⟩
  clear he
  obtain⟨ws,hws⟩:∃ws,(nq (q.c.ps.map Em.en)).map (fun e=>aN e.t)=ws:=⟨_,rfl⟩
  rw[hws] at ho7
  obtain⟨aw,cw,rfl,hcw,hSw⟩:=Sl.own ah ho7 rfl
  have k7:=k6.trans hk7
  have hB57:=hB56.kp0 hk7
  obtain⟨-,-,-,-,-,-,-,-,-,rl⟩:=dN hB57
  have hla:=ha.l.sl
  have hl2:=ha.l2
  obtain⟨la,ela⟩:∃la,a.la=la:=⟨_,rfl⟩
  rw[ela] at rl hla
  repeat (first|apply gst|(apply gsv;rfl;(first|apply qmv|apply qas|apply qlc|apply qfa|apply qln)<;>first|rfl|assumption|exact List.not_mem_nil))
  refine CG.loop (X:=Nat×Value×List Dg) (fun q'=>[(0,.pointer (some ⟨bw,0,none⟩)),(1,.pointer (some ⟨q.c.cb,0,none⟩)),(5,.pointer (some ⟨b5,0,none⟩)),(6,.pointer (some ⟨b6,0,none⟩)),(7,.bool false),(8,.pointer (some ⟨b8,0,none⟩)),(9,.pointer (some ⟨b9,0,none⟩)),(11,.slice aw ws.length cw),(12,q'.2.1),(48,.slice la a.lv.length a.lc),(49,.int .i64 (a.lv.length:Int)),(50,.int .i64 (q'.1:Int))])
   (fun q' w'=>q'.1≤a.lv.length∧Kp [] w7 w'∧w'.ownsRow w7.heap.size 47 8 q'.2.1 q'.2.2.length (flt dc q'.2.2)∧q'.2.2.length≤q'.1)
   (fun q'=>a.lv.length-q'.1) (0,.slice none 0 0,[]) ⟨Nat.zero_le _,Kp.refl _ _,⟨rfl,Or.inl ⟨rfl,rfl⟩⟩,Nat.le_refl _⟩ (aZ.of rfl) ?_
  clear rl
  rintro⟨i,v,ls⟩ w8 ⟨hi,hk8,ho8,hli⟩
  simp only at hi ho8 hli
  refine CG.to [(0,.pointer (some ⟨bw,0,none⟩)),(1,.pointer (some ⟨q.c.cb,0,none⟩)),(5,.pointer (some ⟨b5,0,none⟩)),(6,.pointer (some ⟨b6,0,none⟩)),(7,.bool false),(8,.pointer (some ⟨b8,0,none⟩)),(9,.pointer (some ⟨b9,0,none⟩)),(11,.slice aw ws.length cw),(12,v),(48,.slice la a.lv.length a.lc),(49,.int .i64 (a.lv.length:Int)),(50,.int .i64 (i:Int))] (aZ.of rfl) ?_
  by_cases hlt:i<a.lv.length
  ·have g1:(i:Int)<(a.lv.length:Int):=by omega
   obtain⟨ba,off,rfl,hrow⟩:=(hla.kp0 (k7.trans hk8)).at hlt
   repeat (first|apply gst|(apply gsv;rfl;apply qls<;>first|rfl|(apply dct;first|assumption|omega)))
   refine gct rfl ?_
   repeat (first|apply gst|(apply gsv;rfl;(first|apply qmv|apply qas|apply qlc|apply qix|apply qln|apply qgt)<;>first|rfl|(apply Ar.mk;omega)|assumption|exact List.not_mem_nil|exact dcu))
   by_cases hw0:0<ws.length
   ·refine CG.iX rfl (ag rfl) (decide_eq_true (by omega:(0:Int)<(ws.length:Int))) ?_
    obtain⟨j2,hj2⟩:∃j2,j2=a.lv[i].toNat%ws.length:=⟨_,rfl⟩
    have hjl2:j2<ws.length:=by rw[hj2];exact Nat.mod_lt _ hw0
    have hjz2:(a.lv[i].toNat:Int)%(ws.length:Int)=(j2:Int):=by rw[hj2];rfl
    have hwz2:0≤(a.lv[i].toNat:Int)∧0<(ws.length:Int):=by omega
    obtain⟨bwv,ow,rfl,hrw⟩:=(hSw.kp0 hk8).at hjl2
    repeat (first|apply gst|(apply gsv;rfl;(first|apply qb3|apply qri|apply qmv|apply qln)<;>first|rfl|(apply Ar.mk;omega)))
    rw[hjz2]
    repeat (apply gsv;rfl;(first|apply qla|apply qix)<;>first|rfl|(apply Ar.mk;omega)|assumption|exact List.not_mem_nil|apply ah)
    refine SG.buildSlice rfl rfl rfl rfl (C1 _) (fun b9' w9 hk9 hb9' hB9'=>?_)
    have s8:=hk8.size
    have s9:=hk9.size
    have ho9:=aI ho8 hk9
    refine SG.ou (enc:=dc) (xs:=ls) (ys:=[ws[j2]]) (base:=w7.heap.size) rfl rfl rfl (ag rfl) (ag rfl) rfl rfl rfl rfl ah aR ho9 (fL (enc:=dc) (sz:=8) (x:=ws[j2]) ah hB9') (by simp only[maxLen,List.length_singleton];omega) (by show(ls.length+1)*8≤_;omega) (by omega) (fun v8 w10 hk10 ho10 hv10=>?_)
    repeat (first|apply gst|(apply gsv;rfl;(first|apply qmv|apply qas|apply qad)<;>first|rfl|(apply Ar.mk;omega)))
    refine NG.round (i+1,v8,ls++[ws[j2]]) (aZ.of rfl) ⟨hlt,(hk8.trans hk9).ai hk10 (cP ho9 (Nat.le_refl _)),ho10,by simp only[List.length_append,List.length_singleton];omega⟩ (by simp only;omega)
   ·refine CG.iY rfl (ag rfl) (decide_eq_false (by omega:¬(0:Int)<(ws.length:Int))) ?_
    repeat (first|apply gst|(apply gsv;rfl;(first|apply qmv|apply qad)<;>first|rfl|(apply Ar.mk;omega)))
    refine NG.round (i+1,v,ls) (aZ.of rfl) ⟨hlt,hk8,ho8,by simp only;omega⟩ (by simp only;omega)
  ·have g1:¬(i:Int)<(a.lv.length:Int):=by omega
   have k8:=k7.trans hk8
   have hB58:=hB57.kp0 hk8
   obtain⟨-,-,rw5,-⟩:=dN hB58
   have r9:Row w8 b9 0 (dc D):=Row.all ((hB9.kp0 hk7).kp0 hk8) rfl
   have hB68:=(hB66.kp0 hk7).kp0 hk8
   obtain⟨al,cl,rfl,hcl,hSl⟩:=Sl.own ah ho8 rfl
   repeat (first|apply gst|(apply gsv;rfl;apply qls<;>first|rfl|(apply dcf;first|assumption|omega)))
   refine gcf rfl ?_
   repeat (first|apply gst|(apply gsv;rfl;(first|apply qr8|apply qa8|apply qmv|apply qlc|apply qla|apply qfa)<;>first|rfl|(apply Ar.mk;omega)|assumption|exact List.not_mem_nil|apply ah))
   refine SG.val rfl rfl rfl rfl (au rfl (bd1 _)) ?_
   obtain⟨M,hM⟩:∃M:UInt8,UInt8.ofNat (5:Int).toNat+a.who%UInt8.ofNat (3:Int).toNat=M:=⟨_,rfl⟩
   rw[hM]
   repeat (apply gsv;rfl;apply qmv<;>rfl)
   have h8:=h.kp0 k8
   have hmk:Calls Tryz.prog 36 #[.pointer (some ⟨q.c.cb,0,none⟩),dv D,dv (d1 M),.slice al ls.length cl] w8 (fun e w'=>∃(y:Bm) (z':Int),e= .returned (.tuple #[bkv y,.int .i64 z'])∧y.In 0 w'∧(∀b off,y.a=some ⟨b,off,none⟩→w8.heap.size≤b)∧Kp [] w8 w'):=by
    cases hp:ar q.c.ns D with
    |none=>exact(uf h8.ch D (d1 M) hp _).mono (fun e w' hh=>⟨bm0,24,hh.1,CA _ _,(fun _ _ e=>by cases e),hh.2⟩)
    |some p=>
     obtain⟨n1,n2,n3⟩:=ok.nd D p hp
     exact(nG h8.ch ht ok.pool D (d1 M) hp ⟨n1,by omega⟩ (by omega) hSl (by omega)).mono (fun e w' hh=>by
      obtain⟨y,e1,-,e2,e3,e4⟩:=hh
      exact⟨y,0,e1,e2,e3,e4⟩)
   refine SG.call rfl rfl rfl (vs:=[.pointer (some ⟨q.c.cb,0,none⟩),dv D,dv (d1 M),.slice al ls.length cl]) (Evs.of rfl) (hmk.mono (fun e w9 hh=>?_))
   obtain⟨y,z',he,hy,hyn,hk9⟩:=hh
   refine⟨_,he,?_⟩
   clear he rw5 r9 hmk
   repeat (apply gsv;rfl;(first|apply qmv|apply qxt)<;>rfl)
   refine SG.alloc rfl rfl rfl (fun b15 wA hkA hb15 hB15=>?_)
   refine SG.aG (l:=bkc y) rfl rfl (ag rfl) (ag rfl) hB15 (aB _) rfl (dh _) (fun wB hkB hB15=>?_)
   have k9B:=hk9.trans (hkA.ai hkB (bf hb15))
   have hB6B:=hB68.kp0 k9B
   have r15:Row wB b15 0 (bkc y):=Row.all hB15 rfl
   repeat (first|apply gst|(apply gsv;rfl;(first|apply qmv|apply qas|apply qla|apply qei)<;>first|rfl|assumption|exact List.not_mem_nil|apply aB|exact dcu))
   refine SG.aG (l:=bkc y) rfl rfl (ag rfl) (ag rfl) hB6B (aB _) rfl (dh _) (fun wC hkC hBC=>?_)
   have hr:Row wC b6 0 (bkc y):=Row.all hBC rfl
   clear r15
   repeat (first|apply gst|(apply gsv;rfl;apply qas<;>rfl))
   refine dX (Or.inl rfl) Tryz.results45 (aC.agg rfl rfl hr (aB _)) (aC.tmp rfl) ?_
   have s8:=k8.size
   have s9:=k9B.size
   have s5:=hk5.size
   have s3:=k3.size
   have kC:Kp [] w wC:=(k8.trans k9B).ai hkC (bf hnb6)
   exact⟨y,_,rfl,(((hy.up (Nat.zero_le n)).kp0 (hkA.ai hkB (bf hb15))).wr hkC (Nat.le_trans h.ch.w0 hnb6) hB6B),kC,fun _ b off e hm=>by have h1:=bR h.sg b (ay hm);have h2:=hyn b off e;omega⟩
 refine CG.iY rfl (ag rfl) (decide_eq_false hk1) ?_
 repeat (first|apply gst|(apply gsv;rfl;(first|apply qas|apply qei)<;>first|rfl|exact dcu))
 refine CG.to [(0,.pointer (some ⟨bw,0,none⟩)),(1,.pointer (some ⟨q.c.cb,0,none⟩)),(5,.pointer (some ⟨b5,0,none⟩)),(6,.pointer (some ⟨b6,0,none⟩)),(7,.bool false),(8,.pointer (some ⟨b8,0,none⟩)),(9,.pointer (some ⟨b9,0,none⟩)),(84,.bool (decide ((K.toNat:Int)=2)))] (aZ.of rfl) ?_
 obtain⟨hx0,hx1⟩:=hbh x hxm
 by_cases hk2':(K.toNat:Int)=2
 rotate_left
 ·refine CG.iY rfl (ag rfl) (decide_eq_false hk2') ?_
  have r8:Row w6 b8 0 (bkc x):=Row.all hB86 rfl
  repeat (first|apply gst|(apply gsv;rfl;apply qla<;>first|rfl|assumption|exact List.not_mem_nil|apply aB))
  refine SG.aG (l:=bkc x) rfl rfl (ag rfl) (ag rfl) hB66 (aB _) rfl (dh _) (fun wC hkC hBC=>?_)
  have hr:Row wC b6 0 (bkc x):=Row.all hBC rfl
  clear r8
  repeat (first|apply gst|(apply gsv;rfl;apply qas<;>rfl))
  refine dX (Or.inl rfl) Tryz.results45 (aC.agg rfl rfl hr (aB _)) (aC.tmp rfl) ?_
  exact⟨x,_,rfl,(hxI.kp0 k46).wr hkC (Nat.le_trans h.ch.w0 hnb6) hB66,k6.ai hkC (bf hnb6),h.sb x hxm⟩
 refine CG.iX rfl (ag rfl) (decide_eq_true hk2') ?_
 obtain⟨asv,csv,evs,hcs,hSs⟩:=Sl.own aj h.sg rfl
 have hxn: -9223372036854775808≤x.ht+1∧x.ht+1≤9223372036854775807:=by omega
 obtain⟨-,-,r8,-,-⟩:=bC hB86
 obtain⟨-,-,rw5,-⟩:=dN hB56
 have r9:Row w6 b9 0 (dc D):=Row.all hB9 rfl
 repeat (first|apply gst|(apply gsv;rfl;(first|apply qr8|apply qa8|apply qlc|apply qla|apply qfa|apply qad)<;>first|rfl|(apply Ar.mk;omega)|assumption|exact List.not_mem_nil|apply ah))
 refine SG.val rfl rfl rfl rfl (au rfl (bd1 _)) ?_
 obtain⟨M,hM⟩:∃M:UInt8,UInt8.ofNat (5:Int).toNat+a.who%UInt8.ofNat (3:Int).toNat=M:=⟨_,rfl⟩
 rw[hM]
 skip
 refine SG.val rfl rfl rfl rfl (au rfl (bmk D (d1 M) (x.ht+1))) ?_
 refine SG.alloc rfl rfl rfl (fun b17 w7 hk7 hb17 hB17=>?_)
 refine SG.aG (l:=bkp D (x.ht+1) (d1 M) (.slice none 0 0)) rfl rfl (ag rfl) (ag rfl) hB17 (fv _ _ _ _) rfl (mn _ _ _ _ rfl) (fun w8 hk8 hB17=>?_)
 have k68:=hk7.ai hk8 (bf hb17)
 have k8:=k6.trans k68
 have hB58:=hB56.kp0 k68
 have hB68:=hB66.kp0 k68
 clear r8 r9 rw5
 obtain⟨-,-,-,-,-,-,-,-,-,rl⟩:=dN hB58
 have hla:=ha.l.sl
 have hll:=ha.ll
 obtain⟨la,ela⟩:∃la,a.la=la:=⟨_,rfl⟩
 rw[ela] at rl hla
 obtain⟨m,hm,hml,hm10⟩:∃m:Nat,(if(10:Int)<(a.lv.length:Int) then(10:Int) else(a.lv.length:Int))=(m:Int)∧m≤a.lv.length∧m≤10:=by
  by_cases h:(10:Int)<(a.lv.length:Int)
  ·exact⟨10,by rw[if_pos h];rfl,by omega,by omega⟩
  ·exact⟨a.lv.length,by rw[if_neg h],Nat.le_refl _,by omega⟩
 repeat (first|apply gst|(apply gsv;rfl;(first|apply qmn|apply qmv|apply qlc|apply qfa|apply qln|apply qto)<;>first|rfl|(apply Ar.mk;omega)|assumption|exact List.not_mem_nil))
 refine CG.loop (X:=Nat×Value×List Tm) (fun q'=>[(0,.pointer (some ⟨bw,0,none⟩)),(6,.pointer (some ⟨b6,0,none⟩)),(17,.pointer (some ⟨b17,0,none⟩)),(102,.slice la m a.lc),(103,.int .i64 (m:Int)),(104,.int .i64 (q'.1:Int))])
  (fun q' w'=>q'.1≤m∧Kp [] w w'∧(Blk w' b17 (.cells (bkp D (x.ht+1) (d1 M) q'.2.1).toArray 50)∧Blk w' b6 (.cells (bkc bm0).toArray 50)∧w8.heap.size≤w'.heap.size)∧w'.ownsRow w8.heap.size 52 13 q'.2.1 q'.2.2.length (flt txc q'.2.2)∧q'.2.2.length≤q'.1∧∀y∈q'.2.2,y∈q.ss)
  (fun q'=>m-q'.1) (0,.slice none 0 0,[]) ⟨Nat.zero_le _,k8,⟨hB17,hB68,Nat.le_refl _⟩,⟨rfl,Or.inl ⟨rfl,rfl⟩⟩,Nat.le_refl _,fun y hy=>by cases hy⟩ (aZ.of rfl) ?_
 clear rl
 have l17:=hB17.lt
 have l68:=hB68.lt
 have s5':=hk5.size
 have s6':=k6.size
 have s66:=hB66.lt
 have s17:=hk7.size
 rintro⟨i,v,ys⟩ w9 ⟨hi,k9,⟨hB179,hB69,s89⟩,ho9,hli,hys⟩
 simp only at hi hB179 hB69 ho9 hli hys
 refine CG.to [(0,.pointer (some ⟨bw,0,none⟩)),(6,.pointer (some ⟨b6,0,none⟩)),(17,.pointer (some ⟨b17,0,none⟩)),(102,.slice la m a.lc),(103,.int .i64 (m:Int)),(104,.int .i64 (i:Int))] (aZ.of rfl) ?_
 have h9:=h.kp0 k9
 by_cases hlt:i<m
 ·have g1:(i:Int)<(m:Int):=by omega
  have hlt':i<a.lv.length:=by omega
  obtain⟨ba,off,rfl,hrow⟩:=(hla.kp0 k9).at hlt'
  obtain⟨-,-,z2,-⟩:=cu h9.blk
  rw[evs] at z2
  repeat (first|apply gst|(apply gsv;rfl;apply qls<;>first|rfl|(apply dct;first|assumption|omega)))
  refine gct rfl ?_
  repeat (first|apply gst|(apply gsv;rfl;(first|apply qmv|apply qas|apply qlc|apply qfa|apply qnc|apply qix|apply qln|apply qgt)<;>first|rfl|(apply Ar.mk;omega)|assumption|exact List.not_mem_nil|exact dcu))
  by_cases hw0:0<q.ss.length
  ·refine CG.iX rfl (ag rfl) (decide_eq_true (by omega:(0:Int)<(q.ss.length:Int))) ?_
   obtain⟨j2,hj2⟩:∃j2,j2=a.lv[i].toNat%q.ss.length:=⟨_,rfl⟩
   have hjl2:j2<q.ss.length:=by rw[hj2];exact Nat.mod_lt _ hw0
   have hjz2:(a.lv[i].toNat:Int)%(q.ss.length:Int)=(j2:Int):=by rw[hj2];rfl
   have hwz2:0≤(a.lv[i].toNat:Int)∧0<(q.ss.length:Int):=by omega
   obtain⟨bwv,ow,rfl,hrw⟩:=(hSs.kp0 k9).at hjl2
   obtain⟨-,-,u17⟩:=jo hB179
   refine CG.dG mixed 17 [0,1,2,3,4,5,6,7,8,9,10,11,12,13,14,15,16] [16] [] (fun _=>True) (by kernel_rfl) trivial (fun _ _ _ _=>trivial) ?_
   repeat (apply gdv;rfl;rfl;(first|apply qb3|apply qri|apply qmv|apply qlc|apply qfa|apply qnc|apply qln)<;>first|rfl|(apply Ar.mk;omega)|assumption|exact List.not_mem_nil)
   rw[hjz2]
   repeat (apply gdv;rfl;rfl;(first|apply qla|apply qix)<;>first|rfl|(apply Ar.mk;omega)|assumption|exact List.not_mem_nil|apply aj)
   refine Der.iZ (cs:=(txc q.ss[j2]).toArray) (E:=52) rfl rfl rfl rfl rfl (fun W=>A7 _ W) (by simp) (fun _ _ _ _=>trivial) (fun _ _ _ _=>trivial) (fun bn=>?_)
   refine Der.tl (fun wA hkA hF _=>?_)
   obtain⟨-,hbn,hBn⟩:=hF
   have sA:=hkA.size
   have hoA:=aI ho9 hkA
   have hsz:w.heap.size≤w8.heap.size:=k8.size
   have hB17A:=hB179.kp0 hkA
   clear u17
   refine SG.ou (enc:=txc) (xs:=ys) (ys:=[q.ss[j2]]) (base:=w8.heap.size) rfl rfl rfl (ag rfl) (ag rfl) rfl rfl rfl rfl aj bD hoA (fL (enc:=txc) (sz:=13) (x:=q.ss[j2]) aj hBn) (by simp only[maxLen,List.length_singleton];omega) (by show(ys.length+1)*80≤_;omega) (by omega) (fun v6 W6 hk6' ho6 hv6=>?_)
   obtain⟨a6,c6,rfl⟩:=fM ho6
   have nA:∀{z:Nat},z<w8.heap.size→z∉aT v:=fun hz hm=>by have:=bE hoA _ (ay hm);omega
   have hB17:=hB17A.kp hk6' (nA l17)
   have hB6':=(hB69.kp0 hkA).kp hk6' (nA l68)
   have s6':=hk6'.size
   have k6':=(k9.trans hkA).ai hk6' (fun z hz=>Or.inr (by have:=bE hoA z (ay hz);omega))
   repeat (apply gsv;rfl;apply qfa<;>rfl)
   refine SG.bG (dc D++(.int .i64 (x.ht+1)::dc (d1 M))) [v] [] rfl rfl (ag rfl) (ag rfl) hB17 (vf _ _ _ _) rfl rfl (ve _ _ _) rfl (fun W7 hk7' hB7=>?_)
   have hB7:Blk W7 b17 (.cells (bkp D (x.ht+1) (d1 M) (.slice a6 (ys++[q.ss[j2]]).length c6)).toArray 50):=by
    have e:=qy D (d1 M) (x.ht+1) (.slice a6 (ys++[q.ss[j2]]).length c6)
    rw[←e]
    exact hB7
   repeat (first|apply gst|(apply gsv;rfl;(first|apply qmv|apply qad)<;>first|rfl|(apply Ar.mk;omega)))
   have n68:b6≠b17:=by omega
   refine NG.round (i+1,.slice a6 (ys++[q.ss[j2]]).length c6,ys++[q.ss[j2]]) (aZ.of rfl) ⟨hlt,k6'.ai hk7' (bf (by omega)),⟨hB7,hB6'.kp hk7' (nm1 n68),by have:=hk7'.size;omega⟩,bA ho6 hk7' (bL ho6 (by decide) hB17),by simp only[List.length_append,List.length_singleton];omega,fun y hy=>(List.mem_append.1 hy).elim (hys y) (fun e=>by rw[List.mem_singleton] at e;rw[e];exact List.getElem_mem hjl2)⟩ (by simp only;omega)
  ·refine CG.iY rfl (ag rfl) (decide_eq_false (by omega:¬(0:Int)<(q.ss.length:Int))) ?_
   repeat (first|apply gst|(apply gsv;rfl;(first|apply qmv|apply qad)<;>first|rfl|(apply Ar.mk;omega)))
   refine NG.round (i+1,v,ys) (aZ.of rfl) ⟨hlt,k9,⟨hB179,hB69,s89⟩,ho9,by simp only;omega,hys⟩ (by simp only;omega)
 ·have g1:¬(i:Int)<(m:Int):=by omega
  obtain⟨aY,cY,rfl,hcY,hSY⟩:=Sl.own aj ho9 rfl
  have tY:Ty 52 w9 aY ys:=Ty.own ho9
  have gY:=dV ho9
  obtain⟨u0,-,-⟩:=jo hB179
  have e0:bkp D (x.ht+1) (d1 M) (.slice aY ys.length cY)=bkc ⟨D,x.ht+1,d1 M,aY,cY,ys⟩:=rfl
  rw[e0] at u0
  repeat (first|apply gst|(apply gsv;rfl;apply qls<;>first|rfl|(apply dcf;first|assumption|omega)))
  refine gcf rfl ?_
  repeat (first|apply gst|(apply gsv;rfl;apply qla<;>first|rfl|assumption|exact List.not_mem_nil|apply aB))
  refine SG.aG (l:=bkc ⟨D,x.ht+1,d1 M,aY,cY,ys⟩) rfl rfl (ag rfl) (ag rfl) hB69 (aB _) rfl (dh _) (fun wC hkC hBC=>?_)
  have hr:Row wC b6 0 (bkc ⟨D,x.ht+1,d1 M,aY,cY,ys⟩):=Row.all hBC rfl
  clear u0
  repeat (first|apply gst|(apply gsv;rfl;apply qas<;>rfl))
  refine dX (Or.inl rfl) Tryz.results45 (aC.agg rfl rfl hr (aB _)) (aC.tmp rfl) ?_
  have s8:=k8.size
  have hy9:Bm.In ⟨D,x.ht+1,d1 M,aY,cY,ys⟩ n w9:=⟨⟨hSY,Or.inl tY,fun y hy=>h9.si y (hys y hy)⟩,by show ys.length≤_;omega⟩
  exact⟨_,_,rfl,hy9.wr hkC (Nat.le_trans h.ch.w0 hnb6) hB69,k9.ai hkC (bf hnb6),fun _ b off e hm=>by have h1:=bR h.sg b (ay hm);have h2:=gY b off e;omega⟩
end
section
theorem yB{nb:Nbk}{h:Int}{mk:Dg}:∀(l:List Tx) {f:Fb} {t:Tl} {es:List Int},(ij nb h mk f t es l).2.2.1.n≤t.n+l.length
 |[],_,t,_=>Nat.le_refl _
 |x::l,f,t,es=>by
  unfold ij
  by_cases h1:gv nb x≠0
  ·rw[if_pos h1];simp only[List.length_cons];omega
  ·rw[if_neg h1]
   by_cases h2:gJ f x≠0
   ·rw[if_pos h2];simp only[List.length_cons];omega
   ·rw[if_neg h2]
    have h3:=yB l (nb:=nb) (h:=h) (mk:=mk) (f:=dof f mk x) (t:=dot t f h mk x) (es:=doa es f mk x)
    have h4:=Au t f h mk x
    simp only[List.length_cons]
    omega
theorem ze{nb:Nbk}{c:Cm}{b:Bl}(h:adZ nb c b=0):aU b=0∧ar c.ns (aK b)=none∧∃q,ar c.ns b.par=some q∧oh b q.2.x.b=0∧c.tr.addE (aK b) b.par=0:=by
 by_cases h1:aU b=0
 ·cases h2:ar c.ns (aK b) with
  |some q=>rw[oA h1 h2] at h;cases h
  |none=>
   cases h3:ar c.ns b.par with
   |none=>rw[vI h1 h2 h3] at h;cases h
   |some q=>
    rw[vJ h1 h2 h3] at h
    split at h
    ·rename_i g;exact absurd h g
    ·rename_i g
     split at h
     ·rename_i g2;exact absurd h g2
     ·exact⟨h1,rfl,q,rfl,Classical.byContradiction g,h⟩
 ·rw[oB h1] at h;exact absurd h h1
theorem kt.mono{c:Cm}{H H':Int}(h:kt c H)(hH:H≤H'):kt c H':=⟨h.wf,h.dep,h.pool,h.has,fun d q hq=>by obtain⟨h1,h2,h3⟩:=h.nd d q hq;exact⟨h1,by omega,h3⟩⟩
theorem kt.sub{c:Cm}{H:Int}(h:kt c H){pv:Value}{ps:List Em}{nb:Nbk}{q:Nm}{t:Tx}(e:ps.map Em.en=wH nb q (c.ps.map Em.en) t):kt {c with pv:=pv,ps:=ps} H:=by
 refine⟨h.wf,h.dep,?_,h.has,h.nd⟩
 show dY 256 (ps.map Em.en)
 rw[e]
 unfold wH
 split
 ·exact qE h.pool
 ·exact h.pool
theorem kt.added{c:Cm}{H:Int}(h:kt c H){nb:Nbk}{b:Bl}(hz:adZ nb c b=0){pv:Value}{ps:List Em}{z:Nat}{q:Nm}(hq:q.x.b=b)(hr:∃p,ar c.ns b.par=some p∧ij nb b.ht b.mkr p.2.f p.2.t [] b.txs=(0,q.f,q.t,q.es))
  (hp:ps.map Em.en=(if(c.tr.add (aK b) b.par).tip=c.tr.tip then c.ps.map Em.en else swE (cy c.ns (aK b) (z,q)) (c.tr.add (aK b) b.par) (c.ps.map Em.en) c.tr.tip (c.tr.add (aK b) b.par).tip)):
  kt {c with pv:=pv,ps:=ps,tr:=c.tr.add (aK b) b.par,ns:=cy c.ns (aK b) (z,q)} (H+1):=by
 obtain⟨h1,h2,p,h3,h4,h5⟩:=ze hz
 have h7:=yQ h4
 obtain⟨a1,a2,-⟩:=mv h.wf (aK b) b.par
 obtain⟨p',hp1,hp2⟩:=hr
 rw[h3] at hp1
 obtain rfl:=Option.some.inj hp1
 obtain⟨g1,g2,g3⟩:=h.nd _ _ h3
 have eh:q.x.ht=b.ht:=by rw[←hq];rfl
 have ep:p.2.x.b.ht=p.2.x.ht:=rfl
 refine⟨a1,by show(c.tr.add (aK b) b.par).depth≤_;rw[a2];exact h.dep,?_,fun d=>?_,fun d x hx=>?_⟩
 ·show dY 256 (ps.map Em.en)
  rw[hp]
  split
  ·exact h.pool
  ·exact ma (jq h.pool _) _
 ·show(c.tr.add (aK b) b.par).has d=(ar (cy c.ns (aK b) (z,q)) d).isSome
  unfold Tr.add
  rw[if_pos h5]
  show(ar (cy c.tr.nodes (aK b) _) d).isSome=_
  by_cases e:aK b=d
  ·subst e
   rw[bu,bu]
   simp
  ·have:=h.has d
   unfold Tr.has at this
   rw[bu,bu]
   simp[e,this]
 ·have hx:ar (cy c.ns (aK b) (z,q)) d=some x:=hx
  rw[bu] at hx
  by_cases e:aK b=d
  ·simp[e] at hx
   subst hx
   have h8:=yB b.txs (nb:=nb) (h:=b.ht) (mk:=b.mkr) (f:=p.2.f) (t:=p.2.t) (es:=[])
   rw[hp2] at h8
   have h9:=jF h1
   show 0≤q.x.ht∧q.x.ht≤H+1∧(q.t.n:Int)≤64*q.x.ht
   have h8:q.t.n≤p.2.t.n+b.txs.length:=h8
   omega
  ·simp[e] at hx
   obtain⟨k1,k2,k3⟩:=h.nd d x hx
   exact⟨k1,by omega,k3⟩
end
section
theorem Bm.In.KK{n:Nat}{Ts:List TypeId}{A S:List Nat}{w w':World}{x:Bm}(h:x.In n w)(hk:Kp S w w')(hS:Cnd n Ts A w S)(hT:5∉Ts)(hx:x.xs≠[]→∀b off,x.a=some ⟨b,off,none⟩→b∉S):x.In n w':=by
 refine⟨⟨?_,h.tx.tg.elim (fun g=>Or.inl (g.kp hk hx)) Or.inr,fun y hy=>(h.tx.ins y hy).cnd hk hS hT⟩,h.len⟩
 by_cases e:x.xs=[]
 ·rw[e];exact Sl.nil
 ·exact h.tx.sl.kp hk (hx e)
theorem Bm.In.lt{n:Nat}{w:World}{x:Bm}(h:x.In n w)(hne:x.xs≠[]){b off:Nat}(e:x.a=some ⟨b,off,none⟩):b<w.heap.size:=by
 have h0:0<x.xs.length:=List.length_pos_iff.2 hne
 obtain⟨ba,o,e',hr⟩:=h.tx.sl.at h0
 rw[e] at e'
 cases e'
 exact hr.lt
theorem dP.cnd{w w':World}{n base bb pm:Nat}{v:Value}{m:Nbk}{Ts:List TypeId}{A S:List Nat}(h:dP w base bb pm v m)(hb:n≤base)(hk:Kp S w w')(hS:Cnd n Ts A w S)(h1:162∉Ts)(h2:341∉Ts)(hA:pm∉A):dP w' base bb pm v m:=
 ⟨hS.blk hk h.blk h1,cG h.own hk (cQ h.own (hS.not h2)),hS.zU hk h.map hA,h.bp,h.pp⟩
theorem iL.chn{w w':World}{n bw:Nat}{tot:Int}{q:Wl}{S:List Nat}(h:iL w n tot bw q)(hk:Kp S w w')(hS:Cnd n CT [q.c.tm,q.c.nm] w S){c':Cm}(hC:dA w' n [q.c.tm,q.c.nm,q.pm] tot c')(e:c'.cb=q.c.cb∧c'.vb=q.c.vb∧c'.tm=q.c.tm∧c'.nm=q.c.nm)
  (hns:∀p∈c'.ns,p∈q.c.ns∨∀b off,p.2.2.x.a=some ⟨b,off,none⟩→w.heap.size≤b):iL w' n tot bw {q with c:=c'}:=by
 obtain⟨e1,e2,e3,e4⟩:=e
 refine⟨?_,?_,?_,cG h.sg hk (cQ h.sg (hS.not (by decide))),fun x hx=>(h.si x hx).cnd hk hS (by decide),cG h.bl hk (cQ h.bl (hS.not (by decide))),fun x hx=>(h.bi x hx).pT hk hS (by decide) (by decide),fun p hp hne b off e hm=>?_,h.sb,?_,h.bn⟩
 ·have e:wlc {q with c:=c'}=wlc q:=by unfold wlc;rw[e1,e2]
  rw[e]
  exact hS.blk hk h.blk (by decide)
 ·show dA w' n [c'.tm,c'.nm,q.pm] tot c'
  rw[e3,e4]
  exact hC
 ·show dP w' n c'.vb q.pm q.vN q.nb
  rw[e2]
  exact h.nb.cnd (Nat.le_refl _) hk hS (by decide) (by decide) (fun hm=>by
   rcases List.mem_cons.1 hm with e|hm
   ·exact h.pn.1 e
   ·exact h.pn.2 (List.mem_singleton.1 hm))
 ·rcases hns p hp with g|g
  ·exact h.sn p g hne b off e hm
  ·have h1:=bR h.sg b (ay hm)
   have h2:=g b off e
   omega
 ·show q.pm≠c'.tm∧q.pm≠c'.nm
  rw[e3,e4]
  exact h.pn
theorem iL.sgn{w w':World}{n bw:Nat}{tot:Int}{q:Wl}(h:iL w n tot bw q){v':Value}{nb':Nbk}(hk:Kp (q.c.vb::q.pm::aT q.vN) w w')(hN:dP w' n q.c.vb q.pm v' nb'):iL w' n tot bw {q with vN:=v',nb:=nb'}:=by
 have hS:Cnd n [162,341] [q.pm] w (q.c.vb::q.pm::aT q.vN):=(Cnd.cells h.nb.bp h.nb.blk (by decide)).cons ((Cnd.map h.nb.pp h.nb.map (by simp)).cons (Cnd.own h.nb.own (Nat.le_refl _) (by decide)))
 exact⟨hS.blk hk h.blk (by decide),h.ch.kpA hk hS (fun z hz=>by rw[List.mem_singleton] at hz;subst hz;exact⟨by simp,h.pn.1,h.pn.2⟩) (by decide) (fun p hp=>(h.ch.nd p hp).x.pT hk hS (by decide) (by decide)),hN,cG h.sg hk (cQ h.sg (hS.not (by decide))),fun x hx=>(h.si x hx).cnd hk hS (by decide),cG h.bl hk (cQ h.bl (hS.not (by decide))),fun x hx=>(h.bi x hx).pT hk hS (by decide) (by decide),h.sn,h.sb,h.pn,h.bn⟩
theorem iL.put{w w1 w2:World}{n bw:Nat}{tot:Int}{q:Wl}(h:iL w n tot bw q){v':Value}{y:Tm}(k1:Kp (aT q.vs) w w1)(ho:w1.ownsRow n 52 13 v' (q.ss++[y]).length (flt txc (q.ss++[y])))(hv:∀g,v'.ownBlock=some g→q.vs.ownBlock=some g∨w.heap.size≤g)(hy:y.In n w)(k2:Kp [bw] w1 w2)(hB:Blk w2 bw (.cells (wlc {q with vs:=v',ss:=q.ss++[y]}).toArray 44)):iL w2 n tot bw {q with vs:=v',ss:=q.ss++[y]}:=by
 have hS:Cnd n [52] [] w (aT q.vs):=Cnd.own h.sg (Nat.le_refl _) (by decide)
 have hb1:=hS.blk k1 h.blk (by decide)
 have hS2:Cnd n [44] [] w1 [bw]:=Cnd.cells h.bn hb1 (by decide)
 have hbl:=cG h.bl k1 (cQ h.bl (hS.not (by decide)))
 have t2:∀{x:Bm},x.In n w→(x.xs≠[]→∀b off,x.a=some ⟨b,off,none⟩→b∉aT q.vs)→x.In n w1:=fun hx g=>hx.KK k1 hS (by decide) g
 have hC1:=h.ch.kpL k1 hS (by decide) (fun p hp=>t2 (h.ch.nd p hp).x (h.sn p hp))
 have key:∀{x:Bm},x.In n w→x.xs≠[]→∀b off,x.a=some ⟨b,off,none⟩→b∉aT q.vs→b∉aT v':=fun hx hne b off e g hm=>by
  rcases hv b (ay hm) with g2|g2
  ·exact g (fi g2)
  ·have:=hx.lt hne e;omega
 refine⟨hB,hC1.kpL k2 hS2 (by decide) (fun p hp=>(hC1.nd p hp).x.pT k2 hS2 (by decide) (by decide)),(h.nb.cnd (Nat.le_refl _) k1 hS (by decide) (by decide) (by simp)).cnd (Nat.le_refl _) k2 hS2 (by decide) (by decide) (by simp),cG ho k2 (cQ ho (hS2.not (by decide))),fun x hx=>?_,cG hbl k2 (cQ hbl (hS2.not (by decide))),fun x hx=>(t2 (h.bi x hx) (h.sb x hx)).pT k2 hS2 (by decide) (by decide),fun p hp hne b off e=>key (h.ch.nd p hp).x hne b off e (h.sn p hp hne b off e),fun x hx hne b off e=>key (h.bi x hx) hne b off e (h.sb x hx hne b off e),h.pn,h.bn⟩
 have hx:x.In n w:=(List.mem_append.1 hx).elim (h.si x) (fun e=>by rw[List.mem_singleton] at e;rw[e];exact hy)
 exact(hx.cnd k1 hS (by decide)).cnd k2 hS2 (by decide)
theorem iL.Dp{w w1 w2:World}{n bw:Nat}{tot:Int}{q:Wl}(h:iL w n tot bw q){v':Value}{y:Bm}(k1:Kp (aT q.vb) w w1)(ho:w1.ownsRow n 50 18 v' (q.bs++[y]).length (flt bkc (q.bs++[y])))(hy:y.In n w)(hys:y.xs≠[]→∀b off,y.a=some ⟨b,off,none⟩→b∉aT q.vs)(k2:Kp [bw] w1 w2)(hB:Blk w2 bw (.cells (wlc {q with vb:=v',bs:=q.bs++[y]}).toArray 44)):iL w2 n tot bw {q with vb:=v',bs:=q.bs++[y]}:=by
 have hS:Cnd n [50] [] w (aT q.vb):=Cnd.own h.bl (Nat.le_refl _) (by decide)
 have hb1:=hS.blk k1 h.blk (by decide)
 have hS2:Cnd n [44] [] w1 [bw]:=Cnd.cells h.bn hb1 (by decide)
 have hsg:=cG h.sg k1 (cQ h.sg (hS.not (by decide)))
 have hC1:=h.ch.kpL k1 hS (by decide) (fun p hp=>(h.ch.nd p hp).x.pT k1 hS (by decide) (by decide))
 refine⟨hB,hC1.kpL k2 hS2 (by decide) (fun p hp=>(hC1.nd p hp).x.pT k2 hS2 (by decide) (by decide)),(h.nb.cnd (Nat.le_refl _) k1 hS (by decide) (by decide) (by simp)).cnd (Nat.le_refl _) k2 hS2 (by decide) (by decide) (by simp),cG hsg k2 (cQ hsg (hS2.not (by decide))),fun x hx=>((h.si x hx).cnd k1 hS (by decide)).cnd k2 hS2 (by decide),cG ho k2 (cQ ho (hS2.not (by decide))),fun x hx=>?_,h.sn,fun x hx=>(List.mem_append.1 hx).elim (h.sb x) (fun e=>by rw[List.mem_singleton] at e;rw[e];exact hys),h.pn,h.bn⟩
 have hx:x.In n w:=(List.mem_append.1 hx).elim (h.bi x) (fun e=>by rw[List.mem_singleton] at e;rw[e];exact hy)
 exact(hx.pT k1 hS (by decide) (by decide)).pT k2 hS2 (by decide) (by decide)
theorem dA.A6{w:World}{n:Nat}{A:List Nat}{tot:Int}{c:Cm}(h:dA w n A tot c):Cnd n CT [c.tm,c.nm] w (chS c):=
 (Cnd.cells h.bn h.tree.blk (by decide)).cons ((Cnd.map h.tn h.tree.map (by simp)).cons ((Cnd.map h.nn h.map (by simp)).cons h.pool.cnd))
def wlS(bw:Nat)(q:Wl):List Nat:=bw::q.c.vb::q.pm::(aT q.vN++(chS q.c++(aT q.vs++aT q.vb)))
theorem dW{bw x:Nat}{q:Wl}:x∈wlS bw q↔x=bw∨x=q.c.vb∨x=q.pm∨x∈aT q.vN∨x=q.c.tb∨x=q.c.tm∨x=q.c.nm∨x=q.c.pb∨x∈aT q.c.pv∨x∈aT q.vs∨x∈aT q.vb:=by
 unfold wlS chS
 simp[or_assoc]
structure WlK(w w':World)(bw:Nat)(q q':Wl):Prop where
 kp:Kp (wlS bw q) w w'
 sub:∀x∈wlS bw q',x∈wlS bw q∨w.heap.size≤x
theorem WlK.kp0{w w':World}{bw:Nat}{q:Wl}(hk:Kp [] w w'):WlK w w' bw q q:=⟨hk.any,fun x hx=>Or.inl hx⟩
theorem WlK.trans{w w1 w2:World}{bw:Nat}{q q1 q2:Wl}(h:WlK w w1 bw q q1)(h':WlK w1 w2 bw q1 q2):WlK w w2 bw q q2:=
 ⟨h.kp.st h'.kp h.sub,fun x hx=>(h'.sub x hx).elim (h.sub x) (fun g=>Or.inr (Nat.le_trans h.kp.size g))⟩
theorem lQ{v v':Value}{n x:Nat}(h:∀g,v'.ownBlock=some g→v.ownBlock=some g∨n≤g)(hx:x∈aT v'):x∈aT v∨n≤x:=(h x (ay hx)).elim (fun e=>Or.inl (fi e)) Or.inr
theorem WlK.sgn{w w':World}{bw:Nat}{q:Wl}{v':Value}{nb':Nbk}(hk:Kp (q.c.vb::q.pm::aT q.vN) w w')(hv:∀g,v'.ownBlock=some g→q.vN.ownBlock=some g∨w.heap.size≤g):WlK w w' bw q {q with vN:=v',nb:=nb'}:=by
 refine⟨hk.mono (fun x hx=>?_),fun x hx=>?_⟩
 ·rw[dW]
  rcases List.mem_cons.1 hx with h|h
  ·exact Or.inr (Or.inl h)
  ·rcases List.mem_cons.1 h with h|h
   ·exact Or.inr (Or.inr (Or.inl h))
   ·exact Or.inr (Or.inr (Or.inr (Or.inl h)))
 ·rw[dW] at hx⊢
  simp only at hx
  by_cases h:x∈aT v'
  ·exact(lQ hv h).elim (fun g=>Or.inl (Or.inr (Or.inr (Or.inr (Or.inl g))))) Or.inr
  ·simp only[h,false_or] at hx
   left
   rcases hx with h|h|h|h
   ·exact Or.inl h
   ·exact Or.inr (Or.inl h)
   ·exact Or.inr (Or.inr (Or.inl h))
   ·exact Or.inr (Or.inr (Or.inr (Or.inr h)))
theorem WlK.put{w w1 w2:World}{bw:Nat}{q:Wl}{v':Value}{s':List Tm}(h1:Kp (aT q.vs) w w1)(h2:Kp [bw] w1 w2)(hv:∀g,v'.ownBlock=some g→q.vs.ownBlock=some g∨w.heap.size≤g):WlK w w2 bw q {q with vs:=v',ss:=s'}:=by
 refine⟨(h1.mono (fun x hx=>?_)).trans (h2.mono (fun x hx=>?_)),fun x hx=>?_⟩
 ·rw[dW];simp[hx]
 ·rw[List.mem_singleton] at hx;rw[dW];exact Or.inl hx
 ·rw[dW] at hx⊢
  simp only at hx
  by_cases h:x∈aT v'
  ·exact(lQ hv h).elim (fun g=>Or.inl (by simp[g])) Or.inr
  ·simp only[h,false_or] at hx
   exact Or.inl (by rcases hx with h|h|h|h|h|h|h|h|h|h<;>simp[h])
theorem WlK.Dp{w w1 w2:World}{bw:Nat}{q:Wl}{v':Value}{s':List Bm}(h1:Kp (aT q.vb) w w1)(h2:Kp [bw] w1 w2)(hv:∀g,v'.ownBlock=some g→q.vb.ownBlock=some g∨w.heap.size≤g):WlK w w2 bw q {q with vb:=v',bs:=s'}:=by
 refine⟨(h1.mono (fun x hx=>?_)).trans (h2.mono (fun x hx=>?_)),fun x hx=>?_⟩
 ·rw[dW];simp[hx]
 ·rw[List.mem_singleton] at hx;rw[dW];exact Or.inl hx
 ·rw[dW] at hx⊢
  simp only at hx
  by_cases h:x∈aT v'
  ·exact(lQ hv h).elim (fun g=>Or.inl (by simp[g])) Or.inr
  ·simp only[h,or_false] at hx
   exact Or.inl (by rcases hx with h|h|h|h|h|h|h|h|h|h<;>simp[h])
theorem WlK.chn{w w':World}{bw:Nat}{q:Wl}{c':Cm}{S:List Nat}(hk:Kp S w w')(hS:∀x∈S,x∈chS q.c)(e:c'.vb=q.c.vb∧c'.tb=q.c.tb∧c'.tm=q.c.tm∧c'.nm=q.c.nm∧c'.pb=q.c.pb)(hv:∀g,c'.pv.ownBlock=some g→q.c.pv.ownBlock=some g∨w.heap.size≤g):WlK w w' bw q {q with c:=c'}:=by
 obtain⟨e1,e2,e3,e4,e5⟩:=e
 refine⟨hk.mono (fun x hx=>?_),fun x hx=>?_⟩
 ·have:=hS x hx
  unfold wlS
  simp[this]
 ·rw[dW] at hx⊢
  simp only[e1,e2,e3,e4,e5] at hx
  by_cases h:x∈aT c'.pv
  ·exact(lQ hv h).elim (fun g=>Or.inl (by simp[g])) Or.inr
  ·simp only[h,false_or] at hx
   exact Or.inl (by rcases hx with h|h|h|h|h|h|h|h|h|h<;>simp[h])
theorem tU{w:World}{base n sz:Nat}{T:TypeId}{v:Value}{xs:List Value}(h:w.ownsRow base T sz v n xs):∀x∈aT v,base≤x:=fun x hx=>bE h x (ay hx)
theorem iL.ge{w:World}{n bw:Nat}{tot:Int}{q:Wl}(h:iL w n tot bw q):∀x∈wlS bw q,n≤x:=fun x hx=>by
 rw[dW] at hx
 have hc:∀x∈chS q.c,n≤x:=fun x hx=>(h.ch.A6 x hx).1
 unfold chS at hc
 simp only[List.mem_cons] at hc
 rcases hx with h1|h1|h1|h1|h1|h1|h1|h1|h1|h1|h1
 ·rw[h1];exact h.bn
 ·rw[h1];exact h.nb.bp
 ·rw[h1];exact h.nb.pp
 ·exact tU h.nb.own x h1
 ·exact hc x (Or.inl h1)
 ·exact hc x (Or.inr (Or.inl h1))
 ·exact hc x (Or.inr (Or.inr (Or.inl h1)))
 ·exact hc x (Or.inr (Or.inr (Or.inr (Or.inl h1))))
 ·exact hc x (Or.inr (Or.inr (Or.inr (Or.inr h1))))
 ·exact tU h.sg x h1
 ·exact tU h.bl x h1
structure yp(q:Wl)(H:Int):Prop where
 ch:kt q.c H
 bs:∀x∈q.bs,∃p,ar q.c.ns (aK x.b)=some p∧p.2.x.b=x.b
 ne:0<q.bs.length
 nl:(q.nb.length:Int)≤100+H
 sl:(q.ss.length:Int)≤100+H
 bl:(q.bs.length:Int)≤100+H
theorem yp.ht{q:Wl}{H:Int}(h:yp q H){x:Bm}(hx:x∈q.bs):0≤x.ht∧x.ht≤H:=by
 obtain⟨p,h1,h2⟩:=h.bs x hx
 obtain⟨g1,g2,-⟩:=h.ch.nd _ _ h1
 have e:p.2.x.ht=x.ht:=by
  have:p.2.x.b.ht=x.b.ht:=by rw[h2]
  exact this
 rw[e] at g1 g2
 exact⟨g1,g2⟩
end
section
theorem sB(a:Ax):(axc a).length=9:=rfl
def A9(nb:Nbk)(c c':Cm):Prop:=(c'.bd=c.bd∧c'.first=c.first∧c'.cb=c.cb∧c'.vb=c.vb)∧((c'.tr=c.tr∧c'.ns=c.ns)∨
 ∃b z qn,adZ nb c b=0∧c'.tr=c.tr.add (aK b) b.par∧c'.ns=cy c.ns (aK b) (z,qn)∧qn.x.b=b∧∃p,ar c.ns b.par=some p∧ij nb b.ht b.mkr p.2.f p.2.t [] b.txs=(0,qn.f,qn.t,qn.es))
def NoC(c c':Cm):Prop:=c'.ps.map Em.en=c.ps.map Em.en∧c'.tr=c.tr∧c'.ns=c.ns
def Ln(w:World)(n:Nat)(tot:Int)(bw:Nat)(q:Wl)(H:Int)(e:Ending)(w':World):Prop:=
 ∃(q':Wl) (z:Int),e= .returned (.int .i64 z)∧iL w' n tot bw q'∧yp q' (H+1)∧A9 q.nb q.c q'.c∧(z≠0→NoC q.c q'.c)∧qI q.nb q'.nb∧WlK w w' bw q q'
theorem yp.mono{q:Wl}{H H':Int}(h:yp q H)(hH:H≤H'):yp q H':=⟨h.ch.mono hH,h.bs,h.ne,by have:=h.nl;omega,by have:=h.sl;omega,by have:=h.bl;omega⟩
theorem A9.same{nb:Nbk}{c:Cm}:A9 nb c c:=⟨⟨rfl,rfl,rfl,rfl⟩,Or.inl ⟨rfl,rfl⟩⟩
theorem mu{κ ν:Type}[DecidableEq κ]{k:κ}{v:ν}:∀{m:List (κ×ν)} {p:κ×ν},p∈cy m k v→p=(k,v)∨p∈m
 |[],p,h=>by
  simp only[cy,List.mem_singleton] at h
  exact Or.inl h
 |(a,b)::m,p,h=>by
  simp only[cy] at h
  split at h
  ·rename_i e
   rcases List.mem_cons.1 h with h|h
   ·exact Or.inl (by rw[h,e])
   ·exact Or.inr (List.mem_cons_of_mem _ h)
  ·rcases List.mem_cons.1 h with h|h
   ·exact Or.inr (h▸List.mem_cons_self)
   ·rcases mu h with h|h
    ·exact Or.inl h
    ·exact Or.inr (List.mem_cons_of_mem _ h)
def gMk(n:Nat)(vs:Value):GD:=⟨Bm×Bool,(bm0,false),fun x=> .tuple #[bkv x.1,.bool x.2],fun x w=>x.1.In n w∧(x.1.xs≠[]→∀b off,x.1.a=some ⟨b,off,none⟩→b∉aT vs)⟩
theorem xK{n:Nat}{vs:Value}(x:(gMk n vs).X):cp [] ((gMk n vs).phi x):=fun w w' hk h=>⟨h.1.kp0 hk,h.2⟩
attribute [local irreducible] CG NG SG aO Der Row Blk az aH bz aK aU
theorem xC{w:World}{n bw:Nat}{tot:Int}{q:Wl}(h:iL w n tot bw q){H:Int}(ok:yp q H)(hH:H≤200)(ht:tot≤1000000000){a:Ax}(ha:a.In n w)(hbl:a.body.length≤10000000):
  Calls Tryz.prog 14 #[.pointer (some ⟨bw,0,none⟩),axv a] w (Ln w n tot bw q H):=by
 refine bh Tryz.func14 rfl Tryz.ntmps14 rfl ?_
 have hnl:=ok.nl
 have hsl:=ok.sl
 have hbll:=ok.bl
 have hw0:=h.ch.w0
 repeat apply gst
 refine SG.box rfl rfl rfl (ag rfl) (fun b3 w1 hk1 hb3 hB3=>?_)
 have hB3:Blk w1 b3 (.cells (axc a).toArray 35):=hB3
 have r3:Row w1 b3 0 (axc a):=Row.all hB3 rfl
 obtain⟨-,r0,-⟩:=dN hB3
 obtain⟨K,hK⟩:∃K:UInt8,a.dO%UInt8.ofNat (Int.toNat 4)=K:=⟨_,rfl⟩
 repeat (first|apply gst|(apply gsv;rfl;(first|apply qr8|apply qas|apply qlc|apply qfa|apply qei)<;>first|rfl|(apply Ar.mk;omega)|assumption|exact List.not_mem_nil|exact dcu))
 rw[hK]
 clear r0
 refine CG.to [(0,.pointer (some ⟨bw,0,none⟩)),(3,.pointer (some ⟨b3,0,none⟩)),(4,.int .i64 0),(12,.bool (decide ((K.toNat:Int)=0)))] (aZ.of rfl) ?_
 by_cases hk0:(K.toNat:Int)=0
 ·refine CG.iX rfl (ag rfl) (decide_eq_true hk0) ?_
  repeat (first|apply gst|(apply gsv;rfl;(first|apply qmv|apply qla)<;>first|rfl|assumption|exact List.not_mem_nil))
  refine SG.call rfl rfl rfl (vs:=[.pointer (some ⟨bw,0,none⟩),axv a]) (Evs.of rfl) ((xl (h.kp0 hk1) (Nat.le_trans hw0 hk1.size) (by omega) (ha.kp0 hk1) hbl).mono (fun e w2 hh=>?_))
  obtain⟨y,v',nb',rfl,hy,hN2,hk2,hv',hnl',hle'⟩:=hh
  refine⟨_,rfl,?_⟩
  have h2:=(h.kp0 hk1).sgn hk2 hN2
  refine SG.alloc rfl rfl rfl (fun b5 w3 hk3 hb5 hB5=>?_)
  refine SG.aG (l:=txc y) rfl rfl (ag rfl) (ag rfl) hB5 (aj _) rfl (bD _) (fun w4 hk4 hB5=>?_)
  have hB5:Blk w4 b5 (.cells (txc y).toArray 52):=hB5
  have k24:=hk3.ai hk4 (bf hb5)
  have h4:=h2.kp0 k24
  have K4:=((WlK.kp0 (bw:=bw) hk1).trans (WlK.sgn (nb':=nb') hk2 hv')).trans (WlK.kp0 k24)
  have hy4:=hy.kp0 k24
  obtain⟨q2,hq2⟩:∃q2,({q with vN:=v',nb:=nb'}:Wl)=q2:=⟨_,rfl⟩
  have e1:q2.c=q.c:=by rw[←hq2]
  have e2:q2.ss=q.ss:=by rw[←hq2]
  have e3:q2.bs=q.bs:=by rw[←hq2]
  have e4:q2.nb=nb':=by rw[←hq2]
  rw[hq2] at h4 K4
  obtain⟨-,-,z2,-⟩:=cu h4.blk
  have r5:Row w4 b5 0 (txc y):=Row.all hB5 rfl
  clear r3
  have hSl:∀z∈aT q2.vs,z<w4.heap.size:=fun z hz=>bR h4.sg z (ay hz)
  have hso:q2.vs=q.vs:=by rw[←hq2]
  have n5:b5∉aT q2.vs:=fun hm=>by
   rw[hso] at hm
   have h1:=bR h.sg b5 (ay hm)
   have:=hk1.size
   have:=hk2.size
   omega
  have nw:bw∉aT q2.vs:=fun hm=>bL h4.sg (by decide) h4.blk bw (ay hm) (List.mem_singleton.2 rfl)
  have hsl2:q2.ss.length≤1000:=by rw[e2];omega
  have hnw4:=h4.ch.w0
  repeat apply gst
  refine CG.dG mixed 8 [0,1,2,3,4,5,6,7] [6,7] (aT q2.vs) (fun W=>W.ownsRow n 52 13 q2.vs q2.ss.length (flt txc q2.ss)) (by kernel_rfl) h4.sg (fun _ _ hk h=>aI h hk) ?_
  repeat (apply gdv;rfl;rfl;(first|apply qmv|apply qlc|apply qla|apply qfa|apply qnc)<;>first|rfl|assumption|apply aj)
  refine Der.iZ (cs:=(txc y).toArray) (E:=52) rfl rfl rfl rfl rfl (fun W=>A7 y W) hSl (fun W W' hk h=>trivial) (fun _ _ hk h=>aI h hk) (fun bn=>?_)
  apply Der.iJ (P:=Tryz.prog) (t:=41) (base:=n) (e:=52) (i:=Tryz.t52) (f:=ty.i52) (v:=q2.vs) (nn:=q2.ss.length) (xs:=flt txc q2.ss) (b:=bn) (off:=0) (m:=1) (c:=1) (news:=txc y)
  iterate 4 exact rfl
  iterate 2 exact ag rfl
  iterate 3 exact rfl
  ·exact fun W hk hF=>Row.all hF.2.2 rfl
  ·rw[aj];rfl
  ·exact bD _
  ·simp only[maxLen];omega
  ·show(q2.ss.length+1)*80≤_;omega
  ·omega
  ·exact fun _ h=>h
  ·exact fun W W' hk hF=>⟨trivial,hF.2.1,hF.2.2.kp hk (fun hm=>by have:=hSl _ hm;have:=hF.2.1;omega)⟩
  intro v7
  refine Der.tl (fun w5 hk5 hF ho7=>?_)
  obtain⟨-,hv7⟩:=hF
  have ho7:w5.ownsRow n 52 13 v7 (q2.ss++[y]).length (flt txc (q2.ss++[y])):=by
   rw[bU,eR,List.length_append]
   exact ho7
  obtain⟨a7,c7,rfl⟩:=fM ho7
  have hbw5:=h4.blk.kp hk5 nw
  clear z2 r5
  repeat (apply gsv;rfl;(first|apply qfa|apply qnc)<;>rfl)
  refine SG.bG [.pointer (some ⟨q2.c.cb,0,none⟩),.pointer (some ⟨q2.c.vb,0,none⟩)] [q2.vs] [q2.vb] rfl rfl (ag rfl) (ag rfl) hbw5 rfl rfl rfl rfl rfl (fun w6 hk6 hB6=>?_)
  have h6:=h4.put hk5 ho7 hv7 hy4 hk6 hB6
  have K6:=K4.trans (WlK.put (s':=q2.ss++[y]) hk5 hk6 hv7)
  have lw:=hbw5.lt
  have nb5:b5≠bw:=fun e=>by
   subst e
   have:=Blk.uniq hB5 h4.blk
   simp only[Obj.cells.injEq] at this
   exact absurd this.2.1 (by decide)
  have hB56:=(hB5.kp hk5 n5).kp hk6 (nm1 nb5)
  obtain⟨q3,hq3⟩:∃q3,({q2 with vs:= .slice a7 (q2.ss++[y]).length c7,ss:=q2.ss++[y]}:Wl)=q3:=⟨_,rfl⟩
  have f1:q3.c=q.c:=by rw[←hq3];exact e1
  have f2:q3.ss=q.ss++[y]:=by rw[←hq3,←e2]
  have f3:q3.bs=q.bs:=by rw[←hq3];exact e3
  have f4:q3.nb=nb':=by rw[←hq3];exact e4
  rw[hq3] at h6 K6
  obtain⟨z0,-,-,-⟩:=cu h6.blk
  have r5:Row w6 b5 0 (txc y):=Row.all hB56 rfl
  have hy6:y.In n w6:=h6.si y (by rw[f2];simp)
  repeat apply gst
  refine CG.tail mixed 5 [0,1,2,3,4] (by kernel_rfl) ?_
  repeat (apply gdv;rfl;rfl;(first|apply qmv|apply qlc|apply qla|apply qfa|apply qnc)<;>first|rfl|assumption|exact List.not_mem_nil|apply aj)
  refine Der.tl (fun w7 hk7 _ _=>?_)
  have h7:=h6.kp0 hk7
  have hpool:dY 256 (q3.c.ps.map Em.en):=by rw[f1];exact ok.ch.pool
  obtain⟨qn,hqn⟩:∃qn,ar q3.c.ns q3.c.tr.tip=some qn:=by rw[f1];exact ok.ch.tip
  clear z0 r5
  refine SG.call rfl rfl rfl (vs:=[.pointer (some ⟨q3.c.cb,0,none⟩),txv y]) (Evs.of rfl) ((jy h7.ch h7.nb hpool (hy6.kp0 hk7) hqn).mono (fun e w8 hh=>?_))
  obtain⟨rfl,pv',ps',hC8,eps,hk8,hpv8⟩:=hh
  refine⟨_,rfl,?_⟩
  have h8:=h7.chn hk8 h7.ch.pool.cnd hC8 ⟨rfl,rfl,rfl,rfl⟩ (fun p hp=>Or.inl hp)
  repeat (first|apply gst|(apply gsv;rfl;apply qas<;>rfl))
  refine aS (Or.inl rfl) Tryz.results14 (aC.tmp rfl) ?_
  refine⟨_,_,rfl,h8,⟨?_,?_,?_,?_,?_,?_⟩,?_,?_,by show qI q.nb q3.nb;rw[f4];exact hle',(K6.trans (WlK.kp0 hk7)).trans (WlK.chn hk8 (fun x hx=>by unfold chS;rcases List.mem_cons.1 hx with h|h<;>simp[h]) ⟨rfl,rfl,rfl,rfl,rfl⟩ hpv8)⟩
  ·have ok3:kt q3.c H:=by rw[f1];exact ok.ch
   exact(ok3.sub eps).mono (by omega)
  ·show∀x∈q3.bs,∃p,ar q3.c.ns (aK x.b)=some p∧p.2.x.b=x.b
   rw[f3,f1]
   exact ok.bs
  ·show 0<q3.bs.length
   rw[f3]
   exact ok.ne
  ·show(q3.nb.length:Int)≤100+(H+1)
   rw[f4]
   omega
  ·show(q3.ss.length:Int)≤100+(H+1)
   rw[f2,List.length_append,List.length_singleton]
   omega
  ·show(q3.bs.length:Int)≤100+(H+1)
   rw[f3]
   omega
  ·rw[←f1]
   exact⟨⟨rfl,rfl,rfl,rfl⟩,Or.inl ⟨rfl,rfl⟩⟩
  ·rw[←f1]
   exact fun hz=>⟨by show ps'.map Em.en=_;rw[eps];exact if_neg hz,rfl,rfl⟩
 refine CG.iY rfl (ag rfl) (decide_eq_false hk0) ?_
 have h1:=h.kp0 hk1
 obtain⟨z0,-,-,-⟩:=cu h1.blk
 have hbh:∀x∈q.bs,0≤x.ht∧x.ht≤1000:=fun x hx=>by have:=ok.ht hx;omega
 repeat apply gst
 refine CG.free mixed 12 [0,1,2,3,4,5,6,7,8,9,10,11] [(6,gMk n q.vs),(10,gV w1.heap.size 50 18),(11,gP w1.heap.size 50)] (by kernel_rfl) ?_ ?_
 ·intro p hp
  simp only[List.mem_cons,List.mem_nil_iff,or_false] at hp
  rcases hp with rfl|rfl|rfl
  ·exact xK
  ·exact lV
  ·exact lX
 repeat (apply gxv;rfl;rfl;(first|apply qmv|apply qlc|apply qla|apply qfa|apply qnc)<;>first|rfl|assumption|exact List.not_mem_nil)
 refine bz.uY (vs:=[.pointer (some ⟨bw,0,none⟩),.pointer (some ⟨q.c.cb,0,none⟩),axv a]) (gMk n q.vs) rfl rfl rfl rfl (Evs.of rfl) (fun W hk _=>(qL (h1.kp0 hk) ok.ch (by omega) ht ok.ne (by omega) hbh (by omega) ((ha.kp0 hk1).kp0 hk)).mono (fun e W' hh=>?_)) (fun y=>?_)
 ·obtain⟨y,o,he,hy,hk',hs⟩:=hh
  exact⟨(y,o),he,⟨hy,hs⟩,hk'⟩
 repeat (apply gxv;rfl;rfl;(first|apply qmv|apply qxt)<;>rfl)
 refine bz.qB rfl rfl rfl rfl rfl (Nat.le_refl _) (fun b6=>?_)
 refine bz.pU (l:=bkc y.1) rfl rfl rfl rfl (by kernel_rfl) (ag rfl) (ag rfl) (aB _) (Nat.le_refl _) (fun W hk hF=>⟨hF _ (.head _) (by kernel_rfl),dh _⟩) ?_ ?_
 ·intro p hp hne y w w' cs g0 g1 g2 g3 g4 g5
  simp only[List.mem_cons,List.not_mem_nil,or_false] at hp
  rcases hp with rfl|rfl|rfl
  ·exact⟨g5.1.wr g3 (by have:=hk1.size;omega) g1,g5.2⟩
  ·exact lW (aB _) g3 g4 g5
  ·exact absurd rfl hne
 refine bz.tl (fun w2 hk2 hF=>?_)
 obtain⟨lb6,hB6⟩:w1.heap.size≤b6∧Blk w2 b6 (.cells (bkc y.1).toArray 50):=hF _ (.head _)
 obtain⟨hy,hys⟩:y.1.In n w2∧(y.1.xs≠[]→∀b off,y.1.a=some ⟨b,off,none⟩→b∉aT q.vs):=hF _ (.tail _ (.tail _ (.head _)))
 obtain⟨y,o⟩:=y
 simp only at hB6 hy hys
 clear hF z0 r3
 have h2:=h1.kp0 hk2
 cases o with
 |false=>
  repeat (first|apply gst|(apply gsv;rfl;(first|apply qmv|apply qas|apply qnt)<;>rfl))
  refine gct rfl ?_
  repeat (first|apply gst|(apply gsv;rfl;apply qas<;>rfl))
  refine aS (Or.inl rfl) Tryz.results14 (aC.tmp rfl) ?_
  exact⟨q,9,rfl,h2,ok.mono (by omega),A9.same,fun _=>⟨rfl,rfl,rfl⟩,qI.refl _,WlK.kp0 (hk1.trans hk2)⟩
 |true=>
  obtain⟨z0,-,-,-⟩:=cu h2.blk
  have r6:Row w2 b6 0 (bkc y):=Row.all hB6 rfl
  repeat (first|apply gst|(apply gsv;rfl;(first|apply qmv|apply qas|apply qnt)<;>rfl))
  refine gcf rfl ?_
  repeat apply gst
  refine CG.tail mixed 5 [0,1,2,3,4] (by kernel_rfl) ?_
  repeat (apply gdv;rfl;rfl;(first|apply qmv|apply qlc|apply qla|apply qfa|apply qnc)<;>first|rfl|assumption|exact List.not_mem_nil|apply aB)
  refine Der.tl (fun w3 hk3 _ _=>?_)
  have h3:=h2.kp0 hk3
  have l1:=h3.ch.tree.map.lt
  have l2:=h3.ch.map.lt
  have l3:=h3.nb.map.lt
  clear z0 r6
  refine SG.call rfl rfl rfl (vs:=[.pointer (some ⟨q.c.cb,0,none⟩),bkv y]) (Evs.of rfl) ((oo h3.ch ok.ch (by omega) ht (fun z hz=>by
   simp only[List.mem_cons,List.mem_nil_iff,or_false] at hz
   rcases hz with rfl|rfl|rfl
   ·exact l1
   ·exact l2
   ·exact l3) h3.nb (hy.kp0 hk3)).mono (fun e w4 hh=>?_))
  obtain⟨rfl,hh⟩:=hh
  refine⟨_,rfl,?_⟩
  by_cases hz:adZ q.nb q.c y.b=0
  rotate_left
  ·obtain⟨-,hC4,hk4⟩:adZ q.nb q.c y.b≠0∧dA w4 n [q.c.tm,q.c.nm,q.pm] tot q.c∧Kp (chS q.c) w3 w4:=hh.elim id (fun g=>absurd g.1 hz)
   have h4:iL w4 n tot bw q:=h3.chn hk4 h3.ch.A6 hC4 ⟨rfl,rfl,rfl,rfl⟩ (fun p hp=>Or.inl hp)
   repeat (first|apply gst|(apply gsv;rfl;(first|apply qmv|apply qas|apply qei)<;>first|rfl|(apply dcf;first|assumption|omega)))
   refine gcf rfl ?_
   repeat (first|apply gst|(apply gsv;rfl;(first|apply qmv|apply qas)<;>rfl))
   refine aS (Or.inl rfl) Tryz.results14 (aC.tmp rfl) ?_
   exact⟨q,_,rfl,h4,ok.mono (by omega),A9.same,fun _=>⟨rfl,rfl,rfl⟩,qI.refl _,(WlK.kp0 ((hk1.trans hk2).trans hk3)).trans (WlK.chn hk4 (fun _ h=>h) ⟨rfl,rfl,rfl,rfl,rfl⟩ (fun _ h=>Or.inl h))⟩
  obtain⟨-,hA⟩:=hh.elim (fun g=>absurd hz g.1) id
  obtain⟨pv',ps',z,qn,hC4,hqb,hr,hps,hk4,hpv4,hfr⟩:=hA
  have K4:=(WlK.kp0 (bw:=bw) ((hk1.trans hk2).trans hk3)).trans (WlK.chn (c':={q.c with pv:=pv',ps:=ps',tr:=q.c.tr.add (aK y.b) y.b.par,ns:=cy q.c.ns (aK y.b) (z,qn)}) hk4 (fun _ h=>h) ⟨rfl,rfl,rfl,rfl,rfl⟩ hpv4)
  have h4:=h3.chn hk4 h3.ch.A6 hC4 ⟨rfl,rfl,rfl,rfl⟩ (fun p hp=>(mu hp).elim (fun e=>Or.inr (by rw[e];exact hfr)) Or.inl)
  rw[hz]
  repeat (first|apply gst|(apply gsv;rfl;(first|apply qmv|apply qas|apply qei)<;>first|rfl|(apply dct;first|assumption|omega)))
  refine gct rfl ?_
  obtain⟨q2,hq2⟩:∃q2,({q with c:={q.c with pv:=pv',ps:=ps',tr:=q.c.tr.add (aK y.b) y.b.par,ns:=cy q.c.ns (aK y.b) (z,qn)}}:Wl)=q2:=⟨_,rfl⟩
  have e1:q2.c={q.c with pv:=pv',ps:=ps',tr:=q.c.tr.add (aK y.b) y.b.par,ns:=cy q.c.ns (aK y.b) (z,qn)}:=by rw[←hq2]
  have e2:q2.bs=q.bs:=by rw[←hq2]
  have e3:q2.vs=q.vs:=by rw[←hq2]
  have e4:q2.ss=q.ss:=by rw[←hq2]
  have e5:q2.nb=q.nb:=by rw[←hq2]
  have e6:q2.vb=q.vb:=by rw[←hq2]
  rw[hq2] at h4 K4
  have hbl2:q2.bs.length≤1000:=by rw[e2];omega
  have hSl:∀z∈aT q2.vb,z<w4.heap.size:=fun z hz=>bR h4.bl z (ay hz)
  have n6:b6∉aT q2.vb:=fun hm=>by
   rw[e6] at hm
   have h1:=bR h1.bl b6 (ay hm)
   omega
  have nw:bw∉aT q2.vb:=fun hm=>bL h4.bl (by decide) h4.blk bw (ay hm) (List.mem_singleton.2 rfl)
  have hn4:=h4.ch.w0
  have hS3:Cnd n CT [q.c.tm,q.c.nm] w3 (chS q.c):=h3.ch.A6
  have hB64:Blk w4 b6 (.cells (bkc y).toArray 50):=hS3.blk hk4 (hB6.kp0 hk3) (by decide)
  have hy4:y.In n w4:=(hy.kp0 hk3).pT hk4 hS3 (by decide) (by decide)
  obtain⟨-,-,-,z3⟩:=cu h4.blk
  have r6:Row w4 b6 0 (bkc y):=Row.all hB64 rfl
  refine CG.dG mixed 8 [0,1,2,3,4,5,6,7] [6,7] (aT q2.vb) (fun W=>W.ownsRow n 50 18 q2.vb q2.bs.length (flt bkc q2.bs)) (by kernel_rfl) h4.bl (fun _ _ hk h=>aI h hk) ?_
  repeat (apply gdv;rfl;rfl;(first|apply qmv|apply qlc|apply qla|apply qfa|apply qnc)<;>first|rfl|assumption|apply aB)
  refine Der.iZ (cs:=(bkc y).toArray) (E:=50) rfl rfl rfl rfl rfl (fun W=>bbl y W) hSl (fun W W' hk h=>trivial) (fun _ _ hk h=>aI h hk) (fun bn=>?_)
  apply Der.iJ (P:=Tryz.prog) (t:=42) (base:=n) (e:=50) (i:=Tryz.t50) (f:=ty.i50) (v:=q2.vb) (nn:=q2.bs.length) (xs:=flt bkc q2.bs) (b:=bn) (off:=0) (m:=1) (c:=1) (news:=bkc y)
  iterate 4 exact rfl
  iterate 2 exact ag rfl
  iterate 3 exact rfl
  ·exact fun W hk hF=>Row.all hF.2.2 rfl
  ·rw[aB];rfl
  ·exact dh _
  ·simp only[maxLen];omega
  ·show(q2.bs.length+1)*48≤_;omega
  ·omega
  ·exact fun _ h=>h
  ·exact fun W W' hk hF=>⟨trivial,hF.2.1,hF.2.2.kp hk (fun hm=>by have:=hSl _ hm;have:=hF.2.1;omega)⟩
  intro v7
  refine Der.tl (fun w5 hk5 hF ho7=>?_)
  obtain⟨-,hv7⟩:=hF
  have ho7:w5.ownsRow n 50 18 v7 (q2.bs++[y]).length (flt bkc (q2.bs++[y])):=by
   rw[bU,eR,List.length_append]
   exact ho7
  obtain⟨a7,c7,rfl⟩:=fM ho7
  have hbw5:=h4.blk.kp hk5 nw
  clear z3 r6
  repeat (apply gsv;rfl;(first|apply qfa|apply qnc)<;>rfl)
  refine SG.bG [.pointer (some ⟨q2.c.cb,0,none⟩),.pointer (some ⟨q2.c.vb,0,none⟩),q2.vs] [q2.vb] [] rfl rfl (ag rfl) (ag rfl) hbw5 rfl rfl rfl rfl rfl (fun w6 hk6 hB6'=>?_)
  have h6:=h4.Dp hk5 ho7 hy4 (by rw[e3];exact hys) hk6 hB6'
  repeat (first|apply gst|(apply gsv;rfl;(first|apply qmv|apply qas)<;>rfl))
  refine aS (Or.inl rfl) Tryz.results14 (aC.tmp rfl) ?_
  obtain⟨g1,g2,-⟩:=ze hz
  have okc:=ok.ch.added hz (pv:=pv') hqb hr hps
  refine⟨_,0,rfl,h6,⟨?_,?_,?_,?_,?_,?_⟩,?_,fun g=>absurd rfl g,by show qI q.nb q2.nb;rw[e5];exact qI.refl _,K4.trans (WlK.Dp hk5 hk6 hv7)⟩
  ·show kt q2.c (H+1)
   rw[e1]
   exact okc
  ·show∀x∈q2.bs++[y],∃p,ar q2.c.ns (aK x.b)=some p∧p.2.x.b=x.b
   rw[e1,e2]
   intro x hx
   show∃p,ar (cy q.c.ns (aK y.b) (z,qn)) (aK x.b)=some p∧p.2.x.b=x.b
   rcases List.mem_append.1 hx with hx|hx
   ·obtain⟨p,hp1,hp2⟩:=ok.bs x hx
    refine⟨p,?_,hp2⟩
    rw[bu,if_neg (fun e=>by rw[e,hp1] at g2;cases g2),hp1]
   ·rw[List.mem_singleton] at hx
    subst hx
    exact⟨(z,qn),by rw[bu,if_pos rfl],hqb⟩
  ·show 0<(q2.bs++[y]).length
   rw[List.length_append];simp
  ·show(q2.nb.length:Int)≤100+(H+1)
   rw[e5];omega
  ·show(q2.ss.length:Int)≤100+(H+1)
   rw[e4];omega
  ·show((q2.bs++[y]).length:Int)≤100+(H+1)
   rw[e2,List.length_append,List.length_singleton];omega
  ·show A9 q.nb q.c q2.c
   rw[e1]
   exact⟨⟨rfl,rfl,rfl,rfl⟩,Or.inr ⟨y.b,z,qn,hz,rfl,rfl,hqb,hr⟩⟩
end
section
def kU(n:Int):Tx:=⟨zd,n,1,0,kG (d1 9) 7,[]⟩
def kT(n:Int):Tx:=⟨d1 1,n,1,0,kG (d1 9) 7,[]⟩
def kS:Nat→Tx
 |0=>⟨d1 1,0,1,0,kG (d1 9) 7,kl 0⟩
 |_=>⟨d1 1,1,1,0,kG (d1 9) 7,kl 1⟩
def kN:Nat→Nbk
 |0=>[]
 |1=>[((d1 1,dp (kT 0)),0)]
 |_=>[((d1 1,dp (kT 0)),0),((d1 1,dp (kT 1)),1)]
def kP:Nat→List En
 |0=>[]
 |1=>[⟨kS 0,0⟩]
 |_=>[⟨kS 0,0⟩,⟨kS 1,0⟩]
def kf0:Fb:=bal (lL [] (acU [10,0,0,0] 4))
def kf1:Fb:=dof kf0 (d1 8) (kS 0)
def kf2:Fb:=dof kf1 (d1 8) (kS 1)
def kt0:Tl:=⟨0,zd⟩
def kB:Bl:=⟨bF,1,d1 8,[kS 0,kS 1]⟩
theorem BV:dt (kG (d1 9) 7)=0:=by kernel_rfl
theorem yJ:(kG (d1 9) 7).length=2:=by kernel_rfl
theorem B4:(dp (kT 0)==dp (kT 1))=false:=by kernel_rfl
theorem BZ:(aN (kS 0)==aN (kS 1))=false:=by kernel_rfl
theorem z8:(aK kB==bF)=false:=by kernel_rfl
theorem o5{t:Tx}(h1:0≤t.non∧t.non≤1)(h2:t.fee=1)(h3:t.kind=0)(h4:t.body=kG (d1 9) 7)(h5:t.sig.length≤2):aP t=0:=by
 have:TxR t:=⟨h1.1,by omega,by omega,by omega,by omega,by omega,by rw[h4,yJ];decide,by omega⟩
 unfold aP
 rw[if_pos this,if_pos h3,h4]
 exact BV
theorem CZ:∀i,aP (kS i)=0
 |0=>o5 ⟨by decide,by decide⟩ rfl rfl rfl (by decide)
 |_+1=>o5 ⟨show(0:Int)≤1 by decide,show(1:Int)≤1 by decide⟩ rfl rfl rfl (show(kl 1).length≤2 by decide)
theorem JQ{i:Nat}(hi:i<2):aP (mB (kU (i:Int)) (d1 1))=0:=o5 ⟨by show 0≤(i:Int);omega,by show(i:Int)≤1;omega⟩ rfl rfl rfl (Nat.zero_le _)
theorem yK:ar (kN 1) (d1 1,dp (kT 1))=none:=by
 have:=B4
 simp only[beq_eq_false_iff_ne,ne_eq] at this
 simp[kN,ar,this]
theorem BT{i:Nat}(hi:i<2):sgn (kN i) (kU (i:Int)) (d1 1)=(0,kS i,kN (i+1)):=by
 unfold sgn
 rw[if_neg (fun h=>h (JQ hi))]
 match i,hi with
 |0,_=>rfl
 |1,_=>
  have e:fe (kN 1) (d1 1) (dp (mB (kU ((1:Nat):Int)) (d1 1)))=some 1:=by
   show fe (kN 1) (d1 1) (dp (kT 1))=some 1
   unfold fe
   rw[yK]
   rfl
  have e2:fc (kN 1) (d1 1) (dp (mB (kU ((1:Nat):Int)) (d1 1)))=kN 2:=by
   show fc (kN 1) (d1 1) (dp (kT 1))=kN 2
   unfold fc
   rw[yK]
   rfl
  rw[e,e2]
  rfl
theorem zZ:∀{i j:Nat},i<j→j≤2→gv (kN j) (kS i)=0:=by
 intro i j h1 h2
 have hne:=B4
 simp only[beq_eq_false_iff_ne,ne_eq] at hne
 unfold gv
 rw[if_neg (fun h=>h (CZ i)),if_pos]
 rcases(by omega:(i=0∧j=1)∨(i=0∧j=2)∨(i=1∧j=2)) with⟨rfl,rfl⟩|⟨rfl,rfl⟩|⟨rfl,rfl⟩
 ·simp[oJ,kN,ar,show dp (kS 0)=dp (kT 0) from rfl,show(kS 0).frm=d1 1 from rfl,show(kS 0).sig=[0,0] from rfl]
 ·simp[oJ,kN,ar,show dp (kS 0)=dp (kT 0) from rfl,show(kS 0).frm=d1 1 from rfl,show(kS 0).sig=[0,0] from rfl]
 ·simp[oJ,kN,ar,hne,show dp (kS 1)=dp (kT 1) from rfl,show(kS 1).frm=d1 1 from rfl,show(kS 1).sig=[1,0] from rfl]
theorem B5:∀{i:Nat},i<2→fP 256 (kP i) 0 (kS i)=0:=by
 intro i hi
 unfold fP
 rw[if_neg (by decide),if_neg (fun h=>h (CZ i))]
 match i,hi with
 |0,_=>rfl
 |1,_=>rfl
theorem DD:∀{i:Nat},i<2→CL (kP i) 0 (kS i)=kP (i+1)
 |0,_=>rfl
 |1,_=>rfl
theorem Dz:(kf0 (d1 1)).nonce=0:=by kernel_rfl
theorem Dy{i:Nat}(hi:i<2){m:Nm}(hx:m.x=bK cF)(hf:m.f=kf0):oR (kN (i+1)) m (kP i) (kS i)=0∧wH (kN (i+1)) m (kP i) (kS i)=kP (i+1):=by
 have h1:oR (kN (i+1)) m (kP i) (kS i)=0:=by
  unfold oR
  rw[if_neg (fun h=>h (zZ (Nat.lt_succ_self i) hi)),hf,hx,if_neg]
  ·exact B5 hi
  ·have e:(kS i).frm=d1 1:=by
    match i,hi with
    |0,_=>rfl
    |1,_=>rfl
   rw[e,Dz]
   match i,hi with
   |0,_=>decide
   |1,_=>decide
 refine⟨h1,?_⟩
 unfold wH
 rw[if_pos h1]
 unfold sK
 have e:m.x.ht=0:=by rw[hx];rfl
 rw[e,if_pos (B5 hi)]
 exact DD hi
theorem uu:aU kB=0:=by
 unfold aU
 rw[if_neg (by decide),if_neg (by decide),if_neg,if_pos]
 ·kernel_rfl
 ·intro h
  apply h
  show fT [kS 0,kS 1] []=0
  unfold fT
  rw[if_neg (fun h=>h (CZ 0)),if_neg (by simp)]
  unfold fT
  rw[if_neg (fun h=>h (CZ 1)),if_neg]
  ·rfl
  ·intro h
   simp only[List.mem_singleton,Prod.mk.injEq] at h
   exact absurd h.2 (by decide)
theorem uw:aU (bK cF).b=0:=by
 unfold aU
 rw[if_neg (by decide),if_neg (by decide),if_neg (fun h=>h rfl)]
 exact if_pos rfl
theorem DA:oh kB (bK cF).b=0:=by
 unfold oh
 rw[if_neg (fun h=>h uu),if_neg]
 rintro(h|h|h)
 ·exact h uw
 ·exact h rfl
 ·exact h rfl
theorem ql:gJ kf0 (kS 0)=0:=by kernel_rfl
theorem qj:gJ kf1 (kS 1)=0:=by kernel_rfl
theorem B3:pE (lN kf0 (d1 8) (kS 0)) (kS 0)=0:=by kernel_rfl
theorem B2:pE (lN kf1 (d1 8) (kS 1)) (kS 1)=21:=by kernel_rfl
theorem BU:ij (kN 2) 1 (d1 8) kf0 kt0 [] [kS 0,kS 1]=(0,kf2,kt0,[0,21]):=by
 unfold ij
 rw[if_neg (fun h=>h (zZ (i:=0) (j:=2) (by decide) (by decide))),if_neg (fun h=>h ql)]
 unfold ij
 have e1:dot kt0 kf0 1 (d1 8) (kS 0)=kt0:=by unfold dot sJ;rw[if_pos ql];exact if_pos rfl
 have e2:doa [] kf0 (d1 8) (kS 0)=[0]:=by unfold doa;rw[if_pos ql,B3];rfl
 rw[e1,e2,if_neg (fun h=>h (zZ (i:=1) (j:=2) (by decide) (by decide))),if_neg (fun h=>h qj)]
 unfold ij
 have e3:dot kt0 kf1 1 (d1 8) (kS 1)=kt0:=by unfold dot sJ;rw[if_pos qj];exact if_pos rfl
 have e4:doa [0] kf1 (d1 8) (kS 1)=[0,21]:=by unfold doa;rw[if_pos qj,B2];rfl
 show(0,dof kf1 (d1 8) (kS 1),dot kt0 kf1 1 (d1 8) (kS 1),doa [0] kf1 (d1 8) (kS 1))=_
 rw[e3,e4]
 rfl
theorem JV:(kf2 (d1 1)).money=1:=by kernel_rfl
theorem JU:(kf2 (d1 8)).money=2:=by kernel_rfl
theorem Ab:j8 kf0 (kS 0)=true:=by kernel_rfl
theorem Aa:j8 kf1 (kS 1)=true:=by kernel_rfl
theorem JT:mkL (d1 8) kf0 [] [kS 0,kS 1]=[kS 0,kS 1]:=by
 rw[lR (by decide) Ab,if_pos ql]
 show mkL (d1 8) kf1 [kS 0] [kS 1]=_
 rw[lR (by decide) Aa,if_pos qj]
 rfl
theorem BW:Ord En.key En.non En.fee (kP 2) [⟨kS 0,0⟩,⟨kS 1,0⟩]:=by
 refine Ord.step [] (⟨kS 0,0⟩:En) [(⟨kS 1,0⟩:En)] _ ⟨fun o ho _=>?_,fun e he h=>?_,fun e he=>by cases he⟩ (Ord.step [] (⟨kS 1,0⟩:En) [] _ ⟨fun o ho _=>?_,fun e he h=>?_,fun e he=>by cases he⟩ Ord.nil)
 ·simp only[List.nil_append,List.mem_cons,List.mem_nil_iff,or_false] at ho
  rcases ho with rfl|rfl<;>decide
 ·simp only[List.nil_append,List.mem_cons,List.mem_nil_iff,or_false] at he
  rcases he with rfl|rfl<;>decide
 ·simp only[List.nil_append,List.mem_cons,List.mem_nil_iff,or_false] at ho
  rw[ho]
  exact Int.le_refl _
 ·simp only[List.nil_append,List.mem_cons,List.mem_nil_iff,or_false] at he
  rw[he]
  exact Int.le_refl _
theorem BX:nq (kP 2)=[⟨kS 0,0⟩,⟨kS 1,0⟩]:=BW.eq
theorem JR:tkL (kP 2) []=[kS 0,kS 1]:=by
 unfold tkL
 rw[BX]
 rfl
theorem ux:aK kB≠bF:=fun e=>by
 have h:=z8
 rw[e] at h
 simp at h
attribute [local irreducible] aK aN bF
theorem yL:(Tr.new bF 0).addE (aK kB) kB.par=0:=by
 have hh:(Tr.new bF 0).has (aK kB)=false:=by
  unfold Tr.has
  show(ar [(bF,kd0)] (aK kB)).isSome=false
  rw[show ar [(bF,kd0)] (aK kB)=none from by show(if _ then _ else _)=_;rw[if_neg (fun e=>ux e.symm)];rfl]
  rfl
 have hp:(Tr.new bF 0).has kB.par=true:=by
  unfold Tr.has
  show(ar [(bF,kd0)] bF).isSome=true
  rw[show ar [(bF,kd0)] bF=some kd0 from if_pos rfl]
  rfl
 unfold Tr.addE
 rw[hh,hp]
 have hl:¬4096≤(Tr.new bF 0).nodes.length:=Nat.not_le.2 (by simp[Tr.new])
 have hd:¬(Tr.new bF 0).deep kB.par=true:=?_
 ·rw[if_neg (fun h=>Bool.noConfusion h),if_neg (fun h=>Bool.noConfusion h),if_neg hl,if_neg hd]
 have h0:(Tr.new bF 0).ht (Tr.new bF 0).tip=0:=(nB bF 0).h0
 unfold Tr.deep
 rw[h0]
 exact fun h=>absurd (of_decide_eq_true h) (Nat.not_lt_zero _)
theorem DC{c:Cm}{z:Nat}{m:Nm}(h1:c.ns=[(bF,z,m)])(h2:c.tr=Tr.new bF 0)(hx:m.x=bK cF)(hf:m.f=kf0)(ht:m.t=kt0):adZ (kN 2) c kB=0:=by
 have l1:ar c.ns (aK kB)=none:=by
  rw[h1]
  show(if _ then _ else _)=_
  rw[if_neg (fun e=>ux e.symm)]
  rfl
 have l2:ar c.ns kB.par=some (z,m):=by rw[h1];exact if_pos rfl
 have hr:(ij (kN 2) kB.ht kB.mkr m.f m.t [] kB.txs).1=0:=by
  rw[hf,ht]
  show(ij (kN 2) 1 (d1 8) kf0 kt0 [] [kS 0,kS 1]).1=0
  rw[BU]
 rw[vJ uu l1 l2]
 show(if oh kB m.x.b≠0 then _ else _)=_
 rw[hx,if_neg (fun h=>h DA),if_neg (fun h=>h hr),h2]
 exact yL
theorem Eh:(Tr.new bF 0).add (aK kB) kB.par=(Tr.new bF 0).put (aK kB) bF:=by
 unfold Tr.add
 exact if_pos yL
theorem BS:((Tr.new bF 0).put (aK kB) bF).tip=aK kB:=by
 have h0:(Tr.new bF 0).ht (Tr.new bF 0).tip=0:=(nB bF 0).h0
 have h1:(Tr.new bF 0).ht bF=0:=(nB bF 0).h0
 unfold Tr.put
 show(if(Tr.new bF 0).ht (Tr.new bF 0).tip<(Tr.new bF 0).ht bF+1 then aK kB else(Tr.new bF 0).tip)=_
 rw[h0,h1]
 exact if_pos (Nat.lt_succ_self 0)
theorem uv:((Tr.new bF 0).put (aK kB) bF).line ((Tr.new bF 0).put (aK kB) bF).tip=[bF,aK kB]:=by
 have wf:((Tr.new bF 0).put (aK kB) bF).WF:=by rw[←Eh];exact(mv (nB bF 0) _ _).1
 have hx:=wf.tip
 rw[BS] at hx⊢
 rw[wf.zV hx ux,fY]
 show((Tr.new bF 0).put (aK kB) bF).line ((Tr.new bF 0).put (aK kB) bF).first++_=_
 rw[wf.rG]
 rfl
theorem B1{ns:List (Dg×Nat×Nm)}{z z2:Nat}{m q2:Nm}(h1:ns=cy [(bF,z,m)] (aK kB) (z2,q2))(hx:m.x=bK cF)(hq:q2.x.b=kB)(he:q2.es=[0,21]):jd ns (aN (kS 1)) [bF,aK kB]=some (1,21):=by
 have l1:ar ns bF=some (z,m):=by
  rw[h1,bu,if_neg ux]
  exact if_pos rfl
 have l2:ar ns (aK kB)=some (z2,q2):=by
  rw[h1,bu,if_pos rfl]
 have n1:m.nms=[]:=by unfold Nm.nms;rw[hx];rfl
 have n2:q2.nms=[aN (kS 0),aN (kS 1)]:=by
  have:q2.x.b.txs=kB.txs:=by rw[hq]
  have:q2.x.xs.map (·.t)=[kS 0,kS 1]:=this
  unfold Nm.nms
  have e:q2.x.xs.map (fun x=>aN x.t)=(q2.x.xs.map (·.t)).map aN:=by rw[List.map_map];rfl
  rw[e,this]
  rfl
 have hh:q2.x.ht=1:=by
  have:q2.x.b.ht=kB.ht:=by rw[hq]
  exact this
 have hn:aN (kS 0)≠aN (kS 1):=fun e=>by
  have h:=BZ
  rw[e] at h
  simp at h
 have i1:ixZ m.nms (aN (kS 1))= -1:=by rw[n1];rfl
 have i2:ixZ q2.nms (aN (kS 1))=1:=by
  rw[n2]
  unfold ixZ
  have:[aN (kS 0),aN (kS 1)].findIdx (fun x=>decide (x=aN (kS 1)))=1:=by
   simp[List.findIdx_cons,hn]
  rw[this]
  rfl
 unfold jd
 rw[l1]
 show(if 0≤ixZ m.nms (aN (kS 1)) then _ else _)=_
 rw[i1,if_neg (by decide)]
 unfold jd
 rw[l2]
 show(if 0≤ixZ q2.nms (aN (kS 1)) then some (q2.x.ht,q2.es.getD (ixZ q2.nms (aN (kS 1))).toNat 0) else _)=_
 rw[i2,hh,he]
 exact if_pos (by decide)
end
section
theorem KP(w:World)(a b:Int)(p:Option Addr)(m cc:Nat):(Instr.build 52 #[(1,.int .i64 a),(2,.int .i64 b),(4,.slice p m cc)]).run Tryz.prog w= .ok (.agg (dc zd++[Value.int .i64 a,Value.int .i64 b,Value.int .i64 0,Value.slice p m cc,Value.slice none 0 0]).toArray) w:=by kernel_rfl
theorem Lh(w:World):(Instr.build 31 #[]).run Tryz.prog w= .ok (bdv ⟨0,0,0⟩) w:=by kernel_rfl
theorem KO(w:World):(Instr.build 24 #[(0,.int .u16 10)]).run Tryz.prog w= .ok (u4v [10,0,0,0]) w:=by kernel_rfl
theorem DB:bdz ⟨0,0,0⟩=0:=by kernel_rfl
theorem Dx:iB (acU [10,0,0,0] 4)=10:=by kernel_rfl
structure KSt(i:Nat)(q:Wl)(y:Bm)(z:Nat)(m:Nm):Prop where
 tr:q.c.tr=Tr.new bF 0
 ns:q.c.ns=[(bF,z,m)]
 ps:q.c.ps.map Em.en=kP i
 nb:q.nb=kN i
 ss:q.ss.map (·.t)=[kS 0,kS 1].take i
 bs:q.bs=[y]
 yb:y.b=(bK cF).b
 mx:m.x=bK cF
 mf:m.f=kf0
 mt:m.t=kt0
 ok:kt q.c 0
theorem KSt.tip{i:Nat}{q:Wl}{y:Bm}{z:Nat}{m:Nm}(h:KSt i q y z m):ar q.c.ns q.c.tr.tip=some (z,m):=by
 rw[h.ns,h.tr]
 exact if_pos rfl
theorem xe:dY 256 []:=Ad (by decide)
theorem B6:∀i,(kN i).length≤10
 |0=>by decide
 |1=>show 1≤10 by decide
 |_+2=>show 2≤10 by decide
theorem yY{y:Bm}(h:y.b=(bK cF).b):aK y.b=bF:=by rw[h];rfl
theorem y9{b:Bd}{l:List Nat}{q:Wl}{y:Bm}(h:D6 b l q y)(hf:b.fork≤1000):yp q 0:=by
 obtain⟨z,m,hns,hmx,hmf,hmt,hme⟩:=h.ns
 have hl:∀d,ar q.c.ns d=if bF=d then some (z,m) else none:=fun d=>by
  rw[hns]
  rfl
 refine⟨⟨by rw[h.tr];exact nB _ _,by rw[h.tr];show b.fork.toNat≤1000;omega,by rw[h.ps];exact xe,fun d=>?_,fun d x hx=>?_⟩,fun x hx=>?_,by rw[h.bs];exact Nat.zero_lt_succ _,by rw[h.nb];decide,by rw[h.ss];decide,by rw[h.bs,List.length_singleton];decide⟩
 ·rw[hl,h.tr]
  show(if bF=d then some kd0 else none).isSome=_
  by_cases e:bF=d
  ·rw[if_pos e,if_pos e];rfl
  ·rw[if_neg e,if_neg e];rfl
 ·rw[hl] at hx
  by_cases e:bF=d
  ·rw[if_pos e] at hx
   obtain rfl:=Option.some.inj hx
   show 0≤m.x.ht∧m.x.ht≤0∧(m.t.n:Int)≤64*m.x.ht
   rw[hmx,hmt]
   exact⟨Int.le_refl _,Int.le_refl _,Int.le_refl _⟩
  ·rw[if_neg e] at hx;cases hx
 ·rw[h.bs,List.mem_singleton] at hx
  subst hx
  refine⟨(z,m),?_,?_⟩
  ·rw[hl,yY h.y,if_pos rfl]
  ·rw[h.y]
   show m.x.b=_
   rw[hmx]
theorem JP{q:Wl}{y:Bm}(h:D6 ⟨0,0,0⟩ [10,0,0,0] q y):∃z m,KSt 0 q y z m:=by
 obtain⟨z,m,hns,hmx,hmf,hmt,hme⟩:=h.ns
 exact⟨z,m,h.tr,hns,by rw[h.ps];rfl,h.nb,by rw[h.ss];rfl,h.bs,h.y,hmx,hmf,hmt,(y9 h (by decide)).ch⟩
def gMb:GD:=⟨Bm,bm0,fun x=> .tuple #[bkv x,.int .i64 0],fun x w=>x.b=kB∧x.In 0 w⟩
theorem xL(x:gMb.X):cp [] (gMb.phi x):=fun w w' hk h=>⟨h.1,h.2.kp0 hk⟩
theorem B0{m:Nm}(hx:m.x=bK cF)(hf:m.f=kf0){l:List En}(hl:l=kP 2):(⟨bF,m.x.ht+1,d1 8,mkL (d1 8) m.f [] (tkL l [])⟩:Bl)=kB:=by
 rw[hl,JR,hf,JT,hx]
 rfl
theorem JS{q:Wl}{y:Bm}{z:Nat}{m qn:Nm}(h:KSt 2 q y z m)(hr:∃p,ar q.c.ns kB.par=some p∧ij q.nb kB.ht kB.mkr p.2.f p.2.t [] kB.txs=(0,qn.f,qn.t,qn.es)):qn.f=kf2∧qn.es=[0,21]:=by
 obtain⟨p,h1,h2⟩:=hr
 rw[h.ns] at h1
 have h1:some (z,m)=some p:=by rw[←h1];exact(if_pos rfl).symm
 obtain rfl:=Option.some.inj h1
 have h2:ij q.nb 1 (d1 8) m.f m.t [] [kS 0,kS 1]=(0,qn.f,qn.t,qn.es):=h2
 rw[h.nb,h.mf,h.mt,BU] at h2
 simp only[Prod.mk.injEq] at h2
 exact⟨h2.2.1.symm,h2.2.2.2.symm⟩
theorem Dw{l:List Tm}(h:l.map (·.t)=[kS 0,kS 1]):∃a b,l=[a,b]∧b.t=kS 1:=by
 have hl:l.length=2:=by
  have:=congrArg List.length h
  rw[List.length_map] at this
  exact this
 match l,hl with
 |[a,b],_=>
  simp only[List.map_cons,List.map_nil,List.cons.injEq,and_true] at h
  exact⟨a,b,rfl,h.2⟩
theorem Ep{w:World}{L:Env}{d:Option Nat}{ty:TypeId}{pos:String}{af:Array Edge}{g:Option (Nat×Bool)}{S:List Nat}{F:World→Prop}{x:Operand}{k:Dg}{p:Pu}(hx:rho L x=acv (qG k p)):aO Tryz.prog S w F L ⟨d,.field 59 x 1,ty,pos,af,g⟩ (.int .i64 p.money):=
 dF (dc k) [.int .i64 p.nonce] hx rfl (by simp[acl,qG]) (by simp[ah])
attribute [local irreducible] CG NG SG aO Der Row Blk az aH bz aK aU bF kf0 kf2 kG aN sgn gv oR wH adZ
theorem oZ{w:World}{n bw:Nat}{tot:Int}{q:Wl}(h:iL w n tot bw q){y:Bm}{l:List Bm}(hb:q.bs=y::l)(hr:aU y.b=0):Ret Tryz.prog 52 #[.pointer (some ⟨bw,0,none⟩)] w (dv (aK y.b)):=by
 refine aQ Tryz.func52 rfl Tryz.ntmps52 rfl ?_
 repeat apply gst
 refine SG.alloc rfl rfl rfl (fun b2 w1 hk1 hb2 hB2=>?_)
 have h1:=h.kp0 hk1
 obtain⟨a,c,ev,hc,hS⟩:=Sl.own aB h1.bl rfl
 have hl:0<q.bs.length:=by rw[hb];exact Nat.zero_lt_succ _
 obtain⟨ba,off,rfl,hrow⟩:=hS.at hl
 have e0:q.bs[0]=y:=by simp[hb]
 rw[e0] at hrow
 have hrow:Row w1 ba (off+(0:Int).toNat*18) (bkc y):=hrow
 obtain⟨-,-,-,z3⟩:=cu h1.blk
 rw[ev] at z3
 repeat (first|apply gst|(apply gsv;rfl;(first|apply qnc|apply qmv|apply qlc|apply qla|apply qfa|apply qic)<;>first|rfl|(apply Ar.mk;omega)|assumption|exact List.not_mem_nil|apply aB))
 have hnm:=dD (h1.bi y (by rw[hb];exact List.mem_cons_self))
 rw[show orZ y.b (aK y.b)= .tuple #[dv (aK y.b),.int .i64 0] from if_pos hr] at hnm
 refine SG.ret rfl rfl rfl (vs:=[bkv y]) (Evs.of rfl) hnm (fun w2 hk2=>?_)
 clear z3 hrow
 repeat (apply gsv;rfl;(first|apply qmv|apply qxt)<;>rfl)
 refine SG.alloc rfl rfl rfl (fun b3 w3 hk3 hb3 hB3=>?_)
 refine SG.aG (l:=dc (aK y.b)) rfl rfl (ag rfl) (ag rfl) hB3 (ah _) rfl (aR _) (fun w4 hk4 hB3=>?_)
 have k24:=hk2.trans (hk3.ai hk4 (bf hb3))
 have r3:Row w4 b3 0 (dc (aK y.b)):=Row.all hB3 rfl
 repeat (first|apply gst|(apply gsv;rfl;(first|apply qas|apply qla)<;>first|rfl|assumption|exact List.not_mem_nil|apply ah))
 refine SG.aG (l:=dc (aK y.b)) rfl rfl (ag rfl) (ag rfl) (hB2.kp0 k24) (ah _) rfl (aR _) (fun w5 hk5 hB5=>?_)
 have hr:Row w5 b2 0 (dc (aK y.b)):=Row.all hB5 rfl
 clear r3
 repeat apply gst
 refine aS (Or.inl rfl) Tryz.results52 (aC.agg rfl rfl hr (ah _)) ?_
 exact⟨rfl,(hk1.trans k24).ai hk5 (bf hb2)⟩
theorem lh(w:World):Ret Tryz.prog 10 #[] w (.bool true):=by
 refine uI Tryz.func10 rfl Tryz.ntmps10 ?_
 repeat (first|apply gst|(apply gsv;rfl;apply qas<;>rfl))
 refine SG.val rfl rfl rfl rfl (au rfl Lh) ?_
 refine SG.val rfl rfl rfl rfl (au rfl KO) ?_
 refine SG.call rfl rfl rfl (vs:=[bdv ⟨0,0,0⟩,u4v [10,0,0,0]]) (Evs.of rfl) ((jQ w DB (by decide) (l:=[10,0,0,0]) (by decide)).mono (fun e w1 hh=>?_))
 obtain⟨hk1,bw,q,y,rfl,h1,hB⟩:=hh
 refine⟨_,rfl,?_⟩
 rw[Dx] at h1
 obtain⟨z,m,hK⟩:=JP hB
 repeat (first|apply gst|(apply gsv;rfl;(first|apply qep|apply qmv|apply qas)<;>rfl))
 refine gcf rfl ?_
 obtain⟨n,hn⟩:∃n,w.heap.size=n:=⟨_,rfl⟩
 rw[hn] at h1
 clear hB
 repeat (first|apply gst|(apply gsv;rfl;apply qmv<;>rfl))
 refine CG.loop (X:=Nat×Wl) (fun p=>[(0,.bool false),(1,.pointer (some ⟨bw,0,none⟩)),(15,.int .i64 (p.1:Int))])
  (fun p w'=>p.1≤2∧Kp [] w w'∧iL w' n 10 bw p.2∧KSt p.1 p.2 y z m) (fun p=>2-p.1) (0,q) ⟨Nat.zero_le _,hk1,h1,hK⟩ (aZ.of rfl) ?_
 clear hK h1 hk1
 rintro⟨i,q⟩ w1 ⟨hi,hk1,h1,hK⟩
 simp only at hi h1 hK
 refine CG.to [(0,.bool false),(1,.pointer (some ⟨bw,0,none⟩)),(15,.int .i64 (i:Int))] (aZ.of rfl) ?_
 by_cases hlt:i<2
 ·have g1:(i:Int)<2:=by omega
  obtain⟨-,z1,-,-⟩:=cu h1.blk
  have hNb:=h1.nb
  have niw:=hNb.nin h1.blk (by decide) (by decide)
  have hS:∀x∈q.c.vb::q.pm::aT q.vN,x<w1.heap.size:=fun x hx=>by
   rcases List.mem_cons.1 hx with rfl|hx
   ·exact hNb.blk.lt
   rcases List.mem_cons.1 hx with rfl|hx
   ·exact hNb.map.lt
   exact bR hNb.own x (ay hx)
  repeat (first|apply gst|(apply gsv;rfl;apply qls<;>first|rfl|(apply dct;first|assumption|omega)))
  refine gct rfl ?_
  repeat (first|apply gst|(apply gsv;rfl;(first|apply qmv|apply qas)<;>rfl))
  refine CG.Al mixed (q.c.vb::q.pm::aT q.vN,10) 16 [0,1,4,5,6,7,8,9,2,3,10,11,12,13,14,15] [(2,gOP w1.heap.size 5 by1 1 (kG (d1 9) 7) (fun v=>v)),(10,gSg (sgn q.nb (kU (i:Int)) (d1 1)).2.1 (sgn q.nb (kU (i:Int)) (d1 1)).1 w1.heap.size n q.c.vb q.pm q.vN (sgn q.nb (kU (i:Int)) (d1 1)).2.2),(14,gV w1.heap.size 52 13),(15,gP w1.heap.size 52)] (by kernel_rfl) ?_ ?_
  ·intro p hp
   simp only[List.mem_cons,List.mem_nil_iff,or_false] at hp
   rcases hp with rfl|rfl|rfl|rfl
   ·exact xJ
   ·exact qo
   ·exact lV
   ·exact lX
  have hwn:n≤w1.heap.size:=h1.ch.w0
  have hnl:q.nb.length≤10:=by rw[hK.nb];exact B6 i
  repeat (apply gxv;rfl;rfl;apply qmv<;>rfl)
  refine bz.val rfl rfl rfl rfl (au rfl (fun W=>bd1 9 W)) ?_
  repeat (apply gxv;rfl;rfl;(first|apply qnc|apply qmv|apply qlc|apply qfa)<;>first|rfl|assumption)
  refine bz.val rfl rfl rfl rfl (au rfl (fun W=>bd1 1 W)) ?_
  skip
  refine bz.call rfl rfl rfl rfl (vs:=[.pointer (some ⟨q.c.vb,0,none⟩),dv (d1 1)]) (Evs.of rfl) (fun W _ _=>jA q.c.vb (d1 1) W) ?_
  refine bz.uY (vs:=[dv (d1 9),.int .i64 7]) (gOP w1.heap.size 5 by1 1 (kG (d1 9) 7) (fun v=>v)) rfl rfl rfl rfl (Evs.of rfl) (fun W hk hF=>(kV (d1 9) 7 W).mono (fun e W' hh=>?_)) (fun v=>?_)
  ·obtain⟨v,he,ho,hk'⟩:=hh
   obtain⟨a,c,rfl,-⟩:=Bs.own ho
   exact⟨(a,c),he,bW ho hk.size,hk'⟩
  refine bz.val rfl rfl rfl rfl (au rfl (fun W=>KP W _ _ v.1 _ v.2)) ?_
  refine bz.Cr (vs:=[txv ⟨kU (i:Int),v.1,v.2,none,0⟩,.iface 197 (wrv q.c.vb (d1 1))]) (gSg (sgn q.nb (kU (i:Int)) (d1 1)).2.1 (sgn q.nb (kU (i:Int)) (d1 1)).1 w1.heap.size n q.c.vb q.pm q.vN (sgn q.nb (kU (i:Int)) (d1 1)).2.2) rfl rfl rfl rfl rfl (Evs.of rfl) (fun W hk hF=>?_) ?_ (fun y2=>?_)
  ·have ho:W.ownsRow w1.heap.size 5 1 (.slice v.1 (kG (d1 9) 7).length v.2) (kG (d1 9) 7).length (flt by1 (kG (d1 9) 7)):=hF _ (.head _) (by kernel_rfl)
   obtain⟨a',c',e,hB⟩:=Bs.own ho
   simp only[Value.slice.injEq,true_and] at e
   obtain⟨e1,e2⟩:=e
   rw[←e1,←e2] at hB
   have hx:Tm.In ⟨kU (i:Int),v.1,v.2,none,0⟩ 0 W:=⟨hB,Bs.nil,Or.inl (Ty.own ho),Or.inl (fun h=>absurd rfl h),by show(kG (d1 9) 7).length≤_;rw[yJ];decide,by show 0≤_;exact Nat.zero_le _⟩
   refine(kM (hNb.kp0 hk) (Nat.le_trans hwn hk.size) (by omega) hx (d1 1)).mono (fun e W2 hh=>?_)
   obtain⟨y,v',he,h1,h2,h3,h4,h5,h6,h7⟩:=hh
   exact⟨(y,v'),he,⟨⟨⟨h1,h7⟩,fun g hg=>(h5 g hg).elim Or.inl (fun h=>Or.inr (Nat.le_trans hk.size h))⟩,h2,h3,bW h6 hk.size⟩,h4⟩
  ·intro j hj W1 W2 y hk hp
   refine nL (q:=fun D=>∀y,D.phi y W1→D.phi y W2) (fun _ _=>trivial) (fun p hp hne y hy=>?_) j hj y hp
   simp only[List.mem_cons,List.mem_nil_iff,or_false] at hp
   rcases hp with rfl|rfl|rfl|rfl
   ·exact cG hy hk (fun b hb hm=>by have h1:=bE hy b hb;have h2:=hS b hm;omega)
   ·exact absurd rfl hne
   ·exact Cb hS hk y hy
   ·exact Cc hS hk y hy
  repeat (apply gxv;rfl;rfl;(first|apply qmv|apply qxt)<;>rfl)
  refine bz.qB rfl rfl rfl rfl rfl (Nat.le_refl _) (fun b3=>?_)
  refine bz.pU (l:=txc y2.1) rfl rfl rfl rfl (by kernel_rfl) (ag rfl) (ag rfl) (aj _) (Nat.le_refl _) (fun W hk hF=>⟨hF _ (.head _) (by kernel_rfl),bD _⟩) ?_ ?_
  ·intro p hp hne y w w' cs g0 g1 g2 g3 g4 g5
   simp only[List.mem_cons,List.not_mem_nil,or_false] at hp
   rcases hp with rfl|rfl|rfl|rfl
   ·exact cG g5 g3 (bL g5 (by decide) g1)
   ·exact qp g1 g3 y g5
   ·exact lW (aj _) g3 g4 g5
   ·exact absurd rfl hne
  refine bz.tl (fun w2 hk2 hF=>?_)
  obtain⟨lb3,hB3⟩:w1.heap.size≤b3∧Blk w2 b3 (.cells (txc y2.1).toArray 52):=hF _ (.head _)
  obtain⟨⟨⟨hy,-⟩,-⟩,hyI,hN2,-⟩:((y2.1.t=(sgn q.nb (kU (i:Int)) (d1 1)).2.1∧(y2.1.t.body≠[]→∀b off,y2.1.a1=some ⟨b,off,none⟩→b∉aT y2.1.s))∧∀g,y2.2.ownBlock=some g→q.vN.ownBlock=some g∨w1.heap.size≤g)∧y2.1.In 0 w2∧dP w2 n q.c.vb q.pm y2.2 (sgn q.nb (kU (i:Int)) (d1 1)).2.2∧w2.ownsRow w1.heap.size 5 1 y2.1.s y2.1.t.sig.length (flt by1 y2.1.t.sig):=hF _ (.tail _ (.tail _ (.head _)))
  obtain⟨y2,v2⟩:=y2
  simp only at hB3 hy hyI hN2
  clear hF z1
  rw[hK.nb,BT hlt] at hy hN2
  simp only at hy hN2
  rw[show(gSg (sgn q.nb (kU (i:Int)) (d1 1)).2.1 (sgn q.nb (kU (i:Int)) (d1 1)).1 w1.heap.size n q.c.vb q.pm q.vN (sgn q.nb (kU (i:Int)) (d1 1)).2.2).val (y2,v2)= .tuple #[txv y2,.int .i64 (sgn q.nb (kU (i:Int)) (d1 1)).1] from rfl]
  rw[hK.nb,BT hlt]
  have h2:=h1.sgn hk2 hN2
  obtain⟨q2,hq2⟩:∃q2,({q with vN:=v2,nb:=kN (i+1)}:Wl)=q2:=⟨_,rfl⟩
  have e1:q2.c=q.c:=by rw[←hq2]
  have e2:q2.ss=q.ss:=by rw[←hq2]
  have e3:q2.bs=q.bs:=by rw[←hq2]
  have e4:q2.nb=kN (i+1):=by rw[←hq2]
  have e5:q2.vs=q.vs:=by rw[←hq2]
  rw[hq2] at h2
  obtain⟨z0,-,-,-⟩:=cu h2.blk
  have r3:Row w2 b3 0 (txc y2):=Row.all hB3 rfl
  repeat (first|apply gst|(apply gsv;rfl;apply qas<;>rfl))
  refine CG.tail mixed 8 [0,1,2,3,4,5,6,7] (by kernel_rfl) ?_
  repeat (apply gdv;rfl;rfl;(first|apply qnc|apply qmv|apply qlc|apply qla|apply qfa|apply qni)<;>first|rfl|assumption|(apply dct;first|assumption|omega)|exact List.not_mem_nil|apply aj)
  refine Der.tl (fun w3 hk3 _ _=>?_)
  have h3:=h2.kp0 hk3
  have hq:ar q2.c.ns q2.c.tr.tip=some (z,m):=by rw[e1];exact hK.tip
  have hpool:dY 256 (q2.c.ps.map Em.en):=by rw[e1];exact hK.ok.pool
  have hps:q2.c.ps.map Em.en=kP i:=by rw[e1];exact hK.ps
  have hy3:y2.In n w3:=(hyI.mono (Nat.zero_le n)).kp0 hk3
  obtain⟨k1,k2⟩:=Dy hlt hK.mx hK.mf
  clear z0 r3
  refine SG.call rfl rfl rfl (vs:=[.pointer (some ⟨q2.c.cb,0,none⟩),txv y2]) (Evs.of rfl) ((jy h3.ch h3.nb hpool hy3 hq).mono (fun e w4 hh=>?_))
  obtain⟨rfl,pv',ps',hC4,eps,hk4,-⟩:=hh
  have okq2:kt q2.c 0:=by rw[e1];exact hK.ok
  have ok4:=okq2.sub (pv:=pv') eps
  rw[hps,e4,hy] at eps
  rw[hps,e4,hy]
  have eps:ps'.map Em.en=kP (i+1):=by rw[eps];exact k2
  have k1:oR (kN (i+1)) (z,m).2 (kP i) (kS i)=0:=k1
  rw[k1]
  refine⟨_,rfl,?_⟩
  have hcnd:Cnd n CT [q2.c.tm,q2.c.nm] w3 (q2.c.pb::aT q2.c.pv):=h3.ch.pool.cnd
  have h4:=h3.chn hk4 hcnd hC4 ⟨rfl,rfl,rfl,rfl⟩ (fun p hp=>Or.inl hp)
  have hy4:y2.In n w4:=hy3.cnd hk4 hcnd (by decide)
  have hB34:Blk w4 b3 (.cells (txc y2).toArray 52):=hcnd.blk hk4 (hB3.kp0 hk3) (by decide)
  obtain⟨q4,hq4⟩:∃q4,({q2 with c:={q2.c with pv:=pv',ps:=ps'}}:Wl)=q4:=⟨_,rfl⟩
  have f1:q4.c={q2.c with pv:=pv',ps:=ps'}:=by rw[←hq4]
  have f2:q4.ss=q.ss:=by rw[←hq4];exact e2
  have f3:q4.bs=q.bs:=by rw[←hq4];exact e3
  have f4:q4.nb=kN (i+1):=by rw[←hq4];exact e4
  have f5:q4.vs=q.vs:=by rw[←hq4];exact e5
  rw[hq4] at h4
  repeat (first|apply gst|(apply gsv;rfl;(first|apply qpk|apply qni)<;>first|rfl|(apply dct;first|assumption|omega)))
  refine gcf rfl ?_
  obtain⟨-,-,z2,-⟩:=cu h4.blk
  have r5:Row w4 b3 0 (txc y2):=Row.all hB34 rfl
  have hSl:∀z∈aT q4.vs,z<w4.heap.size:=fun z hz=>bR h4.sg z (ay hz)
  have s12:=hk2.size
  have n3:b3∉aT q4.vs:=fun hm=>by
   rw[f5] at hm
   have h1:=bR h1.sg b3 (ay hm)
   omega
  have nw:bw∉aT q4.vs:=fun hm=>bL h4.sg (by decide) h4.blk bw (ay hm) (List.mem_singleton.2 rfl)
  have hsl2:q4.ss.length≤10:=by
   rw[f2]
   have:=congrArg List.length hK.ss
   rw[List.length_map] at this
   rw[this,List.length_take]
   exact Nat.le_trans (Nat.min_le_left _ _) (by omega)
  have hn4:=h4.ch.w0
  repeat apply gst
  refine CG.dG mixed 8 [0,1,2,3,4,5,6,7] [6,7] (aT q4.vs) (fun W=>W.ownsRow n 52 13 q4.vs q4.ss.length (flt txc q4.ss)) (by kernel_rfl) h4.sg (fun _ _ hk h=>aI h hk) ?_
  repeat (apply gdv;rfl;rfl;(first|apply qnc|apply qmv|apply qlc|apply qla|apply qfa)<;>first|rfl|assumption|apply aj)
  refine Der.iZ (cs:=(txc y2).toArray) (E:=52) rfl rfl rfl rfl rfl (fun W=>A7 y2 W) hSl (fun W W' hk h=>trivial) (fun _ _ hk h=>aI h hk) (fun bn=>?_)
  apply Der.iJ (P:=Tryz.prog) (t:=41) (base:=n) (e:=52) (i:=Tryz.t52) (f:=ty.i52) (v:=q4.vs) (nn:=q4.ss.length) (xs:=flt txc q4.ss) (b:=bn) (off:=0) (m:=1) (c:=1) (news:=txc y2)
  iterate 4 exact rfl
  iterate 2 exact ag rfl
  iterate 3 exact rfl
  ·exact fun W hk hF=>Row.all hF.2.2 rfl
  ·rw[aj];rfl
  ·exact bD _
  ·simp only[maxLen];omega
  ·show(q4.ss.length+1)*80≤_;omega
  ·omega
  ·exact fun _ h=>h
  ·exact fun W W' hk hF=>⟨trivial,hF.2.1,hF.2.2.kp hk (fun hm=>by have:=hSl _ hm;have:=hF.2.1;omega)⟩
  intro v7
  refine Der.tl (fun w5 hk5 hF ho7=>?_)
  obtain⟨-,hv7⟩:=hF
  have ho7:w5.ownsRow n 52 13 v7 (q4.ss++[y2]).length (flt txc (q4.ss++[y2])):=by
   rw[bU,eR,List.length_append]
   exact ho7
  obtain⟨a7,c7,rfl⟩:=fM ho7
  have hbw5:=h4.blk.kp hk5 nw
  clear z2 r5
  repeat (apply gsv;rfl;(first|apply qnc|apply qfa)<;>rfl)
  refine SG.bG [.pointer (some ⟨q4.c.cb,0,none⟩),.pointer (some ⟨q4.c.vb,0,none⟩)] [q4.vs] [q4.vb] rfl rfl (ag rfl) (ag rfl) hbw5 rfl rfl rfl rfl rfl (fun w6 hk6 hB6=>?_)
  have h6:=h4.put hk5 ho7 hv7 hy4 hk6 hB6
  repeat (first|apply gst|(apply gsv;rfl;(first|apply qmv|apply qad)<;>first|rfl|(apply Ar.mk;omega)))
  refine NG.round (i+1,{q4 with vs:= .slice a7 (q4.ss++[y2]).length c7,ss:=q4.ss++[y2]}) (aZ.of rfl) ⟨hlt,?_,h6,?_⟩ (by simp only;omega)
  ·have hz:∀z∈q.c.vb::q.pm::aT q.vN,z∈([]:List Nat)∨w.heap.size≤z:=fun x hx=>by
    rw[hn]
    rcases List.mem_cons.1 hx with rfl|hx
    ·exact Or.inr hNb.bp
    rcases List.mem_cons.1 hx with rfl|hx
    ·exact Or.inr hNb.pp
    exact Or.inr (bE hNb.own x (ay hx))
   refine(((((hk1.ai hk2 hz).trans hk3).ai hk4 (fun x hx=>Or.inr (by rw[hn];exact(hcnd x hx).1))).ai hk5 (fun x hx=>Or.inr (by rw[hn];exact bE h4.sg x (ay hx)))).ai hk6 (bf (by rw[hn];exact h4.bn)))
  ·refine⟨?_,?_,?_,?_,?_,?_,hK.yb,hK.mx,hK.mf,hK.mt,?_⟩
   ·show q4.c.tr=_
    rw[f1]
    show q2.c.tr=_
    rw[e1]
    exact hK.tr
   ·show q4.c.ns=_
    rw[f1]
    show q2.c.ns=_
    rw[e1]
    exact hK.ns
   ·show q4.c.ps.map Em.en=_
    rw[f1]
    exact eps
   ·show q4.nb=_
    exact f4
   ·show(q4.ss++[y2]).map (·.t)=_
    rw[f2,List.map_append,hK.ss]
    show _++[y2.t]=_
    rw[hy]
    match i,hlt with
    |0,_=>rfl
    |1,_=>rfl
   ·show q4.bs=_
    rw[f3]
    exact hK.bs
   ·show kt q4.c 0
    rw[f1]
    exact ok4
 ·have g1:¬(i:Int)<2:=by omega
  have e2:i=2:=by omega
  subst e2
  repeat (first|apply gst|(apply gsv;rfl;apply qls<;>first|rfl|(apply dcf;first|assumption|omega)))
  refine gcf rfl ?_
  obtain⟨z0,-,-,-⟩:=cu h1.blk
  have hfst:aK y.b=bF:=yY hK.yb
  have hrt:aU y.b=0:=by rw[hK.yb];exact uw
  have hxh:m.x.ht=0:=by rw[hK.mx];rfl
  have htn:m.t.n=0:=by rw[hK.mt];rfl
  have hkm:=B0 hK.mx hK.mf hK.ps
  have hwn:=h1.ch.w0
  repeat apply gst
  refine CG.free mixed 13 [0,1,2,3,4,5,6,7,8,9,10,11,12] [(7,gMb),(11,gV w1.heap.size 50 18),(12,gP w1.heap.size 50)] (by kernel_rfl) ?_ ?_
  ·intro p hp
   simp only[List.mem_cons,List.mem_nil_iff,or_false] at hp
   rcases hp with rfl|rfl|rfl
   ·exact xL
   ·exact lV
   ·exact lX
  repeat (apply gxv;rfl;rfl;(first|apply qnc|apply qmv|apply qlc|apply qfa)<;>first|rfl|assumption|exact List.not_mem_nil)
  refine bz.call rfl rfl rfl rfl (vs:=[.pointer (some ⟨bw,0,none⟩)]) (v:=dv bF) (Evs.of rfl) (fun W hk _=>by
   have:=oZ (h1.kp0 hk) hK.bs hrt
   rw[hfst] at this
   exact this) ?_
  refine bz.val rfl rfl rfl rfl (au rfl (fun W=>bd1 8 W)) ?_
  refine bz.uY (vs:=[.pointer (some ⟨q.c.cb,0,none⟩),dv bF,dv (d1 8),.slice none 0 0]) gMb rfl rfl rfl rfl (Evs.of rfl) (fun W hk hF=>(nG (h1.kp0 hk).ch (by decide) hK.ok.pool bF (d1 8) (q:=(z,m)) (by rw[hK.ns];exact if_pos rfl) ⟨by rw[hxh];decide,by rw[hxh];decide⟩ (by rw[htn];decide) (a0:=none) (c0:=0) (ls:=[]) Sl.nil (Nat.zero_le _)).mono (fun e W' hh=>?_)) (fun y3=>?_)
  ·obtain⟨y3,he,hb,hyI,-,hk'⟩:=hh
   exact⟨y3,he,⟨hb.trans hkm,hyI⟩,hk'⟩
  repeat (apply gxv;rfl;rfl;(first|apply qmv|apply qxt)<;>rfl)
  refine bz.qB rfl rfl rfl rfl rfl (Nat.le_refl _) (fun b5=>?_)
  refine bz.pU (l:=bkc y3) rfl rfl rfl rfl (by kernel_rfl) (ag rfl) (ag rfl) (aB _) (Nat.le_refl _) (fun W hk hF=>⟨hF _ (.head _) (by kernel_rfl),dh _⟩) ?_ ?_
  ·intro p hp hne y w w' cs g0 g1 g2 g3 g4 g5
   simp only[List.mem_cons,List.not_mem_nil,or_false] at hp
   rcases hp with rfl|rfl|rfl
   ·exact⟨g5.1,g5.2.wr g3 (Nat.zero_le _) g1⟩
   ·exact lW (aB _) g3 g4 g5
   ·exact absurd rfl hne
  refine bz.tl (fun w2 hk2 hF=>?_)
  obtain⟨lb5,hB5⟩:w1.heap.size≤b5∧Blk w2 b5 (.cells (bkc y3).toArray 50):=hF _ (.head _)
  obtain⟨hyb,hyI⟩:Bm.b y3=kB∧Bm.In y3 0 w2:=hF _ (.tail _ (.tail _ (.head _)))
  clear hF z0
  have h2:=h1.kp0 hk2
  obtain⟨z0,-,-,-⟩:=cu h2.blk
  have r5:Row w2 b5 0 (bkc y3):=Row.all hB5 rfl
  repeat (first|apply gst|(apply gsv;rfl;apply qas<;>rfl))
  refine CG.tail mixed 8 [0,1,2,3,4,5,6,7] (by kernel_rfl) ?_
  repeat (apply gdv;rfl;rfl;(first|apply qnc|apply qmv|apply qlc|apply qla|apply qfa|apply qni)<;>first|rfl|assumption|(apply dct;first|assumption|omega)|exact List.not_mem_nil|apply aB)
  refine Der.tl (fun w3 hk3 _ _=>?_)
  have h3:=h2.kp0 hk3
  have l1:=h3.ch.tree.map.lt
  have l2:=h3.ch.map.lt
  have l3:=h3.nb.map.lt
  have hy3:Bm.In y3 n w3:=(Bm.In.up hyI (Nat.zero_le n)).kp0 hk3
  have haz:adZ q.nb q.c (Bm.b y3)=0:=by rw[hyb,hK.nb];exact DC hK.ns hK.tr hK.mx hK.mf hK.mt
  clear z0 r5
  refine SG.call rfl rfl rfl (vs:=[.pointer (some ⟨q.c.cb,0,none⟩),bkv y3]) (Evs.of rfl) ((oo h3.ch hK.ok (by decide) (by decide) (fun z hz=>by
   simp only[List.mem_cons,List.mem_nil_iff,or_false] at hz
   rcases hz with rfl|rfl|rfl
   ·exact l1
   ·exact l2
   ·exact l3) h3.nb hy3).mono (fun e w4 hh=>?_))
  obtain⟨rfl,hh⟩:=hh
  refine⟨_,rfl,?_⟩
  obtain⟨-,hA⟩:=hh.elim (fun g=>absurd haz g.1) id
  obtain⟨pv',ps',z2,qn,hC4,hqb,hr,hps,hk4,-,hfr⟩:=hA
  have h4:=h3.chn hk4 h3.ch.A6 hC4 ⟨rfl,rfl,rfl,rfl⟩ (fun p hp=>(mu hp).elim (fun e=>Or.inr (by rw[e];exact hfr)) Or.inl)
  have ok4:=hK.ok.added haz (pv:=pv') hqb hr hps
  rw[haz]
  repeat (first|apply gst|(apply gsv;rfl;(first|apply qpk|apply qni)<;>first|rfl|(apply dct;first|assumption|omega)))
  refine gcf rfl ?_
  rw[hyb] at hr hqb h4 ok4
  obtain⟨kqf,kqe⟩:=JS hK hr
  rw[hK.ns,hK.tr,Eh] at h4 ok4
  obtain⟨c4,hc4⟩:∃c4,({q.c with pv:=pv',ps:=ps',tr:=(Tr.new bF 0).put (aK kB) bF,ns:=cy [(bF,z,m)] (aK kB) (z2,qn)}:Cm)=c4:=⟨_,rfl⟩
  have g1:c4.tr=(Tr.new bF 0).put (aK kB) bF:=by rw[←hc4]
  have g2:c4.ns=cy [(bF,z,m)] (aK kB) (z2,qn):=by rw[←hc4]
  have h4:iL w4 n 10 bw {q with c:=c4}:=by rw[←hc4];exact h4
  have ok4:kt c4 (0+1):=by rw[←hc4];exact ok4
  obtain⟨q4,hq4⟩:∃q4,({q with c:=c4}:Wl)=q4:=⟨_,rfl⟩
  have f1:q4.c=c4:=by rw[←hq4]
  have f2:q4.ss=q.ss:=by rw[←hq4]
  rw[hq4] at h4
  obtain⟨xa,xb,hss,hxb⟩:=Dw (l:=q4.ss) (by rw[f2];exact hK.ss)
  have hmm:ar q4.c.ns q4.c.tr.tip=some (z2,qn):=by rw[f1,g1,g2,BS,bu,if_pos rfl]
  have hfind:jd q4.c.ns (aN xb.t) (q4.c.tr.line q4.c.tr.tip)=some (1,21):=by
   rw[f1,g1,uv,hxb]
   exact B1 g2 hK.mx hqb kqe
  have hln:∀d∈q4.c.tr.line q4.c.tr.tip,∃q,ar q4.c.ns d=some q:=fun d hd=>by
   rw[f1,g1,uv] at hd
   rw[f1,g2]
   simp only[List.mem_cons,List.mem_nil_iff,or_false] at hd
   rcases hd with rfl|rfl
   ·exact⟨(z,m),by rw[bu,if_neg ux];exact if_pos rfl⟩
   ·exact⟨(z2,qn),by rw[bu,if_pos rfl]⟩
  have hll:(q4.c.tr.line q4.c.tr.tip).length≤100000:=by
   rw[f1,g1,uv]
   decide
  have wf4:q4.c.tr.WF:=by rw[f1];exact ok4.wf
  clear hr hqb hps hfr hc4 g1 g2 ok4 hB5
  obtain⟨as4,cs4,ev4,hcs4,hS4⟩:=Sl.own aj h4.sg rfl
  have l2s:1<q4.ss.length:=by rw[hss];exact Nat.lt_succ_self 1
  obtain⟨ba,off,rfl,hrow⟩:=hS4.at l2s
  have e1:q4.ss[1]=xb:=by simp only[hss];rfl
  rw[e1] at hrow
  have hrow:Row w4 ba (off+(1:Int).toNat*13) (txc xb):=hrow
  have hl2:q4.ss.length=2:=by rw[hss];rfl
  obtain⟨z0,-,z2',-⟩:=cu h4.blk
  rw[ev4,hl2] at z2'
  have hxI:xb.In n w4:=h4.si xb (by rw[hss];simp)
  repeat apply gst
  refine CG.hZ mixed [0,1,2,3,4,5,6,7,8,9,10,11,12,13,14,17] [(15,16,7,.tmp 89)] (by kernel_rfl) (by kernel_rfl) ?_
  repeat (apply gdv;rfl;rfl;(first|apply qnc|apply qmv|apply qlc|apply qla|apply qfa|apply qic)<;>first|rfl|(apply Ar.mk;omega)|assumption|exact List.not_mem_nil|apply aj)
  refine Der.call rfl rfl rfl (vs:=[txv xb]) (Evs.of rfl) (fun W hk _=>fk (hxI.kp0 hk)) ?_
  refine Der.call rfl rfl rfl (v:= .tuple #[.agg (dnc (1,21)).toArray,.bool true]) (vs:=[.pointer (some ⟨q4.c.cb,0,none⟩),dv (aN xb.t)]) (Evs.of rfl) (fun W hk _=>by
   have:=rZ (h4.kp0 hk).ch wf4 hll hln (aN xb.t)
   rw[hfind] at this
   exact this) ?_
  repeat (apply gdv;rfl;rfl;(first|apply qmv|apply qas|apply qxt)<;>rfl)
  refine Der.one (iM.of (by rfl) rfl rfl rfl (ag rfl) (by rfl) (by rfl) (by rfl)) (fun b7 w5 hk5 hb7 hB7=>?_)
  have h5:=h4.kp0 hk5
  clear z0 z2' hrow
  obtain⟨z0,-,-,-⟩:=cu h5.blk
  repeat (first|apply gst|(apply gsv;rfl;(first|apply qnc|apply qmv|apply qlc|apply qfa)<;>first|rfl|assumption|exact List.not_mem_nil))
  refine SG.call rfl rfl rfl (vs:=[.pointer (some ⟨q4.c.cb,0,none⟩)]) (Evs.of rfl) ((j3 h5.ch hmm).mono (fun e w6 hh=>?_))
  obtain⟨bt,bm,mk,rfl,hbk,hbi,-,-,hk6⟩:=hh
  refine⟨_,rfl,?_⟩
  clear z0
  have hB76:=hB7.kp0 hk6
  have r0:Row w6 b7 0 [.int .i64 1]:=Row.of hB76 [] [.int .i64 21] rfl rfl
  have r1:Row w6 b7 1 [.int .i64 21]:=Row.of hB76 [.int .i64 1] [] rfl rfl
  have hbf:bal mk=kf2:=hbi.eq.trans kqf
  have b1:∀{W:World},Kp [] w6 W→Ret Tryz.prog 19 #[.pointer (some ⟨bt,0,none⟩),dv (d1 1)] W (acv (qG (d1 1) (kf2 (d1 1)))):=fun hk=>by
   have:=ib (hbk.kp0 hk) (d1 1)
   rw[hbf] at this
   exact this
  have b8:∀{W:World},Kp [] w6 W→Ret Tryz.prog 19 #[.pointer (some ⟨bt,0,none⟩),dv (d1 8)] W (acv (qG (d1 8) (kf2 (d1 8)))):=fun hk=>by
   have:=ib (hbk.kp0 hk) (d1 8)
   rw[hbf] at this
   exact this
  repeat (first|apply gst|(apply gsv;rfl;(first|apply qnp|apply qmv|apply qas|apply qlc|apply qfa|apply qpk|apply qei)<;>first|rfl|assumption|(apply dct;first|assumption|omega)|exact List.not_mem_nil))
  refine SG.val rfl rfl rfl rfl (au rfl (fun W=>bd1 1 W)) ?_
  refine SG.ret rfl rfl rfl (vs:=[.pointer (some ⟨bt,0,none⟩),dv (d1 1)]) (Evs.of rfl) (b1 (Kp.refl _ _)) (fun w7 hk7=>?_)
  refine SG.val rfl rfl rfl rfl (Ep rfl) ?_
  rw[JV]
  repeat (apply gsv;rfl;(first|apply qmv|apply qpk|apply qei)<;>first|rfl|(apply dct;first|assumption|omega))
  refine SG.val rfl rfl rfl rfl (au rfl (fun W=>bd1 8 W)) ?_
  refine SG.ret rfl rfl rfl (vs:=[.pointer (some ⟨bt,0,none⟩),dv (d1 8)]) (Evs.of rfl) (b8 hk7) (fun w8 hk8=>?_)
  refine SG.val rfl rfl rfl rfl (Ep rfl) ?_
  rw[JU]
  repeat (first|apply gst|(apply gsv;rfl;(first|apply qas|apply qpk|apply qei)<;>first|rfl|(apply dct;first|assumption|omega)))
  refine aS (Or.inl rfl) Tryz.results10 (aC.tmp rfl) ?_
  have hcn:Cnd n CT [q.c.tm,q.c.nm] w3 (chS q.c):=h3.ch.A6
  exact⟨rfl,(((((((hk1.trans hk2).trans hk3).ai hk4 (fun x hx=>Or.inr (by rw[hn];exact(hcn x hx).1))).trans hk5).trans hk6).trans hk7).trans hk8)⟩
end
end Go.Proofs.YtpnjgjddabeapaaGreatDoor
