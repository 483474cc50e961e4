import Derived.Test.YtpnjgjddabeapaaGreatDoorMa3
namespace Go.Proofs.YtpnjgjddabeapaaGreatDoor
set_option linter.all false
set_option maxHeartbeats 400000000
section
open Go.Proofs
open Classical in
noncomputable def zJ(a b:En):Bool:=decide (a=b)
open Classical in
noncomputable def rE(a b:List En):Bool:=decide (a=b)
theorem Cv{a b:En}(h:a=b):zJ a b=true:=by simp[zJ,h]
theorem wZ{a b:En}(h:a≠b):zJ a b=false:=by simp[zJ,h]
theorem yi{a b:List En}(h:a=b):rE a b=true:=by simp[rE,h]
theorem yj{a b:List En}(h:a≠b):rE a b=false:=by simp[rE,h]
theorem GM{l m:List Em}(hlm:l.length=m.length){i:Nat}(hi:i<l.length)(h:l[i].en≠(m[i]'(by omega)).en):l.map Em.en≠m.map Em.en:=fun e=>by
 have:=congrArg (fun x=>x[i]?) e
 simp only[List.getElem?_map,List.getElem?_eq_getElem hi,List.getElem?_eq_getElem (show i<m.length by omega),Option.map_some,Option.some.injEq] at this
 exact h this
theorem GN{l m:List Em}(hlm:l.length=m.length)(h:∀j (hj:j<l.length) (hj':j<m.length),l[j].en=m[j].en):l.map Em.en=m.map Em.en:=by
 apply List.ext_getElem?
 intro i
 by_cases hi:i<l.length
 ·rw[List.getElem?_map,List.getElem?_map,List.getElem?_eq_getElem hi,List.getElem?_eq_getElem (show i<m.length by omega),Option.map_some,Option.map_some,h i hi (by omega)]
 ·rw[List.getElem?_eq_none (by simpa using hi),List.getElem?_eq_none (by rw[List.length_map];omega)]
attribute [local irreducible] CG NG SG aK aI Row aF aE aM aR bg
theorem xe{w:World}{base p:Nat}{v:Value}{room:Int}{ms:List Em}(hP:Pl w base p v room ms)(hI:dF room (ms.map Em.en))(hr:room≤1024):
  Calls Tryz.prog 67 #[.pointer (some ⟨p,0,none⟩)] w (fun e w'=>∃p' v' ms',e= .returned (.pointer (some ⟨p',0,none⟩))∧w.heap.size≤p'∧Kp [] w w'∧(∀base',base'≤w.heap.size→Pl w' base' p' v' room ms')∧ms'.map Em.en=ms.map Em.en):=by
 refine bA Tryz.func67 rfl Tryz.ntmps67 rfl ?_
 have hll:ms.length≤1024:=by have:=hI.len;rw[List.length_map] at this;omega
 obtain⟨q0,-⟩:=hP.rows
 repeat (first|apply aj|(apply ar;rfl;(first|apply iC|apply az|apply aD)<;>rfl))
 refine bG rfl ?_
 repeat (first|apply aj|(apply ar;rfl;(first|apply az|apply bf|apply aW|apply bM)<;>first|rfl|assumption|exact List.not_mem_nil))
 refine SG.val rfl rfl rfl rfl (aG rfl (FU room)) ?_
 refine SG.box rfl rfl rfl (ag rfl) (fun p' w1 hk1 hp' hB1=>?_)
 have hB1:aF w1 p' (.cells #[.int .i64 room,.slice none 0 0] 214):=hB1
 clear q0
 have hP1:=hP.ay hk1
 obtain⟨a,c,rfl,hc,hS⟩:=hP1.sl
 obtain⟨-,q1⟩:=hP1.rows
 repeat (first|apply aj|(apply ar;rfl;(first|apply az|apply aD|apply bf|apply aW|apply bM|apply dy)<;>first|rfl|assumption|exact List.not_mem_nil))
 clear q1
 refine CG.loop (X:=Nat×(Value×List Em)) (fun x=>[(3,.pointer (some ⟨p',0,none⟩)),(17,.slice a ms.length c),(18,.int .i64 (ms.length:Int)),(19,.int .i64 (x.1:Int))])
  (fun x w'=>x.1≤ms.length∧Kp [] w w'∧aF w' p' (.cells #[.int .i64 room,x.2.1] 214)∧w'.ownsRow w.heap.size 216 22 x.2.1 x.2.2.length (bO ec x.2.2)∧(∀e∈x.2.2,e.x.In 0 w')∧x.2.2.map Em.en=(ms.map Em.en).take x.1)
  (fun x=>ms.length-x.1) (0,(.slice none 0 0,[])) ⟨Nat.zero_le _,hk1,hB1,dR,fun e h=>(by cases h),rfl⟩ (aS.of rfl) ?_
 rintro⟨i,vr,es⟩ w2 ⟨hi,hk2,hB2,ho2,hin2,hes⟩
 simp only at hi hB2 ho2 hin2 hes
 refine CG.to [(3,.pointer (some ⟨p',0,none⟩)),(17,.slice a ms.length c),(18,.int .i64 (ms.length:Int)),(19,.int .i64 (i:Int))] (aS.of rfl) ?_
 have hel:es.length=i:=by
  have:=congrArg List.length hes
  rw[List.length_map,List.length_take,List.length_map,Nat.min_eq_left (by omega)] at this
  exact this
 by_cases hlt:i<ms.length
 rotate_left
 ·have g1:¬(i:Int)<(ms.length:Int):=by omega
  rw[List.take_of_length_le (by rw[List.length_map];omega)] at hes
  repeat (first|apply aj|(apply ar;rfl;apply cG<;>first|rfl|(apply bN;first|assumption|omega)))
  refine bG rfl ?_
  repeat (first|apply aj|(apply ar;rfl;(first|apply az|apply aD)<;>rfl))
  refine aO (Or.inl rfl) Tryz.results67 (aC.tmp rfl) ?_
  exact⟨p',vr,es,rfl,hp',hk2,fun base' hb=>⟨hB2,cX ho2 hb,fun e he=>(hin2 e he).mono (Nat.zero_le _),Nat.le_trans hb hp'⟩,hes⟩
 have g1:(i:Int)<(ms.length:Int):=by omega
 have hP2:=hP.ay hk2
 obtain⟨a',c',e',-,hS2⟩:=hP2.sl
 cases e'
 obtain⟨g,o1,rfl,hri⟩:=hS2.at hlt
 have hxi:=hP2.ins _ (List.getElem_mem hlt)
 have s2:=hk2.size
 repeat (first|apply aj|(apply ar;rfl;apply cG<;>first|rfl|(apply bK;first|assumption|omega)))
 refine bL rfl ?_
 repeat (first|apply aj|(apply ar;rfl;(first|apply bj|apply fv)<;>first|rfl|(apply Ar.mk;omega)|assumption|exact List.not_mem_nil|apply aL))
 refine SG.alloc rfl rfl rfl (fun b5 w3 hk3 hb5 hB5=>?_)
 refine SG.aN (l:=ec ms[i]) rfl rfl (ag rfl) (ag rfl) hB5 (aL _) rfl (gU _) (fun w4 hk4 hB5=>?_)
 have k24:Kp [] w2 w4:=hk3.ai hk4 (aV (by omega))
 have r5:Row w4 b5 0 (ec ms[i]):=Row.all hB5 rfl
 obtain⟨u0,-,-,-,u4,u5⟩:=eE r5
 simp only[Nat.zero_add] at u4 u5
 clear hri r5
 have hB4:=hB2.ay k24
 have ho4:=aT ho2 k24
 have hin4:∀e∈es,e.x.In 0 w4:=fun e he=>(hin2 e he).ay k24
 have hx4:=hxi.ay k24
 have k4:=hk2.trans k24
 have hn4:p'∉aP vr:=fun hm=>cK ho4 (by decide) hB4 p' (aH hm) List.mem_cons_self
 obtain⟨-,qv⟩:Row w4 p' 0 [.int .i64 room]∧Row w4 p' 1 [vr]:=⟨Row.of hB4 [] [vr] rfl rfl,Row.of hB4 [.int .i64 room] [] rfl rfl⟩
 obtain⟨a2,c2,rfl,-,-⟩:=Sl.own (l:=es) aL ho4 rfl
 have hSl:∀z∈aP (.slice a2 es.length c2),z<w4.heap.size:=fun z hz=>cD ho4 z (aH hz)
 have hnb5:b5∉aP (.slice a2 es.length c2):=fun hm=>by
  have:=cD ho2 b5 (aH hm)
  omega
 have hO:dh base w4 (aP (.slice a2 es.length c2)):=dh.own ho4 (by have:=hP.jw;omega) (by decide)
 have hO0:dh 0 w4 (aP (.slice a2 es.length c2)):=dh.own ho4 (Nat.zero_le _) (by decide)
 have s4:=k4.size
 obtain⟨F',hF'⟩:∃F':{y:Tm//y.t=ms[i].x.t}→World→Prop,F'=fun y W=>y.1.In 0 W∧(∀b off,y.1.a1=some ⟨b,off,none⟩→w4.heap.size≤b)∧(∀b off,y.1.a2=some ⟨b,off,none⟩→w4.heap.size≤b):=⟨_,rfl⟩
 have hst:∀y,cm (aP (.slice a2 es.length c2)) (F' y):=fun y W W' hk h=>by
  rw[hF'] at h⊢
  obtain⟨h1,h2,h3⟩:=h
  have n1:∀b off,y.1.a1=some ⟨b,off,none⟩→b∉aP (.slice a2 es.length c2):=fun b off e hm=>by have:=h2 b off e;have:=hSl b hm;omega
  have n2:∀b off,y.1.a2=some ⟨b,off,none⟩→b∉aP (.slice a2 es.length c2):=fun b off e hm=>by have:=h3 b off e;have:=hSl b hm;omega
  exact⟨⟨h1.b.kp hk n1,h1.s.kp hk n2,h1.t1.kp hk (fun _=>n1),h1.t2.kp hk (fun _=>n2),h1.l1,h1.l2⟩,h2,h3⟩
 repeat apply aj
 refine CG.dM mixed 15 [0,1,2,3,4,5,6,8,9,10,11,7,12,13,14] [7,13,14] (aP (.slice a2 es.length c2)) (fun w'=>w'.ownsRow w.heap.size 216 22 (.slice a2 es.length c2) es.length (bO ec es)) (by kernel_rfl) ho4 (fun _ _ hk h=>aT h hk) ?_
 repeat (apply bZ;rfl;rfl;(first|apply az|apply bf|apply bj|apply aW|apply bM)<;>first|rfl|assumption|apply ah|apply au)
 refine aI.CQ (X:={y:Tm//y.t=ms[i].x.t}) (vs:=[eR ms[i].x]) (fun y=>eR y.1) F' (fun _ W=>W.ownsRow w.heap.size 216 22 (.slice a2 es.length c2) es.length (bO ec es)) rfl rfl rfl rfl (bz.of rfl) hst (fun _ _ _ hk h=>aT h hk) (fun _ _ _ h=>h) (fun W hk _ hR=>(fO (hx4.gd hk hO)).mono (fun e W' hh=>?_)) (fun y=>?_)
 ·obtain⟨y,hy,he,hin,hky,g1,g2⟩:=hh
  refine⟨⟨y,hy⟩,he,?_,aT hR hky,hky.any⟩
  rw[hF']
  exact⟨hin,fun b off e=>Nat.le_trans hk.size (g1 b off e),fun b off e=>Nat.le_trans hk.size (g2 b off e)⟩
 refine aI.val rfl rfl rfl (aG (vs:=[(0,eR y.1),(1,dv (aR ms[i].x.t)),(2,.int .i64 ms[i].since)]) rfl (fun W=>IL W y.1 (aR ms[i].x.t) ms[i].since)) ?_
 refine aI.jt (cs:=(bV y.1++(dc (aR ms[i].x.t)++[Value.int .i64 ms[i].since])).toArray) (E:=216) rfl rfl rfl rfl rfl (fun W=>CX y.1 (aR ms[i].x.t) ms[i].since W) hSl (fun W W' hk h=>⟨trivial,hst y W W' hk h.2⟩) (fun _ _ hk h=>aT h hk) (fun bn=>?_)
 have eec:ec ⟨y.1,ms[i].since⟩=bV y.1++(dc (aR ms[i].x.t)++[Value.int .i64 ms[i].since]):=by
  have:=y.2
  unfold ec
  rw[this]
 refine aI.jy (base:=w.heap.size) (e:=216) (i:=Tryz.t216) (f:=ty.i216) (v:= .slice a2 es.length c2) (nn:=es.length) (xs:=bO ec es) (b:=bn) (off:=0) (m:=1) (c:=1) (news:=bV y.1++(dc (aR ms[i].x.t)++[Value.int .i64 ms[i].since])) rfl rfl rfl rfl (ag rfl) (ag rfl) rfl rfl rfl (fun W hk hF=>Row.all hF.2.2 rfl) (by rw[←eec,aL];rfl) (by rw[←eec];exact gU _) (by simp only[maxLen];omega) (by show(es.length+1)*96≤_;omega) s4 (fun _ h=>h) (fun W W' hk hF=>⟨⟨trivial,hst y W W' hk hF.1.2⟩,hF.2.1,hF.2.2.kp hk (fun hm=>by have:=hSl _ hm;have:=hF.2.1;omega)⟩) (fun v5=>?_)
 refine aI.tl (fun w5 hk5 hF ho5=>?_)
 obtain⟨⟨⟨-,hFy⟩,-⟩,hv5⟩:=hF
 rw[hF'] at hFy
 have ho5:w5.ownsRow w.heap.size 216 22 v5 (es++[(⟨y.1,ms[i].since⟩:Em)]).length (bO ec (es++[(⟨y.1,ms[i].since⟩:Em)])):=by
  rw[dx,gp,eec,List.length_append]
  exact ho5
 have hB5':=hB4.kp hk5 hn4
 have hn5:∀b,v5.ownBlock=some b→b∉[p']:=cK ho5 (by decide) hB5'
 obtain⟨a5,c5,rfl,-,-⟩:=Sl.own aL ho5 rfl
 clear qv u0 u4 u5
 refine SG.val rfl rfl rfl rfl (by first|(apply bM<;>(exact rfl))|fail) ?_
 refine SG.val rfl rfl rfl rfl (by first|(apply aW<;>(exact rfl))|fail) ?_
 refine SG.cr [.int .i64 room] [.slice a2 es.length c2] [] rfl rfl (ag rfl) (ag rfl) hB5' rfl rfl rfl rfl rfl (fun w6 hk6 hB6=>?_)
 have hO6:dh 0 w5 [p']:=dh.cons (Nat.zero_le _) (dh.cells hB5' (by decide)) dh.nil
 repeat (first|apply aj|(apply ar;rfl;(first|apply az|apply dG)<;>first|rfl|(apply Ar.mk;omega)))
 refine NG.round (i+1,(_,es++[(⟨y.1,ms[i].since⟩:Em)])) (aS.of rfl) ⟨by simp only;omega,(k4.ai hk5 (fun z hz=>Or.inr (cp ho4 z (aH hz)))).ai hk6 (aV hp'),hB6,bW ho5 hk6 hn5,fun e he=>?_,?_⟩ (by simp only;omega)
 ·rcases List.mem_append.1 he with he|he
  ·exact((hin4 e he).gd hk5 hO0).gd hk6 hO6
  ·rw[List.mem_singleton] at he
   subst he
   exact hFy.1.gd hk6 hO6
 ·simp only
  rw[List.map_append,hes,List.take_succ_eq_append_getElem (by simpa using hlt),List.getElem_map]
  have:Em.en ⟨y.1,ms[i].since⟩=ms[i].en:=by
   unfold Em.en
   rw[y.2]
  simp only[List.map_cons,List.map_nil,this]
theorem vL{w:World}{n m:Nat}{e o:Em}(he:e.x.In n w)(ho:o.x.In m w):dz Tryz.prog 118 #[ev e,ev o] w (.bool (zJ e.en o.en)):=by
 refine bJ Tryz.func118 rfl Tryz.ntmps118 rfl ?_
 repeat apply aj
 refine SG.box rfl rfl rfl (ag rfl) (fun b1 w1 hk1 hb1 hB1=>?_)
 refine SG.box rfl rfl rfl (ag rfl) (fun b2 w2 hk2 hb2 hB2=>?_)
 have hB1:aF w1 b1 (.cells (ec e).toArray 216):=hB1
 have hB2:aF w2 b2 (.cells (ec o).toArray 216):=hB2
 obtain⟨q0,-,-,-,-,q5⟩:=eE (Row.all (hB1.ay hk2) rfl)
 obtain⟨r0,-,-,-,-,r5⟩:=eE (Row.all hB2 rfl)
 simp only[Nat.zero_add] at q5 r5
 have k2:=hk1.trans hk2
 by_cases g:e.since=o.since
 case neg=>
  rw[wZ (fun h=>g (congrArg En.since h))]
  repeat (first|apply aj|(apply ar;rfl;(first|apply az|apply aD|apply bf|apply aW|apply cu|apply fF)<;>first|rfl|assumption|(apply bN;first|assumption|omega)|exact List.not_mem_nil)|refine SG.skip rfl rfl ?_)
  refine aO (Or.inl rfl) Tryz.results118 (aC.tmp rfl) ?_
  exact⟨rfl,k2⟩
 have e1:qB e.x.t o.x.t=zJ e.en o.en:=by
  by_cases h:e.x.t=o.x.t
  ·rw[vD h,Cv (by unfold Em.en;rw[h,g])]
  ·rw[rU h,wZ (fun hh=>h (congrArg En.t hh))]
 rw[←e1]
 repeat (first|apply aj|(apply ar;rfl;(first|apply az|apply aD|apply bf|apply bj|apply aW|apply fF)<;>first|rfl|assumption|(apply bK;first|assumption|omega)|exact List.not_mem_nil|apply au))
 refine SG.ret rfl rfl rfl (vs:=[eR e.x,eR o.x]) (bz.of rfl) (pB (he.ay k2) (ho.ay k2)) (fun w3 hk3=>?_)
 repeat (first|apply aj|(apply ar;rfl;(first|apply aD|apply cu)<;>rfl))
 refine aO (Or.inl rfl) Tryz.results118 (aC.tmp rfl) ?_
 exact⟨rfl,k2.trans hk3⟩
theorem Cs{w:World}{n1 n2:Nat}{a b:Option Addr}{l m:List Em}(c d:Nat)(h:Sl ec 22 w a l)(h':Sl ec 22 w b m)(hl:l.length≤100000)(hp:∀e∈l,e.x.In n1 w)(hq:∀e∈m,e.x.In n2 w):dz Tryz.prog 117 #[.slice a l.length c,.slice b m.length d,j8 118 []] w (.bool (rE (l.map Em.en) (m.map Em.en))):=by
 refine ey Tryz.func117 rfl Tryz.ntmps117 rfl ?_
 by_cases hlen:(l.length:Int)=(m.length:Int)
 case neg=>
  rw[yj (fun h=>hlen (by have:=congrArg List.length h;simp only[List.length_map] at this;omega))]
  repeat (first|apply aj|(apply ar;rfl;(first|apply az|apply aD|apply dK|apply dy)<;>first|rfl|(apply bN;first|assumption|omega)))
  refine bL rfl ?_
  repeat (first|apply aj|(apply ar;rfl;apply aD<;>rfl))
  refine aO (Or.inl rfl) Tryz.results117 (aC.tmp rfl) ?_
  exact⟨rfl,Kp.refl _ _⟩
 have hlm:l.length=m.length:=by omega
 repeat (first|apply aj|(apply ar;rfl;(first|apply az|apply aD|apply dK|apply dy)<;>first|rfl|(apply bK;first|assumption|omega)))
 refine bG rfl ?_
 repeat (first|apply aj|(apply ar;rfl;(first|apply az|apply dy)<;>rfl))
 refine CG.loop (X:=Nat) (fun x=>[(1,.slice b m.length d),(2,j8 118 []),(15,.slice a l.length c),(16,.int .i64 (l.length:Int)),(17,.int .i64 (x:Int))])
  (fun x w'=>x≤l.length∧Kp [] w w'∧∀j (hj:j<l.length) (hj':j<m.length),j<x→l[j].en=m[j].en)
  (fun x=>l.length-x) 0 ⟨Nat.zero_le _,Kp.refl _ _,fun j hj hj' h0=>absurd h0 (Nat.not_lt_zero _)⟩ (aS.of rfl) ?_
 rintro i w1 ⟨hi,hk1,hall⟩
 refine CG.to [(1,.slice b m.length d),(2,j8 118 []),(15,.slice a l.length c),(16,.int .i64 (l.length:Int)),(17,.int .i64 (i:Int))] (aS.of rfl) ?_
 by_cases hlt:i<l.length
 rotate_left
 ·have g1:¬(i:Int)<(l.length:Int):=by omega
  rw[yi (GN hlm (fun j hj hj'=>hall j hj hj' (by omega)))]
  repeat (first|apply aj|(apply ar;rfl;apply cG<;>first|rfl|(apply bN;first|assumption|omega)))
  refine bG rfl ?_
  repeat (first|apply aj|(apply ar;rfl;apply aD<;>rfl))
  refine aO (Or.inl rfl) Tryz.results117 (aC.tmp rfl) ?_
  exact⟨rfl,hk1⟩
 have g1:(i:Int)<(l.length:Int):=by omega
 have g2:(i:Int)<(m.length:Int):=by omega
 have hlt':i<m.length:=by omega
 obtain⟨b1,o1,rfl,hr1⟩:=(h.ay hk1).at hlt
 repeat (first|apply aj|(apply ar;rfl;apply cG<;>first|rfl|(apply bK;first|assumption|omega)))
 refine bL rfl ?_
 repeat (first|apply aj|(apply ar;rfl;(first|apply az|apply bj|apply fv)<;>first|rfl|(apply Ar.mk;omega)|assumption|exact List.not_mem_nil|apply aL))
 refine SG.alloc rfl rfl rfl (fun b8 w2 hk2 hb8 hB8=>?_)
 repeat (apply ar;rfl;apply aD<;>rfl)
 refine SG.aN (l:=ec l[i]) rfl rfl (ag rfl) (ag rfl) hB8 (aL _) rfl (gU _) (fun w3 hk3 hB8=>?_)
 have k13:Kp [] w1 w3:=hk2.ai hk3 (aV (by omega))
 clear hr1
 obtain⟨b2,o2,rfl,hr2⟩:=((h'.ay hk1).ay k13).at hlt'
 repeat (first|apply aj|(apply ar;rfl;(first|apply az|apply bj|apply fv)<;>first|rfl|(apply Ar.mk;omega)|assumption|exact List.not_mem_nil|apply aL))
 refine SG.alloc rfl rfl rfl (fun b9 w4 hk4 hb9 hB9=>?_)
 refine SG.aN (l:=ec m[i]) rfl rfl (ag rfl) (ag rfl) hB9 (aL _) rfl (gU _) (fun w5 hk5 hB9=>?_)
 have k35:Kp [] w3 w5:=hk4.ai hk5 (aV (by omega))
 clear hr2
 have r8:Row w5 b8 0 (ec l[i]):=(Row.all hB8 rfl).ay k35
 have r9:Row w5 b9 0 (ec m[i]):=Row.all hB9 rfl
 have k5:=(hk1.trans k13).trans k35
 repeat (first|apply aj|(apply ar;rfl;(first|apply az|apply bj)<;>first|rfl|assumption|exact List.not_mem_nil|apply aL))
 refine SG.mA (Fn:=by infer_instance) (vs:=[ev l[i],ev m[i]]) (caps:=[]) rfl rfl rfl (ag rfl) (bz.of rfl) (vL ((hp _ (List.getElem_mem hlt)).ay k5) ((hq _ (List.getElem_mem hlt')).ay k5)) (fun w6 hk6=>?_)
 by_cases hh:l[i].en=m[i].en
 ·rw[Cv hh]
  repeat (first|apply aj|(apply ar;rfl;apply fZ<;>rfl))
  refine bG rfl ?_
  repeat (first|apply aj|(apply ar;rfl;(first|apply az|apply dG)<;>first|rfl|(apply Ar.mk;omega)))
  refine NG.round (i+1) (aS.of rfl) ⟨by omega,k5.trans hk6,fun j hj hj' hlt=>?_⟩ (by omega)
  by_cases e:j=i
  ·subst e;exact hh
  ·exact hall j hj hj' (by omega)
 ·rw[wZ hh,yj (GM hlm hlt hh)]
  repeat (first|apply aj|(apply ar;rfl;apply fZ<;>rfl))
  refine bL rfl ?_
  repeat (first|apply aj|(apply ar;rfl;apply aD<;>rfl))
  refine aO (Or.inl rfl) Tryz.results117 (aC.tmp rfl) ?_
  exact⟨rfl,k5.trans hk6⟩
theorem yS{w:World}{base base' p p':Nat}{v v':Value}{room room':Int}{ms ms':List Em}(hP:Pl w base p v room ms)(hQ:Pl w base' p' v' room' ms')(hl:ms.length≤1024):
  dz Tryz.prog 69 #[.pointer (some ⟨p,0,none⟩),.pointer (some ⟨p',0,none⟩)] w (.bool (decide (room=room')&&rE (ms.map Em.en) (ms'.map Em.en))):=by
 refine bJ Tryz.func69 rfl Tryz.ntmps69 rfl ?_
 obtain⟨a,c,rfl,hc,hS⟩:=hP.sl
 obtain⟨a',c',rfl,hc',hS'⟩:=hQ.sl
 obtain⟨q0,q1⟩:=hP.rows
 obtain⟨r0,r1⟩:=hQ.rows
 repeat (first|apply aj|(apply ar;rfl;(first|apply iC|apply az|apply aD|apply cu)<;>rfl))
 refine bG rfl ?_
 repeat apply aj
 by_cases g:room=room'
 ·rw[decide_eq_true g,Bool.true_and]
  refine CG.tail mixed 18 [0,1,2,3,4,5,6,7,8,9,10,11,12,13,14,15,16,17] (by kernel_rfl) ?_
  repeat (apply bZ;rfl;rfl;(first|apply az|apply bf|apply aW|apply bM|apply fF)<;>first|rfl|assumption|(apply bK;first|assumption|omega)|exact List.not_mem_nil)
  refine aI.tl (fun w1 hk1 _ _=>?_)
  refine SG.ret rfl rfl rfl (vs:=[.slice a ms.length c,.slice a' ms'.length c',j8 118 []]) (bz.of rfl) (Cs c c' (hS.ay hk1) (hS'.ay hk1) (by omega) (fun e he=>(hP.ins e he).ay hk1) (fun e he=>(hQ.ins e he).ay hk1)) (fun w2 hk2=>?_)
  repeat (first|apply aj|(apply ar;rfl;(first|apply aD|apply cu)<;>rfl))
  refine aO (Or.inl rfl) Tryz.results69 (aC.tmp rfl) ?_
  exact⟨rfl,hk1.trans hk2⟩
 ·rw[decide_eq_false g,Bool.false_and]
  refine CG.tail mixed 18 [0,1,2,3,4,5,6,7,8,9,10,11,12,13,14,15,16,17] (by kernel_rfl) ?_
  repeat (first|(apply bZ;rfl;rfl;(first|apply az|apply bf|apply aW|apply bM|apply fF)<;>first|rfl|assumption|(apply bN;first|assumption|omega)|exact List.not_mem_nil)|refine aI.skip rfl rfl ?_)
  refine aI.tl (fun w1 hk1 _ _=>?_)
  repeat (first|apply aj|(apply ar;rfl;(first|apply aD|apply cu)<;>rfl)|refine SG.skip rfl rfl ?_)
  refine aO (Or.inl rfl) Tryz.results69 (aC.tmp rfl) ?_
  exact⟨rfl,hk1⟩
end
section
open Go.Proofs
abbrev He(b:Bool):Value:= .bool b
def tw(L:List (Dg×Int))(e:En):Bool:=L.any (fun p=>decide (p.1=e.key∧p.2≤e.non))
theorem EP{m L:List (Dg×Int)}{e:En}(h:nk m L):tw L e=true↔∃n,aB m e.key=some n∧n≤e.non:=by
 rw[h e.key e.non]
 unfold tw
 rw[List.any_eq_true]
 constructor
 ·rintro⟨p,h1,h2⟩;exact⟨p,h1,of_decide_eq_true h2⟩
 ·rintro⟨p,h1,h2⟩;exact⟨p,h1,decide_eq_true h2⟩
def jY(l:List En)(ns:List Dg):List (Dg×Int):=(l.filter (fun e=>decide (aR e.t∈ns))).map BB
theorem zk{l:List En}{ns:List Dg}{i:Nat}(hi:i<l.length):jY (l.take (i+1)) ns=if aR l[i].t∈ns then jY (l.take i) ns++[BB l[i]] else jY (l.take i) ns:=by
 unfold jY
 rw[List.take_succ_eq_append_getElem hi,List.filter_append,List.map_append]
 by_cases g:aR l[i].t∈ns
 ·rw[if_pos g,List.filter_cons_of_pos (p:=fun e:En=>decide (aR e.t∈ns)) (decide_eq_true g)]
  rfl
 ·rw[if_neg g,List.filter_cons_of_neg (p:=fun e:En=>decide (aR e.t∈ns)) (by simpa using g)]
  simp
def gQ(most:Int)(c:Nat):Int:=if most≤c then(if most≤0 then most else 0) else most-c
theorem Ex(most:Int):gQ most 0=most:=by unfold gQ;split<;>(try split)<;>omega
theorem B5{most:Int}{c:Nat}:1≤gQ most c↔(c:Int)<most:=by unfold gQ;split<;>(try split)<;>omega
theorem wI{most:Int}{c:Nat}:gQ most (c+1)=if(c:Int)<most then gQ most c-1 else gQ most c:=by
 unfold gQ
 split<;>split<;>(try split)<;>(try split)<;>omega
def ik(q:Nat→Bool)(pre:List Nat):Nat:=(pre.filter q).length
def mr(q:Nat→Bool)(most:Int)(pre:List Nat)(j:Nat):Bool:=q j&&decide ((ik q pre:Int)<most)
theorem uO(q:Nat→Bool)(pre:List Nat)(j:Nat):ik q (pre++[j])=if q j then ik q pre+1 else ik q pre:=by
 unfold ik
 rw[List.filter_append,List.length_append]
 by_cases h:q j=true
 ·rw[if_pos h,List.filter_cons_of_pos h];rfl
 ·rw[if_neg h,List.filter_cons_of_neg h];rfl
theorem pE(q:Nat→Bool)(most:Int):∀(l pre:List Nat),fh (mr q most) pre l=(l.filter q).take (most-(ik q pre:Int)).toNat
 |[],pre=>by simp[fh]
 |j::l,pre=>by
  simp only[fh]
  rw[pE q most l (pre++[j]),uO]
  by_cases h:q j=true
  ·rw[List.filter_cons_of_pos h,if_pos h]
   by_cases h2:(ik q pre:Int)<most
   ·have e:(most-(ik q pre:Int)).toNat=(most-((ik q pre+1:Nat):Int)).toNat+1:=by omega
    rw[if_pos (by unfold mr;rw[h,decide_eq_true h2];rfl),e,List.take_succ_cons]
   ·have e:(most-(ik q pre:Int)).toNat=0:=by omega
    have e2:(most-((ik q pre+1:Nat):Int)).toNat=0:=by omega
    rw[if_neg (by unfold mr;rw[decide_eq_false h2,Bool.and_false];decide),e,e2,List.take_zero,List.take_zero]
  ·rw[List.filter_cons_of_neg h,if_neg h,if_neg (by unfold mr;simp[h])]
attribute [local irreducible] CG NG SG aK aI Row aF aE aM aR bg
theorem vG{w:World}{b10 b15 bm:Nat}{m L:List (Dg×Int)}{z:Int}(e:Em)(h10:Row w b10 0 [.map (some bm)])(hm:aE w bm (dv (n:=8)) Ai m)(hM:nk m L)(h15:aF w b15 (.cells #[.int .i64 z] 3))(hz:yh z):
  Calls Tryz.prog 125 #[ev e,.pointer (some ⟨b10,0,none⟩),.pointer (some ⟨b15,0,none⟩)] w (fun e' w'=>e'= .returned (.bool (!tw L e.en&&decide (1≤z)))∧Kp [b15] w w'∧aF w' b15 (.cells #[.int .i64 (if !tw L e.en&&decide (1≤z) then z-1 else z)] 3)):=by
 refine fL (args:=[ev e,.pointer (some ⟨b10,0,none⟩),.pointer (some ⟨b15,0,none⟩)]) Tryz.func125 rfl Tryz.ntmps125 rfl ?_
 obtain⟨z1,z2⟩:=hz
 repeat apply aj
 refine SG.box rfl rfl rfl (ag rfl) (fun b1 w1 hk1 hb1 hB1=>?_)
 have hB1:aF w1 b1 (.cells (ec e).toArray 216):=hB1
 obtain⟨-,q0,q1,-⟩:=eE (Row.all hB1 rfl)
 simp only[Nat.zero_add] at q1
 have h10:=h10.ay hk1
 have hm:=hm.ay hk1
 have h15:=h15.ay hk1
 have r15:Row w1 b15 0 [.int .i64 z]:=Row.all h15 rfl
 have hup:=EP (e:=e.en) hM
 have fin:tw L e.en=false→∀{x:Int},1≤z→x=z-1→True:=fun _ _ _ _=>trivial
 by_cases hex:∃n,aB m e.x.t.frm=some n∧n≤e.x.t.non
 ·obtain⟨n,hl,g⟩:=hex
  have e1:tw L e.en=true:=hup.2 ⟨n,hl,g⟩
  have e2:(!tw L e.en&&decide (1≤z))=false:=by rw[e1];rfl
  rw[e2]
  by_cases gz:z<1
  ·repeat (first|apply aj|(apply ar;rfl;(first|apply az|apply aD|apply bf|apply bj|apply aW|apply cu|apply cG|apply lL|apply dA)<;>first|rfl|assumption|(apply bK;first|assumption|omega)|exact List.not_mem_nil|apply ah|exact kX (by assumption)|fail)|refine SG.skip rfl rfl ?_)
   refine bL rfl ?_
   repeat (first|apply aj|(apply ar;rfl;apply aD<;>rfl))
   refine aO (Or.inl rfl) Tryz.results125 (aC.tmp rfl) ?_
   exact⟨rfl,hk1.any,h15⟩
  ·repeat (first|apply aj|(apply ar;rfl;(first|apply az|apply aD|apply bf|apply bj|apply aW|apply cu|apply cG|apply jN|apply lL|apply dA)<;>first|rfl|assumption|(apply bK;first|assumption|omega)|(apply bN;first|assumption|omega)|exact List.not_mem_nil|apply ah|exact kX (by assumption)|fail))
   refine bL rfl ?_
   repeat (first|apply aj|(apply ar;rfl;apply aD<;>rfl))
   refine aO (Or.inl rfl) Tryz.results125 (aC.tmp rfl) ?_
   exact⟨rfl,hk1.any,h15⟩
 ·have e1:tw L e.en=false:=by
   cases hb:tw L e.en with
   |false=>rfl
   |true=>exact absurd (hup.1 hb) hex
  by_cases gz:z<1
  ·have e2:(!tw L e.en&&decide (1≤z))=false:=by rw[decide_eq_false (by omega),Bool.and_false]
   rw[e2]
   cases hl:aB m e.x.t.frm with
   |none=>
    repeat (first|apply aj|(apply ar;rfl;(first|apply az|apply aD|apply bf|apply bj|apply aW|apply cu|apply cG|apply lL|apply dA)<;>first|rfl|assumption|(apply bK;first|assumption|omega)|exact List.not_mem_nil|apply ah|exact tv (by assumption)|fail)|refine SG.skip rfl rfl ?_)
    refine bL rfl ?_
    repeat (first|apply aj|(apply ar;rfl;apply aD<;>rfl))
    refine aO (Or.inl rfl) Tryz.results125 (aC.tmp rfl) ?_
    exact⟨rfl,hk1.any,h15⟩
   |some n=>
    repeat (first|apply aj|(apply ar;rfl;(first|apply az|apply aD|apply bf|apply bj|apply aW|apply cu|apply cG|apply lL|apply dA)<;>first|rfl|assumption|(apply bK;first|assumption|omega)|exact List.not_mem_nil|apply ah|exact kX (by assumption)|fail)|refine SG.skip rfl rfl ?_)
    refine bL rfl ?_
    repeat (first|apply aj|(apply ar;rfl;apply aD<;>rfl))
    refine aO (Or.inl rfl) Tryz.results125 (aC.tmp rfl) ?_
    exact⟨rfl,hk1.any,h15⟩
  ·have e2:(!tw L e.en&&decide (1≤z))=true:=by rw[e1,decide_eq_true (by omega)];rfl
   rw[e2]
   cases hl:aB m e.x.t.frm with
   |none=>
    repeat (first|apply aj|(apply ar;rfl;(first|apply az|apply aD|apply bf|apply bj|apply aW|apply cu|apply cG|apply lL|apply dA)<;>first|rfl|assumption|(apply bN;first|assumption|omega)|exact List.not_mem_nil|apply ah|exact tv (by assumption)|fail)|refine SG.skip rfl rfl ?_)
    refine bG rfl ?_
    repeat (first|apply aj|(apply ar;rfl;(first|apply bf|apply xL)<;>first|rfl|(apply Ar.mk;omega)|assumption|exact List.not_mem_nil))
    refine SG.kD rfl rfl (ag rfl) (ag rfl) h15 rfl rfl (fun w2 hk2 hB2=>?_)
    repeat (first|apply aj|(apply ar;rfl;apply aD<;>rfl))
    refine aO (Or.inl rfl) Tryz.results125 (aC.tmp rfl) ?_
    exact⟨rfl,hk1.any.trans hk2,hB2⟩
   |some n=>
    have g:¬n≤e.x.t.non:=fun g=>hex ⟨n,hl,g⟩
    repeat (first|apply aj|(apply ar;rfl;(first|apply az|apply aD|apply bf|apply bj|apply aW|apply cu|apply cG|apply jN|apply lL|apply dA)<;>first|rfl|assumption|(apply bN;first|assumption|omega)|exact List.not_mem_nil|apply ah|exact kX (by assumption)|fail))
    refine bG rfl ?_
    repeat (first|apply aj|(apply ar;rfl;(first|apply bf|apply xL)<;>first|rfl|(apply Ar.mk;omega)|assumption|exact List.not_mem_nil))
    refine SG.kD rfl rfl (ag rfl) (ag rfl) h15 rfl rfl (fun w2 hk2 hB2=>?_)
    repeat (first|apply aj|(apply ar;rfl;apply aD<;>rfl))
    refine aO (Or.inl rfl) Tryz.results125 (aC.tmp rfl) ?_
    exact⟨rfl,hk1.any.trans hk2,hB2⟩
theorem vU{w:World}{base p:Nat}{v:Value}{room:Int}{ms:List Em}(hP:Pl w base p v room ms)(hI:dF room (ms.map Em.en))(hr:room≤1024){most:Int}(hmost:yh most){a0:Option Addr}{c0:Nat}{ns:List Dg}(hN:Sl dc 8 w a0 ns)(hnl:ns.length≤10000000):
  Calls Tryz.prog 80 #[.pointer (some ⟨p,0,none⟩),.int .i64 most,.slice a0 ns.length c0] w (fun e w'=>∃v' xs,e= .returned v'∧Kp [] w w'∧jL w' w.heap.size v' xs∧xs.map (·.t)=(((jZ (ms.map Em.en)).filter (fun e=> !tw (jY (ms.map Em.en) ns) e)).take most.toNat).map (·.t)):=by
 refine ey Tryz.func80 rfl Tryz.ntmps80 rfl ?_
 have hll:ms.length≤1024:=by have:=hI.len;rw[List.length_map] at this;omega
 have hlp:=hP.blk.lt
 have hvp:∀b,v.ownBlock=some b→b<w.heap.size:=cD hP.own
 repeat (first|apply aj|(apply ar;rfl;(first|apply iC|apply az|apply aD)<;>rfl))
 refine bG rfl ?_
 repeat apply aj
 refine SG.makeMap (dv (n:=8)) He rfl rfl (fun bo w1 hk1 hbo hmo=>?_)
 have s1:=hk1.size
 have lto:=hmo.lt
 have hN1:=hN.ay hk1
 repeat (first|apply aj|(apply ar;rfl;(first|apply az|apply aD|apply dy)<;>rfl))
 refine CG.loop (X:=Nat×List (Dg×Bool)) (fun x=>[(0,.pointer (some ⟨p,0,none⟩)),(1,.int .i64 most),(7,.map (some bo)),(19,.slice a0 ns.length c0),(20,.int .i64 (ns.length:Int)),(21,.int .i64 (x.1:Int))])
  (fun x w'=>x.1≤ns.length∧Kp [bo] w1 w'∧aE w' bo (dv (n:=8)) He x.2∧∀d,aB x.2 d=if d∈ns.take x.1 then some true else none) (fun x=>ns.length-x.1) (0,[]) ⟨Nat.zero_le _,Kp.refl _ _,hmo,fun d=>(by simp;rfl)⟩ (aS.of rfl) ?_
 rintro⟨i,mo⟩ w2 ⟨hi,hk2,hmo2,hout⟩
 simp only at hi hmo2 hout
 refine CG.to [(0,.pointer (some ⟨p,0,none⟩)),(1,.int .i64 most),(7,.map (some bo)),(19,.slice a0 ns.length c0),(20,.int .i64 (ns.length:Int)),(21,.int .i64 (i:Int))] (aS.of rfl) ?_
 have k2:Kp [] w w2:=hk1.ai hk2 (aV (by omega))
 have s2:=k2.size
 by_cases hlt:i<ns.length
 ·have g1:(i:Int)<(ns.length:Int):=by omega
  have hN2:Sl dc 8 w2 a0 ns:=hN1.Jh hk2 (fun hn b off e=>bP (by have:=hN.Oq hn b off e;omega))
  obtain⟨g,o1,rfl,hri⟩:=hN2.at hlt
  repeat (first|apply aj|(apply ar;rfl;apply cG<;>first|rfl|(apply bK;first|assumption|omega)))
  refine bL rfl ?_
  repeat (first|apply aj|(apply ar;rfl;(first|apply bj|apply fv)<;>first|rfl|(apply Ar.mk;omega)|assumption|exact List.not_mem_nil|apply ah))
  refine SG.alloc rfl rfl rfl (fun b9 w3 hk3 hb9 hB9=>?_)
  refine SG.aN (l:=dc ns[i]) rfl rfl (ag rfl) (ag rfl) hB9 (ah _) rfl (bu _) (fun w4 hk4 hB9=>?_)
  have k24:Kp [] w2 w4:=hk3.ai hk4 (aV (by omega))
  have r9:Row w4 b9 0 (dc ns[i]):=Row.all hB9 rfl
  have hmo4:=hmo2.ay k24
  clear hri
  repeat (first|apply aj|(apply ar;rfl;(first|apply az|apply bj)<;>first|rfl|assumption|exact List.not_mem_nil|apply ah))
  refine SG.mapUpdate (enc:=dv (n:=8)) (V:=He) (kx:=ns[i]) (vy:=true) rfl rfl (ag rfl) (ag rfl) (ag rfl) hmo4 gr.key (fun w5 hk5 hm5=>?_)
  repeat (first|apply aj|(apply ar;rfl;(first|apply az|apply dG)<;>first|rfl|(apply Ar.mk;omega)))
  refine NG.round (i+1,cF mo ns[i] true) (aS.of rfl) ⟨by simp only;omega,(hk2.trans k24.any).trans hk5,hm5,fun d=>?_⟩ (by simp only;omega)
  simp only
  rw[bR,hout d,List.take_succ_eq_append_getElem hlt]
  by_cases e:ns[i]=d
  ·rw[if_pos e,if_pos (by simp[e])]
  ·rw[if_neg e]
   have:d∈ns.take i++[ns[i]]↔d∈ns.take i:=by
    rw[List.mem_append,List.mem_singleton]
    exact⟨fun h=>h.elim id (fun h=>absurd h.symm e),Or.inl⟩
   by_cases h2:d∈ns.take i
   ·rw[if_pos h2,if_pos (this.2 h2)]
   ·rw[if_neg h2,if_neg (fun h=>h2 (this.1 h))]
 have g1:¬(i:Int)<(ns.length:Int):=by omega
 rw[List.take_of_length_le (by omega)] at hout
 repeat (first|apply aj|(apply ar;rfl;apply cG<;>first|rfl|(apply bN;first|assumption|omega)))
 refine bG rfl ?_
 repeat apply aj
 refine SG.makeMap (dv (n:=8)) Ai rfl rfl (fun bm w3 hk3 hbm hm=>?_)
 refine SG.alloc rfl rfl rfl (fun b7 w4 hk4 hb7 hB7=>?_)
 have s3:=hk3.size
 have s23:=hk2.size
 have ltm:=hm.lt
 have hm:=hm.ay hk4
 refine SG.kD rfl rfl (ag rfl) (ag rfl) hB7 rfl rfl (fun w5 hk5 hB7=>?_)
 have k25:Kp [] w2 w5:=(hk3.trans hk4).ai hk5 (aV (by omega))
 have hm5:aE w5 bm (dv (n:=8)) Ai []:=hm.kp hk5 (bP (by omega))
 have hmo5:=hmo2.ay k25
 have r7:Row w5 b7 0 [.map (some bm)]:=Row.all hB7 rfl
 have lt7:=hB7.lt
 have k5:=k2.trans k25
 have hP5:=hP.ay k5
 obtain⟨a,c,rfl,hc,hS⟩:=hP5.sl
 obtain⟨-,q1⟩:=hP5.rows
 have s5:=k5.size
 have lto2:=hmo2.lt
 clear hB7 hm g1
 repeat (first|apply aj|(apply ar;rfl;(first|apply az|apply bf|apply aW|apply bM|apply dy)<;>first|rfl|assumption|exact List.not_mem_nil))
 refine CG.loop (X:=Nat×List (Dg×Int)) (fun x=>[(0,.pointer (some ⟨p,0,none⟩)),(1,.int .i64 most),(7,.map (some bo)),(10,.pointer (some ⟨b7,0,none⟩)),(32,.slice a ms.length c),(33,.int .i64 (ms.length:Int)),(34,.int .i64 (x.1:Int))])
  (fun x w'=>x.1≤ms.length∧Kp [bm] w5 w'∧aE w' bm (dv (n:=8)) Ai x.2∧nk x.2 (jY ((ms.map Em.en).take x.1) ns)) (fun x=>ms.length-x.1) (0,[]) ⟨Nat.zero_le _,Kp.refl _ _,hm5,nk.nil⟩ (aS.of rfl) ?_
 clear q1
 rintro⟨i,m⟩ w6 ⟨hi,hk6,hm6,hM⟩
 simp only at hi hm6 hM
 refine CG.to [(0,.pointer (some ⟨p,0,none⟩)),(1,.int .i64 most),(7,.map (some bo)),(10,.pointer (some ⟨b7,0,none⟩)),(32,.slice a ms.length c),(33,.int .i64 (ms.length:Int)),(34,.int .i64 (i:Int))] (aS.of rfl) ?_
 have k6:Kp [] w w6:=k5.ai hk6 (aV (by omega))
 have hP6:=hP.ay k6
 have r7':Row w6 b7 0 [.map (some bm)]:=r7.kp hk6 (bP (by omega))
 have hmo6:aE w6 bo (dv (n:=8)) He mo:=hmo5.kp hk6 (bP (by omega))
 have s6:=hk6.size
 by_cases hlt:i<ms.length
 rotate_left
 ·have g1:¬(i:Int)<(ms.length:Int):=by omega
  rw[List.take_of_length_le (by rw[List.length_map];omega)] at hM
  clear hmo6
  repeat (first|apply aj|(apply ar;rfl;apply cG<;>first|rfl|(apply bN;first|assumption|omega)))
  refine bG rfl ?_
  repeat (first|apply aj|(apply ar;rfl;apply az<;>rfl))
  refine SG.alloc rfl rfl rfl (fun b15 w7 hk7 hb15 hB15=>?_)
  refine SG.kD rfl rfl (ag rfl) (ag rfl) hB15 rfl rfl (fun w8 hk8 hB15=>?_)
  have k68:Kp [] w6 w8:=hk7.ai hk8 (aV (by omega))
  have k8:=k6.trans k68
  have hP8:=hP.ay k8
  have r8:=r7'.ay k68
  have hm8:=hm6.ay k68
  have lt15:=hB15.lt
  have hltm:=hm6.lt
  have hbl:=hP.jw
  obtain⟨q,hq⟩:∃q:Nat→Bool,q=fun j=> !tw (jY (ms.map Em.en) ns) (qH (ms.map Em.en) j):=⟨_,rfl⟩
  repeat (first|apply aj|(apply ar;rfl;apply az<;>rfl))
  refine SG.val rfl rfl rfl rfl (Ht (vs:=[.pointer (some ⟨b7,0,none⟩),.pointer (some ⟨b15,0,none⟩)]) rfl) ?_
  refine SG.call rfl rfl rfl (vs:=[.pointer (some ⟨p,0,none⟩),j8 125 [.pointer (some ⟨b7,0,none⟩),.pointer (some ⟨b15,0,none⟩)]]) (bz.of rfl) ((qW (Fn:=by infer_instance) (g:=mr q most) (S:=[b15]) hP8 hI hr (fun pre W=>aF W b15 (.cells #[.int .i64 (gQ most (ik q pre))] 3)∧∃T,(∀b∈T,w8.heap.size≤b)∧Kp (b15::T) w8 W)
   ⟨by
    have e:gQ most (ik q [])=most:=Ex most
    rw[e]
    exact hB15,[],fun b hb=>(by cases hb),Kp.refl _ _⟩
   (fun pre W W' T hT hk ⟨h1,T2,h2,h3⟩=>⟨h1.kp hk (fun hm=>by have:=hT _ hm;omega),T2++T,fun b hb=>(by rcases List.mem_append.1 hb with h|h;exact h2 b h;exact hT b h),(h3.mono (fun b hb=>by
    rcases List.mem_cons.1 hb with h|h
    ·exact List.mem_cons.2 (Or.inl h)
    ·exact List.mem_cons.2 (Or.inr (List.mem_append_left _ h)))).trans (hk.mono (fun b hb=>List.mem_cons.2 (Or.inr (List.mem_append_right _ hb))))⟩)
   (fun W hk=>hP8.kp hk (bP (by omega)) (fun b hb=>bP (by have:=hvp b hb;omega)) (dh.cons (by omega) (dh.cells hB15 (by decide)) dh.nil))
   (fun b hb=>by rw[List.mem_singleton] at hb;rw[hb];exact lt15)
   (fun pre W hJ=>dh.cons (Nat.zero_le _) (dh.cells hJ.1 (by decide)) dh.nil)
   (fun pre j hj W hsp hk ⟨h1,T,h2,h3⟩=>?_)).mono (fun e w9 hh=>?_))
  rotate_left
  ·obtain⟨v',xs,he,hk9,hX,hxs,-⟩:=hh
   refine⟨_,he,?_⟩
   repeat (first|apply aj|(apply ar;rfl;apply aD<;>rfl))
   refine aO (Or.inl rfl) Tryz.results80 (aC.tmp rfl) ?_
   refine⟨v',xs,rfl,k8.ai hk9 (aV (by omega)),⟨cX hX.own k8.size,hX.ins⟩,?_⟩
   rw[hxs,pE]
   have e0:(most-((ik q []:Nat):Int)).toNat=most.toNat:=by
    have:ik q []=0:=rfl
    omega
   rw[e0,hq,←pL,←List.map_take,List.map_map]
   rfl
  ·have hnT:∀b,b<w8.heap.size→b≠b15→b∉b15::T:=fun b hb hne hm=>by
    rcases List.mem_cons.1 hm with h|h
    ·exact hne h
    ·have:=h2 b h
     omega
   have s8:=k68.size
   refine(vG ms[j] (r8.kp h3 (hnT _ (by omega) (by omega))) (hm8.kp h3 (hnT _ (by omega) (by omega))) hM h1 (by
    obtain⟨g3,g4⟩:=hmost
    unfold yh gQ
    split
    ·split<;>omega
    ·omega)).mono (fun e' w' hh=>?_)
   obtain⟨he,hk',hB'⟩:=hh
   have hqj:q j= !tw (jY (ms.map Em.en) ns) ms[j].en:=by
    rw[hq]
    simp only
    rw[sO (by simpa using hj),List.getElem_map]
   have hlz:=B5 (most:=most) (c:=ik q pre)
   have hg:(!tw (jY (ms.map Em.en) ns) ms[j].en&&decide (1≤gQ most (ik q pre)))=mr q most pre j:=by
    unfold mr
    rw[hqj]
    congr 1
    by_cases h:(ik q pre:Int)<most
    ·rw[decide_eq_true h,decide_eq_true (hlz.2 h)]
    ·rw[decide_eq_false h,decide_eq_false (fun hh=>h (hlz.1 hh))]
   rw[hg] at he hB'
   refine⟨he,hk',?_,T,h2,h3.trans (hk'.mono (fun b hb=>by rw[List.mem_singleton] at hb;rw[hb];exact List.mem_cons_self))⟩
   have e4:gQ most (ik q (pre++[j]))=if mr q most pre j then gQ most (ik q pre)-1 else gQ most (ik q pre):=by
    rw[uO]
    unfold mr
    cases hqq:q j with
    |false=>rw[Bool.false_and];rfl
    |true=>
     rw[Bool.true_and,if_pos rfl,wI]
     by_cases h:(ik q pre:Int)<most
     ·rw[if_pos h,decide_eq_true h,if_pos rfl]
     ·rw[if_neg h,decide_eq_false h,if_neg (by decide)]
   rw[e4]
   exact hB'
 have g1:(i:Int)<(ms.length:Int):=by omega
 obtain⟨a',c',e',-,hS6⟩:=hP6.sl
 cases e'
 obtain⟨g,o1,rfl,hri⟩:=hS6.at hlt
 have hsu:=zk (l:=ms.map Em.en) (ns:=ns) (i:=i) (by simpa using hlt)
 rw[List.getElem_map] at hsu
 have hsu:jY ((ms.map Em.en).take (i+1)) ns=if aR ms[i].x.t∈ns then jY ((ms.map Em.en).take i) ns++[(ms[i].x.t.frm,ms[i].x.t.non)] else jY ((ms.map Em.en).take i) ns:=hsu
 have ho:=hout (aR ms[i].x.t)
 repeat (first|apply aj|(apply ar;rfl;apply cG<;>first|rfl|(apply bK;first|assumption|omega)))
 refine bL rfl ?_
 repeat (first|apply aj|(apply ar;rfl;(first|apply bj|apply fv)<;>first|rfl|(apply Ar.mk;omega)|assumption|exact List.not_mem_nil|apply aL))
 refine SG.alloc rfl rfl rfl (fun b9 w7 hk7 hb9 hB9=>?_)
 refine SG.aN (l:=ec ms[i]) rfl rfl (ag rfl) (ag rfl) hB9 (aL _) rfl (gU _) (fun w8 hk8 hB9=>?_)
 have k68:Kp [] w6 w8:=hk7.ai hk8 (aV (by omega))
 have r9:Row w8 b9 0 (ec ms[i]):=Row.all hB9 rfl
 obtain⟨-,q0,q1,-,q4,-⟩:=eE r9
 simp only[Nat.zero_add] at q0 q1 q4
 have r7':=r7'.ay k68
 have hm8:=hm6.ay k68
 have hmo8:=hmo6.ay k68
 clear hri r9 hmo6 hm6 hmo5 hmo2 hm5
 by_cases hin:aR ms[i].x.t∈ns
 rotate_left
 ·rw[if_neg hin] at ho hsu
  repeat (first|apply aj|(apply ar;rfl;(first|apply az|apply bj|apply aW|apply qu)<;>first|rfl|assumption|exact List.not_mem_nil|apply ah|exact tv (by assumption)|fail))
  refine bG rfl ?_
  repeat (first|apply aj|(apply ar;rfl;(first|apply az|apply dG)<;>first|rfl|(apply Ar.mk;omega)))
  refine NG.round (i+1,m) (aS.of rfl) ⟨by simp only;omega,hk6.trans k68.any,hm8,by simp only;rw[hsu];exact hM⟩ (by simp only;omega)
 rw[if_pos hin] at ho hsu
 have put:(∀n,aB m ms[i].x.t.frm=some n→ms[i].x.t.non<n)→nk (cF m ms[i].x.t.frm ms[i].x.t.non) (jY ((ms.map Em.en).take (i+1)) ns):=fun hn=>by rw[hsu];exact hM.put hn
 repeat (first|apply aj|(apply ar;rfl;(first|apply az|apply bj|apply aW|apply qu)<;>first|rfl|assumption|exact List.not_mem_nil|apply ah|exact kX (by assumption)|fail))
 refine bL rfl ?_
 clear hmo8
 cases hlk:aB m ms[i].x.t.frm with
 |none=>
  have hput:=put (fun n hn=>by rw[hlk] at hn;cases hn)
  repeat (first|apply aj|(apply ar;rfl;(first|apply az|apply aD|apply bf|apply bj|apply aW|apply cu|apply lL|apply dA|apply fZ)<;>first|rfl|assumption|exact List.not_mem_nil|apply ah|exact tv (by assumption)|fail)|refine SG.skip rfl rfl ?_)
  refine bL rfl ?_
  repeat (first|apply aj|(apply ar;rfl;(first|apply bf|apply bj|apply aW)<;>first|rfl|assumption|exact List.not_mem_nil|apply ah))
  refine SG.mapUpdate (enc:=dv (n:=8)) (V:=Ai) (kx:=ms[i].x.t.frm) (vy:=ms[i].x.t.non) rfl rfl (ag rfl) (ag rfl) (ag rfl) hm8 gr.key (fun w9 hk9 hm9=>?_)
  repeat (first|apply aj|(apply ar;rfl;(first|apply az|apply dG)<;>first|rfl|(apply Ar.mk;omega)))
  refine NG.round (i+1,_) (aS.of rfl) ⟨by simp only;omega,(hk6.trans k68.any).trans hk9,hm9,hput⟩ (by simp only;omega)
 |some n=>
  by_cases hlt2:ms[i].x.t.non<n
  ·have hput:=put (fun n' hn=>by rw[hlk] at hn;cases hn;exact hlt2)
   repeat (first|apply aj|(apply ar;rfl;(first|apply az|apply aD|apply bf|apply bj|apply aW|apply cu|apply fW|apply lL|apply dA|apply fZ)<;>first|rfl|assumption|(apply bK;first|assumption|omega)|exact List.not_mem_nil|apply ah|exact kX (by assumption)|fail))
   refine bL rfl ?_
   repeat (first|apply aj|(apply ar;rfl;(first|apply bf|apply bj|apply aW)<;>first|rfl|assumption|exact List.not_mem_nil|apply ah))
   refine SG.mapUpdate (enc:=dv (n:=8)) (V:=Ai) (kx:=ms[i].x.t.frm) (vy:=ms[i].x.t.non) rfl rfl (ag rfl) (ag rfl) (ag rfl) hm8 gr.key (fun w9 hk9 hm9=>?_)
   repeat (first|apply aj|(apply ar;rfl;(first|apply az|apply dG)<;>first|rfl|(apply Ar.mk;omega)))
   refine NG.round (i+1,_) (aS.of rfl) ⟨by simp only;omega,(hk6.trans k68.any).trans hk9,hm9,hput⟩ (by simp only;omega)
  ·have hkeep:nk m (jY ((ms.map Em.en).take (i+1)) ns):=by rw[hsu];exact hM.wN hlk hlt2
   repeat (first|apply aj|(apply ar;rfl;(first|apply az|apply aD|apply bf|apply bj|apply aW|apply cu|apply fW|apply lL|apply dA|apply fZ)<;>first|rfl|assumption|(apply bN;first|assumption|omega)|exact List.not_mem_nil|apply ah|exact kX (by assumption)|fail))
   refine bG rfl ?_
   repeat (first|apply aj|(apply ar;rfl;(first|apply az|apply dG)<;>first|rfl|(apply Ar.mk;omega)))
   refine NG.round (i+1,m) (aS.of rfl) ⟨by simp only;omega,hk6.trans k68.any,hm8,hkeep⟩ (by simp only;omega)
end
section
noncomputable def gy:List Tx→List (Dg×Int)→Int
 |[],_=>0
 |t::l,seen=>if bg t≠0 then bg t else if(t.frm,t.non)∈seen then 7 else gy l ((t.frm,t.non)::seen)
noncomputable def bD(b:Bl):Int:=if b.ht<0∨1099511627776<b.ht then 2 else if 64<b.txs.length then 8 else if gy b.txs []≠0 then gy b.txs [] else if(nC (b.txs.map (·.fee)) 0).isSome then 0 else 2
def DP(t:Tx)(h:bg t=0):Dg×Nn:=(t.frm,⟨t.non,(rP h).n0,(rP h).n1⟩)
theorem Ps(w:World)(a0 a1 a2 a3 a4 a5 a6 a7:UInt8)(n:Int):(Instr.build 242 #[(0,.agg #[bv a0,bv a1,bv a2,bv a3,bv a4,bv a5,bv a6,bv a7]),(1,.int .i64 n)]).run Tryz.prog w= .ok (.agg #[bv a0,bv a1,bv a2,bv a3,bv a4,bv a5,bv a6,bv a7,.int .i64 n]) w:=by kernel_rfl
theorem Tv(w:World)(d:Dg)(n:Int):(Instr.build 242 #[(0,dv d),(1,.int .i64 n)]).run Tryz.prog w= .ok (.agg (dc d++[Value.int .i64 n]).toArray) w:=by
 obtain⟨l,h⟩:=d
 match l,h with
 |[a0,a1,a2,a3,a4,a5,a6,a7],_=>exact Ps w a0 a1 a2 a3 a4 a5 a6 a7 n
attribute [local irreducible] CG NG SG aK aI Row aF aE aM num c9 de cQ cJ qw cP bg dB kV dP bE cV aR jV
theorem A3{w:World}{a:Option Addr}{l:List Int}(c:Nat)(hS:Sl tt 1 w a l)(hl:l.length≤1000000):
  dz Tryz.prog 139 #[.slice a l.length c] w (match nC l 0 with|some s=> .tuple #[.int .i64 s,.int .i64 0]|none=> .tuple #[.int .i64 0,.int .i64 2]):=by
 refine bA Tryz.func139 rfl Tryz.ntmps139 rfl ?_
 repeat (first|apply aj|(apply ar;rfl;(first|apply az|apply aD|apply dy)<;>rfl))
 refine CG.loop (X:=Nat×Int) (fun q=>[(4,.int .i64 q.2),(9,.slice a l.length c),(10,.int .i64 (l.length:Int)),(11,.int .i64 (q.1:Int))])
  (fun q w'=>q.1≤l.length∧Kp [] w w'∧nC (l.drop q.1) q.2=nC l 0)
  (fun q=>l.length-q.1) (0,0) ⟨Nat.zero_le _,Kp.refl _ _,rfl⟩ (aS.of rfl) ?_
 rintro⟨i,s⟩ w1 ⟨hi,k1,hs⟩
 simp only at hi hs
 refine CG.to [(4,.int .i64 s),(9,.slice a l.length c),(10,.int .i64 (l.length:Int)),(11,.int .i64 (i:Int))] (aS.of rfl) ?_
 by_cases hlt:i<l.length
 ·have g1:(i:Int)<(l.length:Int):=by omega
  obtain⟨ba,off,rfl,hrow⟩:=(hS.ay k1).at hlt
  rw[List.drop_eq_getElem_cons hlt] at hs
  generalize l[i]=n at hs hrow
  repeat (first|apply aj|(apply ar;rfl;apply cG<;>first|rfl|(apply bK;first|assumption|omega)))
  refine bL rfl ?_
  repeat (first|apply aj|(apply ar;rfl;(first|apply az|apply aD|apply bf|apply fv)<;>first|rfl|(apply Ar.mk;omega)|assumption|exact List.not_mem_nil))
  refine SG.ret rfl rfl rfl (vs:=[.int .i64 s,.int .i64 n]) (bz.of rfl) (xd s n w1) (fun w2 hk2=>?_)
  have k2:=k1.trans hk2
  clear hrow
  by_cases hr:jV s∧jV n∧jV (s+n)
  ·rw[if_pos hr]
   rw[nC,if_pos hr] at hs
   repeat (first|apply aj|(apply ar;rfl;(first|apply az|apply aD|apply dK|apply dA)<;>first|rfl|(apply bK;first|assumption|omega)))
   refine bG rfl ?_
   repeat (first|apply aj|(apply ar;rfl;(first|apply az|apply aD|apply dG)<;>first|rfl|(apply Ar.mk;omega)))
   refine NG.round (i+1,s+n) (aS.of rfl) ⟨hlt,k2,hs⟩ (by simp only;omega)
  ·rw[if_neg hr]
   rw[nC,if_neg hr] at hs
   rw[←hs]
   repeat (first|apply aj|(apply ar;rfl;(first|apply az|apply aD|apply dK|apply dA)<;>first|rfl|(apply bN;first|assumption|omega)))
   refine bL rfl ?_
   repeat (first|apply aj|(apply ar;rfl;(first|apply az|apply aD)<;>rfl))
   refine dJ (Or.inl rfl) Tryz.results139 (aC.tmp rfl) (aC.tmp rfl) ?_
   exact⟨rfl,k2⟩
 ·have g1:¬(i:Int)<(l.length:Int):=by omega
  have e8:i=l.length:=by omega
  subst e8
  rw[List.drop_length,nC] at hs
  rw[←hs]
  repeat (first|apply aj|(apply ar;rfl;apply cG<;>first|rfl|(apply bN;first|assumption|omega)))
  refine bG rfl ?_
  repeat (first|apply aj|(apply ar;rfl;(first|apply az|apply aD)<;>rfl))
  refine dJ (Or.inl rfl) Tryz.results139 (aC.tmp rfl) (aC.tmp rfl) ?_
  exact⟨rfl,k1⟩
theorem oN{w:World}{n0:Nat}{x:Bm}(hx:x.In n0 w):dz Tryz.prog 98 #[iH x] w (.int .i64 (bD x.b)):=by
 refine bA Tryz.func98 rfl Tryz.ntmps98 rfl ?_
 have hl:=hx.len
 repeat apply aj
 refine SG.box rfl rfl rfl (ag rfl) (fun b1 w1 hk1 hb1 hB1=>?_)
 have hB1:aF w1 b1 (.cells (dq x).toArray 50):=hB1
 have lb1:=hB1.lt
 obtain⟨-,-,r1,-,r3⟩:=cE hB1
 have el:x.b.txs.length=x.xs.length:=List.length_map _
 have fin:∀{L:Env} {w':World} {z:Int},bD x.b=z→Kp [] w w'→look L 2=some (.int .i64 z)→NG 54 .ret (bodyPost Tryz.prog Tryz.f98 (fun e w'=>e= .returned (.int .i64 (bD x.b))∧Kp [] w w')) L w':=
  fun hb hk' hL=>aO (Or.inl rfl) Tryz.results98 (aC.tmp hL) ⟨by rw[hb],hk'⟩
 by_cases h1:x.ht<0
 ·have e0:bD x.b=2:=by unfold bD;rw[if_pos (show x.b.ht<0∨_ from Or.inl h1)]
  repeat (first|apply aj|(apply ar;rfl;(first|apply az|apply aD|apply bf|apply aW|apply cu|apply cG)<;>first|rfl|assumption|(apply bK;first|assumption|omega)|exact List.not_mem_nil)|refine SG.skip rfl rfl ?_)
  refine bL rfl ?_
  repeat (first|apply aj|(apply ar;rfl;apply aD<;>rfl))
  exact fin e0 hk1 rfl
 by_cases h2:1099511627776<x.ht
 ·have e0:bD x.b=2:=by unfold bD;rw[if_pos (show _∨1099511627776<x.b.ht from Or.inr h2)]
  repeat (first|apply aj|(apply ar;rfl;(first|apply az|apply aD|apply bf|apply aW|apply cu|apply cG|apply fW)<;>first|rfl|assumption|(apply bK;first|assumption|omega)|(apply bN;first|assumption|omega)|exact List.not_mem_nil))
  refine bL rfl ?_
  repeat (first|apply aj|(apply ar;rfl;apply aD<;>rfl))
  exact fin e0 hk1 rfl
 have e1:bD x.b=if 64<x.b.txs.length then 8 else if gy x.b.txs []≠0 then gy x.b.txs [] else if(nC (x.b.txs.map (·.fee)) 0).isSome then 0 else 2:=by
  unfold bD
  rw[if_neg (show ¬(x.b.ht<0∨1099511627776<x.b.ht) from fun h=>h.elim h1 h2)]
 repeat (first|apply aj|(apply ar;rfl;(first|apply az|apply aD|apply bf|apply aW|apply cu|apply cG|apply fW)<;>first|rfl|assumption|(apply bN;first|assumption|omega)|exact List.not_mem_nil))
 refine bG rfl ?_
 by_cases h3:(64:Int)<(x.xs.length:Int)
 ·rw[if_pos (by omega)] at e1
  repeat (first|apply aj|(apply ar;rfl;(first|apply bf|apply aW|apply dy|apply fW)<;>first|rfl|assumption|(apply bK;first|assumption|omega)|exact List.not_mem_nil))
  refine bL rfl ?_
  repeat (first|apply aj|(apply ar;rfl;apply aD<;>rfl))
  exact fin e1 hk1 rfl
 rw[if_neg (by omega)] at e1
 repeat (first|apply aj|(apply ar;rfl;(first|apply bf|apply aW|apply dy|apply fW)<;>first|rfl|assumption|(apply bN;first|assumption|omega)|exact List.not_mem_nil))
 refine bG rfl ?_
 repeat apply aj
 refine SG.makeMap HH He rfl rfl (fun bm w2 hk2 hbm hm=>?_)
 have k2:=hk1.trans hk2
 have r3:=r3.ay hk2
 have hB1:=hB1.ay hk2
 have hIn:=hx
 clear r1 h1 h2
 have hS:=hIn.tx.sl
 have hI:=hIn.tx.ins
 have hx0:=hx
 have ltm:=hm.lt
 have lb2:=hB1.lt
 clear hx hIn
 generalize hsc:gy x.b.txs []=sc at e1
 have hsc:gy (x.xs.map (·.t)) []=sc:=hsc
 generalize hsu:nC (x.b.txs.map (·.fee)) 0=su at e1
 have hsu:nC ((x.xs.map (·.t)).map (·.fee)) 0=su:=hsu
 repeat (first|apply aj|(apply ar;rfl;(first|apply az|apply aD|apply bf|apply aW|apply dy)<;>first|rfl|assumption|exact List.not_mem_nil))
 refine CG.loop (X:=Nat×List (Dg×Int)×List ((Dg×Nn)×Bool)) (fun q=>[(1,.pointer (some ⟨b1,0,none⟩)),(3,.map (some bm)),(24,.slice x.a x.xs.length x.c),(25,.int .i64 (x.xs.length:Int)),(26,.int .i64 (q.1:Int))])
  (fun q w'=>q.1≤x.xs.length∧Kp [] w w'∧aF w' b1 (.cells (dq x).toArray 50)∧aE w' bm HH He q.2.2∧gy ((x.xs.map (·.t)).drop q.1) q.2.1=sc∧∀k:Dg×Nn,aB q.2.2 k=if(k.1,k.2.1)∈q.2.1 then some true else none)
  (fun q=>x.xs.length-q.1) (0,[],[]) ⟨Nat.zero_le _,k2,hB1,hm,hsc,fun k=>rfl⟩ (aS.of rfl) ?_
 rintro⟨i,seen,m⟩ w3 ⟨hi,k3,hB3,hm3,hsc,hmm⟩
 simp only at hi hm3 hsc hmm
 refine CG.to [(1,.pointer (some ⟨b1,0,none⟩)),(3,.map (some bm)),(24,.slice x.a x.xs.length x.c),(25,.int .i64 (x.xs.length:Int)),(26,.int .i64 (i:Int))] (aS.of rfl) ?_
 have ltm:=hm3.lt
 have lb3:=hB3.lt
 by_cases hlt:i<x.xs.length
 ·have g1:(i:Int)<(x.xs.length:Int):=by omega
  obtain⟨ba,off,hxa,hrow⟩:=(hS.ay k3).at hlt
  have hIi:=(hI _ (List.getElem_mem hlt)).ay k3
  have hdr:(x.xs.map (·.t)).drop i=x.xs[i].t::(x.xs.map (·.t)).drop (i+1):=by
   rw[List.drop_eq_getElem_cons (by rw[List.length_map];exact hlt),List.getElem_map]
  rw[hdr] at hsc
  clear hdr
  generalize x.xs[i]=y at hrow hIi hsc
  rw[hxa]
  repeat (first|apply aj|(apply ar;rfl;apply cG<;>first|rfl|(apply bK;first|assumption|omega)))
  refine bL rfl ?_
  repeat (first|apply aj|(apply ar;rfl;(first|apply bj|apply fv)<;>first|rfl|(apply Ar.mk;omega)|assumption|exact List.not_mem_nil|apply au))
  refine SG.alloc rfl rfl rfl (fun b5 w5 hk5 hb5 hB5=>?_)
  refine SG.aN (l:=bV y) rfl rfl (ag rfl) (ag rfl) hB5 (au _) rfl (cC _) (fun w6 hk6 hB6=>?_)
  have hB6:aF w6 b5 (.cells (bV y).toArray 52):=hB6
  have k36:=hk5.ai hk6 (aV hb5)
  obtain⟨q,-⟩:=aZ hB6
  clear hrow
  repeat (first|apply aj|(apply ar;rfl;apply bj<;>first|rfl|assumption|exact List.not_mem_nil|apply au))
  refine SG.ret rfl rfl rfl (vs:=[eR y]) (bz.of rfl) (js (hIi.ay k36)) (fun w7 hk7=>?_)
  have k37:=k36.trans hk7
  clear q
  by_cases hw:bg y.t=0
  rotate_left
  ·rw[gy,if_pos hw] at hsc
   rw[hsc] at hw⊢
   rw[if_pos hw] at e1
   repeat (first|apply aj|(apply ar;rfl;(first|apply az|apply aD|apply dK)<;>first|rfl|(apply bN;first|assumption|omega)))
   refine bL rfl ?_
   repeat (first|apply aj|(apply ar;rfl;(first|apply az|apply aD)<;>rfl))
   exact fin e1 (k3.trans k37) rfl
  rw[gy,if_neg (fun h=>h hw)] at hsc
  rw[hw]
  have h00:(0:Int)=0:=rfl
  repeat (first|apply aj|(apply ar;rfl;(first|apply az|apply aD|apply dK)<;>first|rfl|(apply bK;first|assumption|omega)))
  refine bG rfl ?_
  obtain⟨-,q0,q1,-⟩:=aZ (hB6.ay hk7)
  repeat (first|apply aj|(apply ar;rfl;(first|apply bf|apply bj|apply aW)<;>first|rfl|assumption|exact List.not_mem_nil|apply ah))
  refine SG.val rfl rfl rfl rfl (aG rfl (fun W=>Tv W y.t.frm y.t.non)) ?_
  refine SG.alloc rfl rfl rfl (fun b7 w8 hk8 hb7 hB7=>?_)
  clear q0 q1
  refine SG.aN (l:=Dr (DP y.t hw)) rfl rfl (ag rfl) (ag rfl) hB7 (gx _) rfl (DQ _) (fun w9 hk9 hB9=>?_)
  have k39:=(k37.trans hk8).ai hk9 (aV (by have:=k37.size;omega))
  have qk:Row w9 b7 0 (Dr (DP y.t hw)):=Row.all hB9 rfl
  have hm9:=hm3.ay k39
  have hal:aB m (DP y.t hw)=if(y.t.frm,y.t.non)∈seen then some true else none:=hmm (DP y.t hw)
  have s39:=k39.size
  have lt7:=hB9.lt
  by_cases hin:(y.t.frm,y.t.non)∈seen
  ·rw[if_pos hin] at hsc hal
   subst hsc
   rw[if_pos (by decide)] at e1
   repeat (first|apply aj|(apply ar;rfl;(first|apply az|apply bj|apply qu)<;>first|rfl|assumption|exact List.not_mem_nil|apply gx|exact kX (by assumption)|fail))
   refine bL rfl ?_
   repeat (first|apply aj|(apply ar;rfl;apply aD<;>rfl))
   exact fin e1 (k3.trans k39) rfl
  rw[if_neg hin] at hsc hal
  repeat (first|apply aj|(apply ar;rfl;(first|apply az|apply bj|apply qu)<;>first|rfl|assumption|exact List.not_mem_nil|apply gx|exact tv (by assumption)|fail))
  refine bG rfl ?_
  repeat (first|apply aj|(apply ar;rfl;(first|apply az|apply bj)<;>first|rfl|assumption|exact List.not_mem_nil|apply gx))
  refine SG.mapUpdate (enc:=HH) (V:=He) (kx:=DP y.t hw) (vy:=true) rfl rfl (ag rfl) (ag rfl) (ag rfl) hm9 AZ (fun wa hka hma=>?_)
  repeat (first|apply aj|(apply ar;rfl;(first|apply az|apply dG)<;>first|rfl|(apply Ar.mk;omega)))
  refine NG.round (i+1,(y.t.frm,y.t.non)::seen,cF m (DP y.t hw) true) (aS.of rfl) ⟨hlt,(k3.trans k39).ai hka (aV (by have:=hk1.size;omega)),(hB3.ay k39).kp hka (bP (by omega)),hma,hsc,fun k=>?_⟩ (by simp only;omega)
  simp only
  rw[bR,hmm k]
  by_cases hk:DP y.t hw=k
  ·subst hk
   rw[if_pos rfl,if_pos (show((DP y.t hw).1,(DP y.t hw).2.1)∈(y.t.frm,y.t.non)::seen from List.mem_cons.2 (Or.inl rfl))]
  ·rw[if_neg hk]
   have hk':¬(k.1,k.2.1)=(y.t.frm,y.t.non):=fun e=>hk (by
    obtain⟨k1,k2,k3⟩:=k
    simp only[Prod.mk.injEq] at e
    obtain⟨rfl,rfl⟩:=e
    rfl)
   by_cases hs:(k.1,k.2.1)∈seen
   ·rw[if_pos hs,if_pos (List.mem_cons.2 (Or.inr hs))]
   ·rw[if_neg hs,if_neg (fun h=>(List.mem_cons.1 h).elim hk' hs)]
 ·have g1:¬(i:Int)<(x.xs.length:Int):=by omega
  have e8:i=x.xs.length:=by omega
  rw[e8,←List.length_map (f:=fun x:Tm=>x.t),List.drop_length,gy] at hsc
  subst hsc
  rw[if_neg (fun h=>h rfl)] at e1
  obtain⟨r,-⟩:=cE hB3
  repeat (first|apply aj|(apply ar;rfl;apply cG<;>first|rfl|(apply bN;first|assumption|omega)))
  refine bG rfl ?_
  repeat (first|apply aj|(apply ar;rfl;apply bj<;>first|rfl|assumption|exact List.not_mem_nil|apply aJ))
  refine SG.call rfl rfl rfl (vs:=[iH x]) (bz.of rfl) ((zF (hx0.ay k3)).mono (fun e w4 hh=>?_))
  obtain⟨v4,he,ho4,hk4⟩:=hh
  refine⟨_,he,?_⟩
  clear r he
  obtain⟨a4,c4,rfl,-,hS4⟩:=Sl.own (enc:=tt) (l:=x.xs.map (·.t.fee)) (fun _=>rfl) ho4 rfl
  refine SG.ret rfl rfl rfl (vs:=[.slice a4 (x.xs.map (·.t.fee)).length c4]) (bz.of rfl) (A3 c4 hS4 (by rw[List.length_map];omega)) (fun w5 hk5=>?_)
  have k5:=(k3.trans hk4).trans hk5
  have hsu:nC (x.xs.map (·.t.fee)) 0=su:=by rw[←hsu,List.map_map];rfl
  rw[hsu]
  cases su with
  |some s=>
   rw[if_pos (show(some s).isSome=true from rfl)] at e1
   repeat (first|apply aj|(apply ar;rfl;(first|apply az|apply aD|apply dK|apply dA)<;>first|rfl|(apply bK;first|assumption|omega)))
   refine bG rfl ?_
   repeat (first|apply aj|(apply ar;rfl;apply aD<;>rfl))
   exact fin e1 k5 rfl
  |none=>
   rw[if_neg (by decide)] at e1
   repeat (first|apply aj|(apply ar;rfl;(first|apply az|apply aD|apply dK|apply dA)<;>first|rfl|(apply bN;first|assumption|omega)))
   refine bL rfl ?_
   repeat (first|apply aj|(apply ar;rfl;apply aD<;>rfl))
   exact fin e1 k5 rfl
end
section
section
variable {P:Program} {S:List Nat} {w0:World} {F:World→Prop} {L:Env} {d:Option Nat} {ty:TypeId} {pos:String} {af:Array Edge} {g:Option (Nat×Bool)}
def tQ(s:ByteArray)(z:Int):UInt8:=(s[z.toNat]?).getD 0
theorem Sw{T:TypeId}[u:Ut P T .string]{s:ByteArray}{y:Operand}{k:IntKind}{z:Int}(hy:ro L y=some (.int k z))(h:Ar (0≤z∧z<s.size)):aK P S w0 F L ⟨d,.index T (.const (.string s)) y,ty,pos,af,g⟩ (bv (tQ s z)):=fun w _ _=>by
 have hc:bB L (.const (.string s))= .string s:=rfl
 obtain⟨h0,h1⟩:=h.h
 have hlt:z.toNat<s.size:=by omega
 have e:s[z.toNat]?=some s[z.toNat]:=getElem?_pos s z.toNat hlt
 simp only[execOp,ag hy,hc,Instr.index,Sem.run_bind,Result.andThen]
 simp[asIntOf,run_underlying u.eq,h0,e,tQ,Result.andThen]
theorem N5{T:TypeId}[u:Ut P T .string]{s:ByteArray}{y:Operand}{k:IntKind}{z:Int}(m:Nat)(hm:Nat.ble m s.size=true)(hy:ro L y=some (.int k z))(h:Ar (0≤z∧z<m)):aK P S w0 F L ⟨d,.index T (.const (.string s)) y,ty,pos,af,g⟩ (bv (tQ s z)):=Sw hy (Ar.mk (by
 have:=Nat.le_of_ble_eq_true hm
 have:=h.h
 omega))
theorem Sx{T:TypeId}[u:Ut P T .string]{s:ByteArray}{x y:Operand}{k k':IntKind}{l h:Int}(hx:ro L x=some (.int k l))(hy:ro L y=some (.int k' h))(hb:Ar (0≤l∧l≤h∧h≤s.size)):aK P S w0 F L ⟨d,.slice T (.const (.string s)) (some x) (some y) none,ty,pos,af,g⟩ (.string (s.extract l.toNat h.toNat)):=fun w _ _=>by
 have hc:bB L (.const (.string s))= .string s:=rfl
 obtain⟨h0,h1,h2⟩:=hb.h
 have e1:(0:Int)≤h∧h≤(s.size:Int):=⟨by omega,h2⟩
 have e2:(0:Int)≤l∧l≤(h.toNat:Int):=⟨h0,by omega⟩
 simp only[execOp,ag hx,ag hy,hc,Option.map_some,Option.map_none,Instr.sliceAt,Sem.run_bind,run_underlying u.eq,Result.andThen,Instr.slice,Instr.sliceBounds,Instr.sliceBound,asIntOf,Sem.run_pure]
 simp only[if_pos e1,Sem.run_pure,Sem.run_bind,Result.andThen,if_pos e2,Option.isSome_none,Bool.false_eq_true,if_false]
theorem Sy{T T':TypeId}[u:Ut P T .string]{x y:Operand}{a b:List UInt8}(hx:ro L x=some (sv a))(hy:ro L y=some (sv b))(hl:Ar (a.length+b.length≤1000000)):aK P S w0 F L ⟨d,.binOp .add T x y T',ty,pos,af,g⟩ (sv (a++b)):=fun w _ _=>by
 have e:(⟨a.toArray⟩:ByteArray)++⟨b.toArray⟩=⟨(a++b).toArray⟩:=by
  apply ByteArray.ext
  simp
 simp only[execOp,ag hx,ag hy,eqGuard,binOp,sv,Sem.run_bind,Sem.run_pure,Result.andThen]
 have h:=hl.h
 have e2:¬(9223372036854775807:Int)<((⟨a.toArray⟩:ByteArray).size:Int)+((⟨b.toArray⟩:ByteArray).size:Int):=by
  show ¬(9223372036854775807:Int)<((a.toArray.size:Nat):Int)+((b.toArray.size:Nat):Int)
  simp only[List.size_toArray]
  omega
 simp[Op.stringOp,e,e2]
end
end
section
def mb(x:Nat):Nat:=if x=0 then 0 else Nat.log2 x+1
def oT(d:Dg):Dg:=dB d [108,101,97,102]
def jQ(d:Dg)(h:Nat):Dg:=dB d ([114,111,111,116]++[UInt8.ofNat (48+h)])
theorem NZ{s:ByteArray}{x:Nat}(hx:x<64)(h:∀y:_root_.Fin 64,tQ s ((y.val:Nat):Int)=UInt8.ofNat (mb y.val)):tQ s (x:Int)=UInt8.ofNat (mb x):=h ⟨x,hx⟩
theorem GK{x:Nat}(hx:x<64):mb x≤6:=by
 have key:∀y:_root_.Fin 64,mb y.val≤6:=by decide+kernel
 exact key ⟨x,hx⟩
theorem Iw{s:ByteArray}{h:Nat}(hh:h<10)(hd:∀y:_root_.Fin 10,(s.extract y.val (y.val+1)).data.toList=[UInt8.ofNat (48+y.val)]):Value.string (s.extract (h:Int).toNat ((h:Int)+1).toNat)=sv [UInt8.ofNat (48+h)]:=by
 have e:=hd ⟨h,hh⟩
 simp only at e
 have e1:(h:Int).toNat=h:=by omega
 have e2:((h:Int)+1).toNat=h+1:=by omega
 rw[e1,e2]
 unfold sv
 congr 1
 apply ByteArray.ext
 rw[←e,Array.toArray_toList]
attribute [local irreducible] CG NG SG aK aI Row aF aE aM num c9 de cQ cJ qw cP bg dB kV dP bE cV aR jV
theorem B1(d:Dg)(w:World):dz Tryz.prog 183 #[dv d] w (dv (oT d)):=by
 refine bA Tryz.func183 rfl Tryz.ntmps183 rfl ?_
 repeat apply aj
 refine SG.box rfl rfl rfl (ag rfl) (fun b1 w1 hk1 hb1 hB1=>?_)
 refine SG.alloc rfl rfl rfl (fun b2 w2 hk2 hb2 hB2=>?_)
 have r1:Row w2 b1 0 (dc d):=(Row.all hB1 rfl).ay hk2
 have s1:=hk1.size
 repeat (first|apply aj|(apply ar;rfl;apply bj<;>first|rfl|assumption|exact List.not_mem_nil|apply ah))
 refine SG.ret rfl rfl rfl (vs:=[dv d,sv [108,101,97,102]]) (bz.of rfl) (gu d [108,101,97,102] (by decide) w2) (fun w3 hk3=>?_)
 refine SG.aN (old:=dc zd) (l:=dc (oT d)) rfl rfl (ag rfl) (ag rfl) (hB2.ay hk3) (ah _) (ah _) (bu _) (fun w4 hk4 hB4=>?_)
 have r4:Row w4 b2 0 (dc (oT d)):=Row.all hB4 rfl
 repeat apply aj
 refine aO (Or.inl rfl) Tryz.results183 (by exact aC.agg rfl rfl (by assumption) (by first|exact ah _|exact nc_length _|exact rc_length _ _ _|exact aL _|exact dl_length _ _ _ _|exact aX _|exact aU _|exact bC _|exact au _|rfl)) ?_
 exact⟨rfl,((hk1.trans hk2).trans hk3).ai hk4 (aV (by omega))⟩
theorem vJ(h:Nat)(hh:h<10)(w:World):dz Tryz.prog 213 #[.int .i64 (h:Int)] w (sv [UInt8.ofNat (48+h)]):=by
 refine bA Tryz.func213 rfl Tryz.ntmps213 rfl ?_
 have g1:(h:Int)<10:=by omega
 repeat (first|apply aj|(apply ar;rfl;(first|apply az|apply aD|apply cG)<;>first|rfl|(apply bK;first|assumption|omega)))
 refine bL rfl ?_
 repeat (first|apply aj|(apply ar;rfl;(first|apply az|apply dG)<;>first|rfl|(apply Ar.mk;omega)))
 refine SG.val rfl rfl rfl rfl (Sx (l:=(h:Int)) (h:=(h:Int)+1) rfl rfl (Ar.mk ⟨by omega,by omega,by show(h:Int)+1≤((36:Nat):Int);omega⟩)) ?_
 rw[Iw hh ?_]
 rotate_left
 ·decide+kernel
 repeat (first|apply aj|(apply ar;rfl;apply aD<;>rfl))
 refine aO (Or.inl rfl) Tryz.results213 (aC.tmp rfl) ?_
 exact⟨rfl,Kp.refl _ _⟩
theorem zC(h:Nat)(hh:h<10)(w:World):dz Tryz.prog 198 #[.int .i64 (h:Int)] w (sv [UInt8.ofNat (48+h)]):=by
 have h1:∀w,dz Tryz.prog 209 #[.int .i64 (h:Int),.int .i64 10] w (sv [UInt8.ofNat (48+h)]):=fun w=>by
  refine bJ Tryz.func209 rfl Tryz.ntmps209 rfl ?_
  have g0:(0:Int)≤(h:Int):=by omega
  have g1:(h:Int)<100:=by omega
  repeat (first|apply aj|(apply ar;rfl;(first|apply az|apply aD|apply fF)<;>first|rfl|(apply bK;first|assumption|omega)))
  refine bL rfl ?_
  repeat (first|apply aj|(apply ar;rfl;(first|apply az|apply cu|apply cG|apply Dt)<;>first|rfl|(apply bK;first|assumption|omega)))
  refine bL rfl ?_
  repeat (first|apply aj|(apply ar;rfl;apply az<;>rfl))
  refine SG.ret rfl rfl rfl (by repeat' (first|exact True.intro|exact ag rfl|refine And.intro ?_ ?_)) (vJ h hh w) (fun w1 hk1=>?_)
  repeat (first|apply aj|(apply ar;rfl;apply aD<;>rfl))
  refine aO (Or.inl rfl) Tryz.results209 (aC.tmp rfl) ?_
  exact⟨rfl,hk1⟩
 have h2:∀w,dz Tryz.prog 200 #[.int .i64 (h:Int)] w (sv [UInt8.ofNat (48+h)]):=fun w=>by
  refine bA Tryz.func200 rfl Tryz.ntmps200 rfl ?_
  repeat (first|apply aj|(apply ar;rfl;(first|apply az|apply aD)<;>rfl))
  refine SG.ret rfl rfl rfl (vs:=[.int .i64 (h:Int),.int .i64 10]) (bz.of rfl) (h1 w) (fun w1 hk1=>?_)
  repeat (first|apply aj|(apply ar;rfl;apply aD<;>rfl))
  refine aO (Or.inl rfl) Tryz.results200 (aC.tmp rfl) ?_
  exact⟨rfl,hk1⟩
 refine bA Tryz.func198 rfl Tryz.ntmps198 rfl ?_
 repeat (first|apply aj|(apply ar;rfl;(first|apply az|apply aD)<;>rfl))
 refine SG.ret rfl rfl rfl (vs:=[.int .i64 (h:Int)]) (bz.of rfl) (h2 w) (fun w1 hk1=>?_)
 repeat (first|apply aj|(apply ar;rfl;apply aD<;>rfl))
 refine aO (Or.inl rfl) Tryz.results198 (aC.tmp rfl) ?_
 exact⟨rfl,hk1⟩
theorem AW(d:Dg)(h:Nat)(hh:h<10)(w:World):dz Tryz.prog 186 #[dv d,.int .i64 (h:Int)] w (dv (jQ d h)):=by
 refine bJ Tryz.func186 rfl Tryz.ntmps186 rfl ?_
 repeat apply aj
 refine SG.box rfl rfl rfl (ag rfl) (fun b1 w1 hk1 hb1 hB1=>?_)
 refine SG.alloc rfl rfl rfl (fun b2 w2 hk2 hb2 hB2=>?_)
 have r1:Row w2 b1 0 (dc d):=(Row.all hB1 rfl).ay hk2
 have s1:=hk1.size
 repeat apply aj
 refine CG.tail mixed 4 [0,1,2,3] (by kernel_rfl) ?_
 repeat (apply bZ;rfl;rfl;(first|apply az|apply bj)<;>first|rfl|assumption|exact List.not_mem_nil|apply ah)
 refine aI.call rfl rfl rfl (vs:=[.int .i64 (h:Int)]) (bz.of rfl) (fun W hk _=>zC h hh W) ?_
 refine aI.val rfl rfl rfl (Sy (a:=[114,111,111,116]) (b:=[UInt8.ofNat (48+h)]) rfl rfl (Ar.mk (by simp))) ?_
 refine aI.tl (fun w3 hk3 _ _=>?_)
 refine SG.ret rfl rfl rfl (vs:=[dv d,sv ([114,111,111,116]++[UInt8.ofNat (48+h)])]) (bz.of rfl) (gu d _ (by simp) w3) (fun w4 hk4=>?_)
 refine SG.aN (old:=dc zd) (l:=dc (jQ d h)) rfl rfl (ag rfl) (ag rfl) ((hB2.ay hk3).ay hk4) (ah _) (ah _) (bu _) (fun w5 hk5 hB5=>?_)
 have r4:Row w5 b2 0 (dc (jQ d h)):=Row.all hB5 rfl
 repeat apply aj
 refine aO (Or.inl rfl) Tryz.results186 (by exact aC.agg rfl rfl (by assumption) (by first|exact ah _|exact nc_length _|exact rc_length _ _ _|exact aL _|exact dl_length _ _ _ _|exact aX _|exact aU _|exact bC _|exact au _|rfl)) ?_
 exact⟨rfl,(((hk1.trans hk2).trans hk3).trans hk4).ai hk5 (aV (by omega))⟩
theorem wH(x:Nat)(hx:x<64)(w:World):dz Tryz.prog 157 #[.int .u64 (x:Int)] w (.int .i64 (mb x:Int)):=by
 refine bA Tryz.func157 rfl Tryz.ntmps157 rfl ?_
 have g1:¬(4294967296:Int)≤(x:Int):=by omega
 have g2:¬(65536:Int)≤(x:Int):=by omega
 have g3:¬(256:Int)≤(x:Int):=by omega
 repeat (first|apply aj|(apply ar;rfl;(first|apply az|apply aD|apply jN)<;>first|rfl|(apply bN;first|assumption|omega)))
 refine bG rfl ?_
 repeat (first|apply aj|(apply ar;rfl;(first|apply az|apply jN)<;>first|rfl|(apply bN;first|assumption|omega)))
 refine bG rfl ?_
 repeat (first|apply aj|(apply ar;rfl;(first|apply az|apply jN)<;>first|rfl|(apply bN;first|assumption|omega)))
 refine bG rfl ?_
 repeat (first|apply aj|(apply ar;rfl;first|apply Bo<;>rfl|apply az<;>rfl))
 rw[vF]
 have ex:(UInt8.ofNat x).toNat=x:=by rw[UInt8.toNat_ofNat'];omega
 refine SG.val rfl rfl rfl rfl (N5 (z:=(x:Int)) 256 (by kernel_rfl) (by show _=some (Value.int .u8 (x:Int));exact congrArg (fun n:Nat=>some (Value.int .u8 (n:Int))) ex) (Ar.mk ⟨by omega,by omega⟩)) ?_
 rw[NZ hx ?_]
 rotate_left
 ·decide+kernel
 have hb:=GK hx
 have e2:(UInt8.ofNat (mb x)).toNat=mb x:=by rw[UInt8.toNat_ofNat'];omega
 refine SG.val rfl rfl rfl rfl (Fz rfl) ?_
 rw[e2]
 repeat (first|apply aj|(apply ar;rfl;(first|apply aD|apply dG)<;>first|rfl|(apply Ar.mk;omega)))
 refine aO (Or.inl rfl) Tryz.results157 (aC.tmp rfl) ?_
 exact⟨by rw[Int.zero_add],Kp.refl _ _⟩
theorem B4(x:Nat)(hx:x<64)(w:World):dz Tryz.prog 114 #[.int .u64 (x:Int)] w (.int .i64 (mb x:Int)):=by
 refine bA Tryz.func114 rfl Tryz.ntmps114 rfl ?_
 repeat (first|apply aj|(apply ar;rfl;apply aD<;>rfl))
 refine bG rfl ?_
 repeat (first|apply aj|(apply ar;rfl;apply az<;>rfl))
 refine SG.ret rfl rfl rfl (vs:=[.int .u64 (x:Int)]) (bz.of rfl) (wH x hx w) (fun w1 hk1=>?_)
 repeat (first|apply aj|(apply ar;rfl;apply aD<;>rfl))
 refine aO (Or.inl rfl) Tryz.results114 (aC.tmp rfl) ?_
 exact⟨rfl,hk1⟩
theorem uC(n:Nat)(h1:1≤n)(h2:n≤64)(w:World):dz Tryz.prog 181 #[.int .i64 (n:Int)] w (.int .i64 (mb (n-1):Int)):=by
 refine bA Tryz.func181 rfl Tryz.ntmps181 rfl ?_
 have g1:¬(n:Int)<1:=by omega
 have g2:¬(4096:Int)<(n:Int):=by omega
 repeat (first|apply aj|(apply ar;rfl;(first|apply az|apply aD|apply cu|apply cG|apply fW)<;>first|rfl|(apply bN;first|assumption|omega)))
 refine bG rfl ?_
 repeat (first|apply aj|(apply ar;rfl;(first|apply az|apply xL|apply vj)<;>first|rfl|(apply Ar.mk;omega)))
 rw[show IntKind.wrap .u64 ((n:Int)-1)=((n-1:Nat):Int) by simp only[IntKind.wrap,IntKind.signed,IntKind.bits];simp;omega]
 refine SG.ret rfl rfl rfl (vs:=[.int .u64 ((n-1:Nat):Int)]) (bz.of rfl) (B4 (n-1) (by omega) w) (fun w1 hk1=>?_)
 repeat (first|apply aj|(apply ar;rfl;apply aD<;>rfl))
 refine aO (Or.inl rfl) Tryz.results181 (aC.tmp rfl) ?_
 exact⟨rfl,hk1⟩
end
section
theorem Tr.WF.anc{t:Tr}(wf:t.WF):∀(j:Nat) {x:Dg},t.has x=true→j≤t.ht x→t.has (t.anc j x)=true∧t.ht (t.anc j x)+j=t.ht x
 |0,x,hx,_=>⟨hx,rfl⟩
 |j+1,x,hx,hj=>by
  have hne:x≠t.first:=fun e=>by rw[e,wf.h0] at hj;omega
  obtain⟨h1,h2⟩:=wf.up x hx hne
  obtain⟨h3,h4⟩:=wf.anc j h1 (by omega)
  exact⟨h3,by rw[Tr.anc];omega⟩
theorem qZ{t:Tr}(wf:t.WF):∀(n:Nat) {a b:Dg},t.has a=true→t.has b=true→t.ht a+t.ht b<n→∃i j,i≤t.ht a∧j≤t.ht b∧t.fi n a b=t.anc i a∧t.fi n a b=t.anc j b
 |0,a,b,_,_,h=>by omega
 |n+1,a,b,ha,hb,h=>by
  simp only[Tr.fi]
  by_cases e:a=b
  ·rw[if_pos e]
   exact⟨0,0,Nat.zero_le _,Nat.zero_le _,rfl,e⟩
  ·rw[if_neg e]
   obtain⟨h1,h2,h3,_⟩:=wf.round ha hb e
   have key:∀{a b:Dg},t.has a=true→t.has b=true→a≠b→t.ht b≤t.ht a→t.ht a=t.ht (t.par a)+1:=by
    intro a b ha hb hne hle
    refine(wf.up a ha (fun e=>hne ?_)).2
    have h1:t.ht a=0:=by rw[e];exact wf.h0
    have h2:=wf.pT hb (by omega)
    rw[e,h2]
   obtain⟨i,j,g1,g2,g3,g4⟩:=qZ wf n h1 h2 (by omega)
   by_cases c1:t.ht b≤t.ht a<;>by_cases c2:t.ht a≤t.ht b
   ·have k1:=key ha hb e c1
    have k2:=key hb ha (fun e1=>e e1.symm) c2
    simp only[c1,c2,if_true] at g1 g2 g3 g4⊢
    exact⟨i+1,j+1,by omega,by omega,g3,g4⟩
   ·have k1:=key ha hb e c1
    simp only[c1,c2,if_true,if_false] at g1 g2 g3 g4⊢
    exact⟨i+1,j,by omega,g2,g3,g4⟩
   ·have k2:=key hb ha (fun e1=>e e1.symm) c2
    simp only[c1,c2,if_true,if_false] at g1 g2 g3 g4⊢
    exact⟨i,j+1,g1,by omega,g3,g4⟩
   ·omega
theorem Bx{t:Tr}(wf:t.WF){a b:Dg}(ha:t.has a=true)(hb:t.has b=true):∃i,i≤t.ht a∧t.part a b=t.anc i a∧t.ht (t.part a b)+i=t.ht a:=by
 obtain⟨i,j,h1,h2,h3,h4⟩:=qZ wf (t.ht a+t.ht b+1) ha hb (by omega)
 have:=(wf.anc i ha h1).2
 refine⟨i,h1,h3,?_⟩
 unfold Tr.part
 rw[h3]
 exact this
theorem Tr.xf(t:Tr)(m:Nat)(x:Dg):t.dY m x=(t.dY m x).take m++[t.anc m x]:=by
 cases m with
 |zero=>rfl
 |succ m=>
  rw[Tr.lU]
  have:(t.dY m x).length=m+1:=Tr.eP t m x
  rw[List.take_append_of_le_length (by omega),List.take_of_length_le (by omega)]
def Tr.qO(t:Tr)(a b:Dg):Nat:=t.ht a-t.ht (t.part a b)
def Tr.fm(t:Tr)(a b:Dg):List Dg:=(t.dY (t.qO a b) a).take (t.qO a b)
attribute [local irreducible] CG NG SG aK aI Row aF aE
theorem mO{w:World}{bt bm:Nat}{t:Tr}(hT:cj w bt bm t)(wf:t.WF){x y:Dg}(hx:t.has x=true)(hy:t.has y=true):
  Calls Tryz.prog 100 #[.pointer (some ⟨bt,0,none⟩),dv x,dv y] w (fun e w'=>∃b off c pre post,e= .returned (.slice (some ⟨b,off,none⟩) (t.qO x y) c)∧w.heap.size≤b∧aF w' b (.cells (pre++(flat (t.fm x y)++post)).toArray 47)∧(pre.length=off∧t.qO x y≤c)∧Kp [] w w'):=by
 refine ey Tryz.func100 rfl Tryz.ntmps100 rfl ?_
 repeat apply aj
 refine SG.box rfl rfl rfl (ag rfl) (fun b4 w1 hk1 hb4 hB4=>?_)
 refine SG.box rfl rfl rfl (ag rfl) (fun b5 w2 hk2 hb5 hB5=>?_)
 have hk02:=hk1.trans hk2
 have hT2:=hT.ay hk02
 have hR4:Row w2 b4 0 (dc x):=Row.all (hB4.ay hk2) rfl
 have hR5:Row w2 b5 0 (dc y):=Row.all hB5 rfl
 have hhx:¬t.height x<0:=by rw[Tr.height,Tr.eU hx];simp only;omega
 have hhy:¬t.height y<0:=by rw[Tr.height,Tr.eU hy];simp only;omega
 repeat (first|apply aj|(apply ar;rfl;(first|apply az|apply aD|apply bj)<;>first|rfl|assumption|exact List.not_mem_nil|apply ah))
 refine SG.ret rfl rfl rfl (by repeat' (first|exact True.intro|exact ag rfl|refine And.intro ?_ ?_)) (gl hT2 x) (fun w3 hk3=>?_)
 have hk03:=hk02.trans hk3
 have hT3:=hT.ay hk03
 have hR4:=hR4.ay hk3
 have hR5:=hR5.ay hk3
 repeat (apply ar;rfl;(first|apply az|apply bj|apply cG)<;>first|rfl|assumption|(apply bN;first|assumption|omega)|exact List.not_mem_nil|apply ah)
 refine SG.ret rfl rfl rfl (by repeat' (first|exact True.intro|exact ag rfl|refine And.intro ?_ ?_)) (gl hT3 y) (fun w4 hk4=>?_)
 have hk04:=hk03.trans hk4
 have hT4:=hT.ay hk04
 have hR4:=hR4.ay hk4
 have hR5:=hR5.ay hk4
 repeat (first|apply aj|(apply ar;rfl;(first|apply cu|apply cG)<;>first|rfl|(apply bN;first|assumption|omega)))
 refine bG rfl ?_
 repeat apply aj
 obtain⟨m,hm1,hm2,hm3⟩:=Bx wf hx hy
 have hbx:=wf.bound hx
 have hund:t.qO x y=m:=by unfold Tr.qO;omega
 refine CG.eQ mixed [0,1,2,3,4,5,6,7,8] [6] (by kernel_rfl) ?_
 repeat (apply bZ;rfl;rfl;(first|apply az|apply bj)<;>first|rfl|assumption|exact List.not_mem_nil|apply ah)
 refine aI.call rfl rfl rfl (by repeat' (first|exact True.intro|exact ag rfl|refine And.intro ?_ ?_)) (fun w hk _=>pP (hT4.ay hk) wf hx hy) ?_
 refine aI.kl (X:=Nat×Nat×List Value) (vs:=[.pointer (some ⟨bt,0,none⟩),dv x,dv (t.part x y)]) (fun q=> .slice (some ⟨q.1,0,none⟩) (m+1) q.2.1) (fun q w'=>w4.heap.size≤q.1∧m+1≤q.2.1∧aF w' q.1 (.cells (flat (t.dY m x).reverse++q.2.2).toArray 47)) rfl rfl rfl rfl (bz.of rfl) (fun q w w' hk h=>⟨h.1,h.2.1,h.2.2.ay hk⟩) (fun _ _ _ h=>h) (fun w hk _=>?_) (fun q=>?_)
 ·refine(oJ (hT4.ay hk) x (t.part x y) m (by omega) hm2.symm (fun j hj e=>?_) (fun j hj=>(wf.anc j hx (by omega)).1)).mono (fun e w' h=>?_)
  ·have h1:=(wf.anc j hx (by omega)).2
   rw[e] at h1
   omega
  ·obtain⟨b,c,post,h1,h2,h3,h4,h5⟩:=h
   exact⟨(b,c,post),h1,⟨by have:=hk.size;omega,h3,h4⟩,h5⟩
 obtain⟨bq,cq,post⟩:=q
 simp only
 refine aI.val rfl rfl rfl (ny (j:=1) (ag rfl) rfl (by omega)) ?_
 repeat (apply bZ;rfl;rfl;apply aD<;>rfl)
 refine aI.fin (fun w5 hk5 hF _=>?_)
 obtain⟨_,hq1,hq2,hq3⟩:=hF
 have hk05:=hk04.trans hk5
 have hul:t.fm x y=(t.dY m x).take m:=by unfold Tr.fm;rw[hund]
 have hrl:((t.dY m x).take m).reverse.length=m:=by simp[Tr.eP]
 have hmm:m+1-1=m:=by omega
 obtain⟨off,pre,post',hoff,hpre,hblk⟩:∃off pre post',(if cq=1 then 0 else 0+1*8)=off∧pre.length=off∧aF w5 bq (.cells (pre++(flat ((t.dY m x).take m).reverse++post')).toArray 47):=by
  by_cases hc:cq=1
  ·have hm0:m=0:=by omega
   subst hm0
   exact⟨0,[],flat (t.dY 0 x).reverse++post,by simp[hc],rfl,hq3⟩
  ·refine⟨8,dc (t.anc m x),post,by simp[hc],ah _,?_⟩
   rw[Tr.xf,List.reverse_append,oK] at hq3
   simpa[iy] using hq3
 rw[hoff,hmm]
 have hrev:=mz (c:=cq-1) hblk (by omega)
 rw[hrl,hpre,List.reverse_reverse] at hrev
 repeat (first|apply aj|(apply ar;rfl;apply az<;>rfl))
 refine SG.call rfl rfl rfl (by repeat' (first|exact True.intro|exact ag rfl|refine And.intro ?_ ?_)) (hrev.mono (fun e w6 h=>?_))
 obtain⟨h1,h2,h3⟩:=h
 refine⟨_,h1,?_⟩
 repeat (first|apply aj|(apply ar;rfl;(first|apply az|apply aD)<;>rfl))
 refine aO (Or.inl rfl) Tryz.results100 (aC.tmp rfl) ?_
 rw[hund,hul]
 have:=hk04.size
 exact⟨bq,off,cq-1,pre,post',rfl,by omega,h2,⟨hpre,by omega⟩,hk05.ai h3 (by first|exact aV (by omega)|exact gj (by omega) (by omega))⟩
end
section
theorem wu(f x:Dg)(d:Nat):aB (Tr.new f d).nodes x=if f=x then some xZ else none:=by
 simp[Tr.new,aB]
theorem nJ(f:Dg)(d:Nat):(Tr.new f d).WF:=by
 have hh:∀x,(Tr.new f d).has x=true→x=f:=by
  intro x hx
  unfold Tr.has at hx
  rw[wu] at hx
  by_cases e:f=x
  ·exact e.symm
  ·simp[e] at hx
 have h1:(Tr.new f d).has f=true:=by unfold Tr.has;rw[wu];simp
 have h2:(Tr.new f d).ht f=0:=by unfold Tr.ht Tr.nd;rw[wu];simp[xZ]
 refine⟨h1,h2,h1,fun x hx hne=>absurd (hh x hx) hne,fun x hx=>?_,by simp[Tr.new],?_⟩
 ·rw[hh x hx];exact Nat.le_refl _
 ·show(Tr.new f d).ht f<1
  rw[h2];omega
theorem jX(t:Tr)(x p z:Dg):aB (t.put x p).nodes z=if x=z then some ⟨p,t.ht p+1⟩ else aB t.nodes z:=bR _ _ _ _
theorem fI(t:Tr)(x p:Dg):(t.put x p).ht x=t.ht p+1:=by unfold Tr.ht Tr.nd;rw[jX];simp[Tr.ht,Tr.nd]
theorem cO(t:Tr){x p z:Dg}(h:x≠z):(t.put x p).ht z=t.ht z:=by
 have:(t.put x p).nd z=t.nd z:=by unfold Tr.nd;rw[jX,if_neg h]
 unfold Tr.ht;rw[this]
theorem ir(t:Tr){x p z:Dg}(h:x≠z):(t.put x p).par z=t.par z:=by
 have:(t.put x p).nd z=t.nd z:=by unfold Tr.nd;rw[jX,if_neg h]
 unfold Tr.par;rw[this]
theorem iu(t:Tr)(x p:Dg):(t.put x p).par x=p:=by unfold Tr.par Tr.nd;rw[jX];simp
theorem fw(t:Tr)(x p z:Dg):(t.put x p).has z=(decide (x=z)||t.has z):=by
 unfold Tr.has;rw[jX];by_cases e:x=z<;>simp[e]
theorem o5(t:Tr)(x p:Dg):(t.put x p).tip=if t.ht t.tip<t.ht p+1 then x else t.tip:=rfl
theorem Bq{t:Tr}(wf:t.WF){x p:Dg}(hx:t.has x=false)(hp:t.has p=true)(hl:t.nodes.length<4096):(t.put x p).WF:=by
 have hnx:∀{z:Dg},t.has z=true→x≠z:=fun hz e=>by rw[e,hz] at hx;cases hx
 have hpt:=wf.top p hp
 have htip:(t.put x p).ht (t.put x p).tip=if t.ht t.tip<t.ht p+1 then t.ht p+1 else t.ht t.tip:=by
  rw[o5]
  split
  ·exact fI t x p
  ·exact cO t (hnx wf.tip)
 have hlen:(t.put x p).nodes.length=t.nodes.length+1:=by
  have:aB t.nodes x=none:=Tr.mR (by rw[hx];simp)
  show(cF t.nodes x _).length=_
  rw[hZ _ this];simp
 refine⟨?_,?_,?_,fun z hz hne=>?_,fun z hz=>?_,by rw[hlen];omega,?_⟩
 ·show(t.put x p).has t.first=true
  rw[fw,wf.first];simp
 ·show(t.put x p).ht t.first=0
  rw[cO t (hnx wf.first)];exact wf.h0
 ·rw[o5]
  split
  ·rw[fw];simp
  ·rw[fw,wf.tip];simp
 ·by_cases e:x=z
  ·subst e
   rw[iu,fI,fw,hp,cO t (hnx hp)]
   simp
  ·have hz':t.has z=true:=by rw[fw] at hz;simpa[e] using hz
   obtain⟨h1,h2⟩:=wf.up z hz' hne
   rw[ir t e,fw,h1,cO t e,cO t (hnx h1)]
   exact⟨by simp,h2⟩
 ·rw[htip]
  by_cases e:x=z
  ·subst e
   rw[fI]
   split<;>omega
  ·have hz':t.has z=true:=by rw[fw] at hz;simpa[e] using hz
   rw[cO t e]
   have:=wf.top z hz'
   split<;>omega
 ·rw[htip,hlen]
  have:=wf.low
  split<;>omega
theorem pH{t:Tr}(wf:t.WF):∀(n:Nat) {a b:Dg},t.has a=true→t.has b=true→t.ht a+t.ht b<n→t.fi n a b=t.fi n b a
 |0,a,b,_,_,h=>by omega
 |n+1,a,b,ha,hb,h=>by
  simp only[Tr.fi]
  by_cases e:a=b
  ·subst e;rfl
  ·have e':¬b=a:=fun e1=>e e1.symm
   rw[if_neg e,if_neg e']
   obtain⟨h1,h2,h3,_⟩:=wf.round ha hb e
   exact pH wf n h1 h2 (by omega)
theorem zh{t:Tr}(wf:t.WF){a b:Dg}(ha:t.has a=true)(hb:t.has b=true):t.part a b=t.part b a:=by
 unfold Tr.part
 rw[pH wf _ ha hb (by omega),Nat.add_comm (t.ht a)]
theorem qT{t:Tr}(wf:t.WF){x p:Dg}(hx:t.has x=false):∀(n:Nat) {a b:Dg},t.has a=true→t.has b=true→(t.put x p).fi n a b=t.fi n a b
 |0,a,b,_,_=>rfl
 |n+1,a,b,ha,hb=>by
  have hnx:∀{z:Dg},t.has z=true→x≠z:=fun hz e=>by rw[e,hz] at hx;cases hx
  simp only[Tr.fi]
  by_cases e:a=b
  ·rw[if_pos e,if_pos e]
  ·rw[if_neg e,if_neg e,cO t (hnx ha),cO t (hnx hb),ir t (hnx ha),ir t (hnx hb)]
   obtain⟨h1,h2,_,_⟩:=wf.round ha hb e
   exact qT wf hx n h1 h2
theorem Br{t:Tr}(wf:t.WF){x p a b:Dg}(hx:t.has x=false)(ha:t.has a=true)(hb:t.has b=true):(t.put x p).part a b=t.part a b:=by
 have hnx:∀{z:Dg},t.has z=true→x≠z:=fun hz e=>by rw[e,hz] at hx;cases hx
 unfold Tr.part
 rw[qT wf hx _ ha hb,cO t (hnx ha),cO t (hnx hb)]
theorem sk{t:Tr}(wf:t.WF){x p:Dg}(hx:t.has x=false)(hp:t.has p=true)(hl:t.nodes.length<4096)(hup:t.ht t.tip<t.ht p+1):(t.put x p).part t.tip x=t.part p t.tip:=by
 have wf':=Bq wf hx hp hl
 have hnx:∀{z:Dg},t.has z=true→x≠z:=fun hz e=>by rw[e,hz] at hx;cases hx
 have hne:t.tip≠x:=fun e=>hnx wf.tip e.symm
 have h1:(t.put x p).has t.tip=true:=by rw[fw,wf.tip];simp
 have h2:(t.put x p).has x=true:=by rw[fw];simp
 obtain⟨_,_,_,h3⟩:=wf'.round h1 h2 hne
 have e1:¬(t.put x p).ht x≤(t.put x p).ht t.tip:=by rw[fI,cO t (hnx wf.tip)];omega
 have e2:(t.put x p).ht t.tip≤(t.put x p).ht x:=by omega
 rw[if_neg e1,if_pos e2,iu] at h3
 rw[←h3,Br wf hx wf.tip hp,zh wf wf.tip hp]
theorem tM(t:Tr)(a:Dg):t.qO a a=0:=by unfold Tr.qO;rw[Tr.qX];omega
theorem qm{t:Tr}(wf:t.WF)(x p:Dg):(t.add x p).WF∧(t.add x p).depth=t.depth∧(t.add x p).first=t.first∧(t.add x p).has t.tip=true∧(t.add x p).ht t.tip=t.ht t.tip∧(t.add x p).qO t.tip (t.add x p).tip≤t.depth∧
  ((t.add x p).tip=t.tip∨((t.add x p).tip≠t.tip∧(t.add x p).ht (t.add x p).tip=t.ht t.tip+1)):=by
 unfold Tr.add
 by_cases he:t.addE x p=0
 ·rw[if_pos he]
  have hx:t.has x=false:=by
   cases h:t.has x with
   |false=>rfl
   |true=>simp[Tr.addE,h] at he
  have hp:t.has p=true:=by
   cases h:t.has p with
   |true=>rfl
   |false=>simp[Tr.addE,hx,h] at he
  have hl:t.nodes.length<4096:=by
   by_cases h:4096≤t.nodes.length
   ·simp[Tr.addE,hx,hp,h] at he
   ·omega
  have hd:¬t.depth+t.ht (t.part p t.tip)<t.ht t.tip:=by
   intro h
   have h':¬4096≤t.nodes.length:=by omega
   simp[Tr.addE,hx,hp,h',Tr.deep,h] at he
  have hnx:∀{z:Dg},t.has z=true→x≠z:=fun hz e=>by rw[e,hz] at hx;cases hx
  have h1:(t.put x p).has t.tip=true:=by rw[fw,wf.tip];simp
  have h2:=cO t (p:=p) (hnx wf.tip)
  refine⟨Bq wf hx hp hl,rfl,rfl,h1,h2,?_,?_⟩
  ·rw[o5]
   by_cases hup:t.ht t.tip<t.ht p+1
   ·rw[if_pos hup]
    unfold Tr.qO
    rw[sk wf hx hp hl hup,h2]
    have hpt:=uf wf hp wf.tip
    rw[cO t (hnx hpt)]
    omega
   ·rw[if_neg hup,tM];omega
  ·rw[o5]
   by_cases hup:t.ht t.tip<t.ht p+1
   ·rw[if_pos hup]
    refine Or.inr ⟨fun e=>hnx wf.tip e,?_⟩
    rw[fI]
    have:=wf.top p hp
    omega
   ·rw[if_neg hup];exact Or.inl rfl
 ·rw[if_neg he]
  exact⟨wf,rfl,rfl,wf.tip,rfl,by rw[tM];omega,Or.inl rfl⟩
end
section
abbrev Uz(w:World)(a:Option Addr)(l:List Dg):Prop:=Sl dc 8 w a l
abbrev PQ(f:FuncId)(args:Array Value)(w:World)(l:List Dg):Prop:=Fp Tryz.prog dc 8 f args w l
def Tr.line(t:Tr)(x:Dg):List Dg:=if t.has x then(t.dY (t.ht x) x).reverse else[]
theorem Tr.oH{t:Tr}{x:Dg}(h:t.has x=true):(t.line x).length=t.ht x+1:=by simp[Tr.line,h,Tr.eP]
theorem Tr.zu{t:Tr}{x:Dg}(h:t.has x=false):t.line x=[]:=by simp[Tr.line,h]
theorem Tr.WF.wF{t:Tr}(wf:t.WF):t.line t.first=[t.first]:=by simp[Tr.line,wf.first,wf.h0,Tr.dY]
theorem Tr.WF.Ew{t:Tr}(wf:t.WF){x:Dg}(hx:t.has x=true)(hne:x≠t.first):t.line x=t.line (t.par x)++[x]:=by
 obtain⟨h1,h2⟩:=wf.up x hx hne
 simp only[Tr.line,hx,h1,if_true]
 rw[h2,Tr.dY,List.reverse_cons]
theorem Tr.WF.Fi{t:Tr}(wf:t.WF){x:Dg}(hx:t.has x=true):t.anc (t.ht x) x=t.first:=by
 obtain⟨h1,h2⟩:=wf.anc (t.ht x) hx (Nat.le_refl _)
 exact wf.pT h1 (by omega)
attribute [local irreducible] CG NG SG aK aI Row aF aE
theorem wL{w:World}{bt bm:Nat}{t:Tr}(hT:cj w bt bm t)(wf:t.WF)(x:Dg):PQ 55 #[.pointer (some ⟨bt,0,none⟩),dv x] w (t.line x):=by
 refine bJ Tryz.func55 rfl Tryz.ntmps55 rfl ?_
 repeat apply aj
 refine SG.box rfl rfl rfl (ag rfl) (fun b3 w1 hk1 hb3 hB3=>?_)
 have hT1:=hT.ay hk1
 have hR3:Row w1 b3 0 (dc x):=Row.all hB3 rfl
 repeat (first|apply aj|(apply ar;rfl;(first|apply az|apply aD|apply bj)<;>first|rfl|assumption|exact List.not_mem_nil|apply ah))
 refine SG.ret rfl rfl rfl (by repeat' (first|exact True.intro|exact ag rfl|refine And.intro ?_ ?_)) (gl hT1 x) (fun w2 hk2=>?_)
 have hk02:=hk1.trans hk2
 have hT2:=hT.ay hk02
 have hR3:=hR3.ay hk2
 by_cases hx:t.has x=true
 ·have hh:¬t.height x<0:=by rw[Tr.height,Tr.eU hx];simp only;omega
  repeat (first|apply aj|(apply ar;rfl;apply cG<;>first|rfl|(apply bN;first|assumption|omega)))
  refine bG rfl ?_
  repeat apply aj
  have hr0:=hT2.r0
  have hbx:=wf.bound hx
  refine CG.eQ mixed [0,1,2,3,4,5,6,7] [6] (by kernel_rfl) ?_
  repeat (apply bZ;rfl;rfl;(first|apply az|apply bj|apply aW|apply bM)<;>first|rfl|assumption|exact List.not_mem_nil|apply ah)
  refine aI.kl (X:=Nat×Nat×List Value) (vs:=[.pointer (some ⟨bt,0,none⟩),dv x,dv t.first]) (fun q=> .slice (some ⟨q.1,0,none⟩) (t.ht x+1) q.2.1) (fun q w'=>(t.ht x+1≤q.2.1∧w2.heap.size≤q.1)∧aF w' q.1 (.cells (flat (t.dY (t.ht x) x).reverse++q.2.2).toArray 47)) rfl rfl rfl rfl (bz.of rfl) (fun q w w' hk h=>⟨h.1,h.2.ay hk⟩) (fun _ _ _ h=>h) (fun w hk _=>?_) (fun q=>?_)
  ·refine(oJ (hT2.ay hk) x t.first (t.ht x) (by omega) (wf.Fi hx) (fun j hj e=>?_) (fun j hj=>(wf.anc j hx (by omega)).1)).mono (fun e w' h=>?_)
   ·have h1:=(wf.anc j hx (by omega)).2
    rw[e,wf.h0] at h1
    omega
   ·obtain⟨b,c,post,h1,h2,h3,h4,h5⟩:=h
    exact⟨(b,c,post),h1,⟨⟨h3,by have:=hk.size;omega⟩,h4⟩,h5⟩
  obtain⟨bq,cq,post⟩:=q
  simp only
  repeat (apply bZ;rfl;rfl;apply aD<;>rfl)
  refine aI.fin (fun w3 hk3 hF _=>?_)
  obtain⟨_,h1,h2⟩:=hF
  repeat apply aj
  refine aO (Or.inl rfl) Tryz.results55 (aC.tmp rfl) ?_
  have s02:=hk02.size
  refine⟨some ⟨bq,0,none⟩,cq,by rw[Tr.oH hx],⟨by rw[Tr.oH hx];exact h1.1,fun b off e=>by simp only[Option.some.injEq,Addr.mk.injEq] at e;omega,?_⟩,hk02.trans hk3⟩
  simp only[Tr.line,hx,if_true]
  exact Sl.gH ah (pre:=[]) h2
 ·have hh:t.height x<0:=by rw[Tr.height,Tr.mR hx];simp only;omega
  have hx':t.has x=false:=by simpa using hx
  repeat (first|apply aj|(apply ar;rfl;apply cG<;>first|rfl|(apply bK;first|assumption|omega)))
  refine bL rfl ?_
  repeat (first|apply aj|(apply ar;rfl;apply aD<;>rfl))
  refine aO (Or.inl rfl) Tryz.results55 (aC.tmp rfl) ?_
  rw[Tr.zu hx']
  exact⟨none,0,rfl,tz.nil,hk02⟩
theorem im(t:Tr)(x y:Dg):(t.fm x y).length=t.qO x y:=by simp[Tr.fm,Tr.eP]
end
section
theorem jP{w:World}{bT:Nat}{v x:Value}{ns:List Value}{j:Nat}(hB:aF w bT (.cells (v::ns).toArray 287))(h:ns[j]?=some x):Row w bT (0+1+j*1) [x]:=by
 have hj:=(List.getElem?_eq_some_iff.1 h)
 obtain⟨hj,hx⟩:=hj
 refine Row.of hB (v::ns.take j) (ns.drop (j+1)) ?_ (by simp;omega)
 rw[←hx]
 simp
attribute [local irreducible] CG NG SG aK aI Row aF aE aM num c9 de cQ cJ qw cP bg dB kV dP bE cV aR jV iZ
theorem zB{w:World}{bT lev k b1 c1 b2 c2:Nat}{v:Value}{ns:List Value}{L1 L2:List Dg}(hB:aF w bT (.cells (v::ns).toArray 287))(hn:ns.length=13)(hlev:lev<12)(h1:ns[lev]?=some (.slice (some ⟨b1,0,none⟩) L1.length c1))(h2:ns[lev+1]?=some (.slice (some ⟨b2,0,none⟩) L2.length c2))
  (hS1:Sl dc 8 w (some ⟨b1,0,none⟩) L1) (hB2:aF w b2 (.cells (flat L2).toArray 47)) (hk:2*k+1<L1.length) (hk2:k<L2.length) (hl:L1.length≤100000):
  Calls Tryz.prog 184 #[.pointer (some ⟨bT,0,none⟩),.int .i64 ((lev+1:Nat):Int),.int .i64 (k:Int)] w (fun e w'=>e= .returned (.tuple #[])∧Kp [b2] w w'∧aF w' b2 (.cells (flat (L2.set k (iZ (L1[2*k]'(by omega)) L1[2*k+1]))).toArray 47)):=by
 refine ey Tryz.func184 rfl Tryz.ntmps184 rfl ?_
 have r1:=jP hB h1
 have r2:=jP hB h2
 obtain⟨_,o1,e1,q1⟩:=hS1.at (i:=2*k) (by omega)
 cases e1
 obtain⟨_,o2,e2,q2⟩:=hS1.at (i:=2*k+1) hk
 cases e2
 refine CG.seq ?_
 refine CG.region ?_
 iterate 3 (refine SG.val rfl rfl rfl rfl (by first|((first|apply az|apply xL)<;>(first|exact rfl|exact Ar.mk (by omega)|fail))|fail) ?_)
 rw[show((lev+1:Nat):Int)-1=(lev:Int) by omega]
 clear r2
 repeat (first|apply aj|(apply ar;rfl;(first|apply Ea|apply aD|apply bf|apply aW|apply bM)<;>first|rfl|(apply Ar.mk;omega)|assumption|exact List.not_mem_nil))
 clear r1
 have r2:=jP hB h2
 refine CG.tail mixed 19 [0,1,2,3,4,5,6,7,8,9,10,11,12,13,14,15,16,17,18] (by kernel_rfl) ?_
 iterate 10 (refine aI.val rfl rfl rfl (by first|((first|apply Ea|apply Fy|apply az|apply bf|apply aW|apply bM)<;>(first|exact rfl|exact Ar.mk (by omega)|assumption|exact List.not_mem_nil|fail))|fail) ?_)
 rw[show(2:Int)*(k:Int)=((2*k:Nat):Int) by omega]
 iterate 5 (refine aI.val rfl rfl rfl (by first|((first|apply Fy|apply az|apply bj|apply fv)<;>(first|exact rfl|exact Ar.mk (by omega)|assumption|exact List.not_mem_nil|apply ah|apply ah|fail))|fail) ?_)
 rw[show(2:Int)*(k:Int)=((2*k:Nat):Int) by omega]
 refine aI.val rfl rfl rfl (by first|(apply dG<;>(first|exact rfl|exact Ar.mk (by omega)|fail))|fail) ?_
 rw[show((2*k:Nat):Int)+1=((2*k+1:Nat):Int) by omega]
 repeat (apply bZ;rfl;rfl;(first|apply bj|apply fv)<;>first|rfl|(apply Ar.mk;omega)|assumption|exact List.not_mem_nil|apply ah)
 refine aI.call rfl rfl rfl (vs:=[dv L1[2*k],dv L1[2*k+1]]) (bz.of rfl) (fun W _ _=>AQ _ _ W) ?_
 refine aI.tl (fun w1 hk1 _ _=>?_)
 repeat (apply ar;rfl;apply fv<;>first|rfl|(apply Ar.mk;omega))
 generalize iZ L1[2*k] L1[2*k+1]=d
 refine SG.cr (flat (L2.take k)) (dc L2[k]) (flat (L2.drop (k+1))) rfl rfl (ag rfl) (ag rfl) (hB2.ay hk1) (by rw[List.toList_toArray];exact jn L2 k hk2) (by exact ah d) (ah _) (by rw[dD,List.length_take];show min k L2.length*8=0+k*8;rw[Nat.min_eq_left (by omega)];omega) (by exact bu d) (fun w2 hk2' hB=>?_)
 repeat apply aj
 refine nF (Or.inr rfl) Tryz.results184 ?_
 refine⟨rfl,hk1.any.trans hk2',?_⟩
 have e:flat (L2.set k d)=flat (L2.take k)++(dc d++flat (L2.drop (k+1))):=by
  rw[List.set_eq_take_append_cons_drop,if_pos hk2]
  simp[flat]
 rw[e]
 exact hB
end
section
open Go.Proofs
theorem BZ{α:Type}[Inhabited α]{enc:α→List Value}{k:Nat}(hk0:0<k)(hk:∀x,(enc x).length=k)(x:α){z:Array Value}(hz:z=(enc x).toArray)(c:Nat):madeCells z (c*k)=(bO enc (List.replicate c x)).toArray:=by
 subst hz
 have hl:(bO enc (List.replicate c x)).length=c*k:=by
  rw[bY hk,List.length_replicate]
 apply Array.ext
 ·rw[size_madeCells,List.size_toArray,hl]
 ·intro t h1 h2
  rw[size_madeCells] at h1
  have e:=EM hk0 hk (List.replicate c x) t (by rw[List.length_replicate];exact h1)
  have hq:t/k<c:=Nat.div_lt_of_lt_mul (by rw[Nat.mul_comm];exact h1)
  have e2:(List.replicate c x).toArray[t/k]! =x:=by simp[hq]
  rw[e2] at e
  have e3:(bO enc (List.replicate c x)).toArray[t]=(enc x)[t%k]!:=by
   have:=List.getElem?_eq_some_iff.1 e
   obtain⟨h3,h4⟩:=this
   simpa using h4
  rw[e3]
  simp[madeCells,hk]
section
variable {P:Program} {S:List Nat} {w0:World} {ops:List Oper} {gh:List Nat} {K:Env→(World→Prop)→(World→Prop)→Prop} {j:Nat} {ord:List Nat} {L:Env} {F:World→Prop} {ty:TypeId} {pos:String} {af:Array Edge} {g:Option (Nat×Bool)}
theorem aI.FD{R:World→Prop}{α:Type}[Inhabited α]{enc:α→List Value}{d c:Nat}{t e:TypeId}{i:TypeInfo}[u:Ut P t (.slice e)][f:dp P e i]{z:Value}{x y:Operand}{zc:Int}(z0:α)
  (ho:ops[j]?=some ⟨some d,.makeSlice t x y,ty,pos,af,g⟩) (hw:want ops L ⟨some d,.makeSlice t x y,ty,pos,af,g⟩=some true) (hg:gh.elem j=true) (hk:(known L x&&known L y)=true) (hx:bB L x= .int .i64 zc) (hy:bB L y= .int .i64 zc) (hc:zc=(c:Int)) (hz:i.zero=some z) (hze:z.cells=(enc z0).toArray) (hel:∀x,(enc x).length=i.size) (hsz:Nat.blt 0 i.size=true) (hbytes:i.bytes*c≤281474976710656) (h63:c≤maxLen) (hS:∀z∈S,z<w0.heap.size) (hFs:cm S F) (hRs:cm [] R)
  (h:∀bn,aI P S w0 ops gh K ord ((d,.slice (some ⟨bn,0,none⟩) c c)::L) (fun w=>F w∧(w0.heap.size≤bn∧aF w bn (.cells (bO enc (List.replicate c z0)).toArray e))) R):aI P S w0 ops gh K (j::ord) L F R:=by
 refine aI.ghost (X:=Nat) (fun bn=> .slice (some ⟨bn,0,none⟩) c c) (fun bn w=>w0.heap.size≤bn∧aF w bn (.cells (bO enc (List.replicate c z0)).toArray e)) (fun _=>R) ho hw hg (by simpa[Op.operands] using hk) (fun bn w w' hk h=>⟨h.1,h.2.kp hk (fun hm=>by have:=hS _ hm;omega)⟩) (fun _=>hRs) hFs (fun w hk1 hF hR=>?_) h
 subst hc
 unfold bh
 have h63':(c:Int)≤9223372036854775807:=by have h:=h63;simp[maxLen] at h;omega
 have hb':(i.bytes:Int)*(c:Int)≤281474976710656:=by
  have h:((i.bytes*c:Nat):Int)≤281474976710656:=by omega
  rwa [Int.natCast_mul] at h
 have hr:=run_make (P:=P) w t e i z u.eq f.eq hz .i64 .i64 c c (by omega) (Int.le_refl _) hb' h63'
 simp only[Int.toNat_natCast] at hr
 have e0:=BZ (enc:=enc) (by simpa using hsz) hel z0 hze c
 rw[e0] at hr
 have:(execOp (bB L) ⟨some d,.makeSlice t x y,ty,pos,af,g⟩).run P w= .ok (.value (.slice (some ⟨w.heap.size,0,none⟩) c c)) (w.alloc (.cells (bO enc (List.replicate c z0)).toArray e)):=by
  simp only[execOp,hx,hy,Sem.run_bind,hr,Result.andThen,Sem.run_pure]
 rw[this]
 exact⟨w.heap.size,rfl,⟨hk1.size,aF.push w _⟩,hRs _ _ (Kp.push w _ rfl) hR,(Kp.push w _ rfl).any⟩
end
end
section
instance:Inhabited Dg:=⟨zd⟩
def gI:Dg:=dB zd [110,111,110,101]
def DL:List Dg→List Dg
 |a::b::r=>iZ a b::DL r
 |_=>[]
def B0(l:List Dg)(h:Nat):List Dg:=l.map oT++List.replicate (2^h-l.length) gI
def lvl(l:List Dg)(h:Nat):Nat→List Dg
 |0=>B0 l h
 |k+1=>DL (lvl l h k)
def jB(l:List Dg):Dg:=jQ ((lvl l (mb (l.length-1)) (mb (l.length-1))).headD zd) (mb (l.length-1))
theorem py:∀(m:Nat) {l:List Dg},l.length=2*m→(DL l).length=m
 |0,l,h=>by
  have:l=[]:=List.eq_nil_of_length_eq_zero (by omega)
  subst this
  rfl
 |m+1,a::b::r,h=>by
  simp only[List.length_cons] at h
  simp only[DL,List.length_cons,py m (l:=r) (by omega)]
 |m+1,[a],h=>by simp at h;omega
 |m+1,[],h=>by simp at h
theorem xz:∀(k:Nat) {l:List Dg} (h1:2*k+1<l.length) (h2:k<(DL l).length),(DL l)[k]=iZ (l[2*k]'(by omega)) l[2*k+1]
 |0,a::b::r,h1,h2=>rfl
 |k+1,a::b::r,h1,h2=>by
  simp only[DL,List.length_cons] at h1 h2
  have:=xz k (l:=r) (by omega) (by omega)
  simp only[DL,List.getElem_cons_succ]
  rw[this]
  rfl
 |k,[a],h1,h2=>by simp at h1
 |k,[],h1,h2=>by simp at h1
theorem Cg{n:Nat}(h1:1≤n)(h2:n≤64):n≤2^mb (n-1)∧2^mb (n-1)≤64∧mb (n-1)≤6:=by
 have key:∀y:_root_.Fin 64,y.val+1≤2^mb y.val∧2^mb y.val≤64∧mb y.val≤6:=by decide+kernel
 have:=key ⟨n-1,by omega⟩
 simp only at this
 omega
theorem gK{l:List Dg}{h:Nat}(hl:l.length≤2^h):∀k,k≤h→(lvl l h k).length=2^(h-k)
 |0,_=>by
  simp only[lvl,B0,List.length_append,List.length_map,List.length_replicate,Nat.sub_zero]
  omega
 |k+1,hk=>by
  have h1:=gK hl k (by omega)
  have h2:2^(h-k)=2*2^(h-(k+1)):=by
   rw[show h-k=(h-(k+1))+1 by omega,Nat.pow_succ]
   omega
  simp only[lvl]
  exact py _ (by omega)
def gR(l:List Dg)(i:Nat):List Dg:=l.take i++List.replicate (l.length-i) zd
theorem jo(l:List Dg)(i:Nat)(hi:i≤l.length):(gR l i).length=l.length:=by
 simp only[gR,List.length_append,List.length_take,List.length_replicate]
 omega
theorem pV(l:List Dg):gR l 0=List.replicate l.length zd:=by simp[gR]
theorem rC(l:List Dg):gR l l.length=l:=by simp[gR]
theorem nP{l:List Dg}{i:Nat}(hi:i<l.length):(gR l i).set i l[i]=gR l (i+1):=by
 apply List.ext_getElem?
 intro j
 rw[List.getElem?_set]
 have hl:(l.take i).length=i:=by rw[List.length_take];omega
 have hl':(l.take (i+1)).length=i+1:=by rw[List.length_take];omega
 by_cases hj:i=j
 ·subst hj
  rw[if_pos rfl,if_pos (by rw[jo _ _ (by omega)];exact hi)]
  unfold gR
  rw[List.getElem?_append_left (by omega),List.getElem?_take,if_pos (by omega),List.getElem?_eq_getElem hi]
 ·rw[if_neg hj]
  unfold gR
  by_cases h1:j<i
  ·rw[List.getElem?_append_left (by omega),List.getElem?_append_left (by omega),List.getElem?_take,List.getElem?_take,if_pos h1,if_pos (by omega)]
  ·rw[List.getElem?_append_right (by omega),List.getElem?_append_right (by omega),List.getElem?_replicate,List.getElem?_replicate,hl,hl']
   by_cases h2:j<l.length
   ·rw[if_pos (by omega),if_pos (by omega)]
   ·rw[if_neg (by omega),if_neg (by omega)]
theorem N8{P:Program}{S:List Nat}{w0:World}{F:World→Prop}{L:Env}{d:Option Nat}{ty:TypeId}{pos:String}{af:Array Edge}{g:Option (Nat×Bool)}{T T':TypeId}[u:Ut P T (.int .i64)]{y:Operand}{h:Nat}(hy:ro L y=some (.int .i64 (h:Int)))(hh:Ar (h≤12)):aK P S w0 F L ⟨d,.binOp .shl T (.const (.int .i64 1)) y T',ty,pos,af,g⟩ (.int .i64 ((2^h:Nat):Int)):=fun w _ _=>by
 have hc:bB L (.const (.int .i64 1))= .int .i64 1:=rfl
 have h0:¬((h:Int)<0):=by omega
 have h12:=hh.h
 have hp:2^h≤2^12:=Nat.pow_le_pow_right (by omega) h12
 have e1:min (Int.toNat (h:Int)) 64=h:=by rw[Int.toNat_natCast];omega
 have e2:(1:Int)*2^h=((2^h:Nat):Int):=by rw[Int.one_mul,Int.natCast_pow];rfl
 have e:IntKind.wrap .i64 ((2^h:Nat):Int)=((2^h:Nat):Int):=by
  generalize 2^h=N at hp
  exact FY (by omega)
 simp only[execOp,ag hy,hc,eqGuard,binOp,Op.shift,if_neg h0,Sem.run_bind,Sem.run_pure,Result.andThen,IntKind.bits,e1,e2,e];rfl
attribute [local irreducible] CG NG SG aK aI Row aF aE aM num c9 de cQ cJ qw cP bg dB kV dP bE cV aR jV iZ
theorem sP{w:World}{a:Option Addr}{l:List Dg}(c:Nat)(hS:Sl dc 8 w a l)(hl:l.length≤1000000):kt Tryz.prog 47 dc 8 182 #[.slice a l.length c] w l:=by
 refine bA Tryz.func182 rfl Tryz.ntmps182 rfl ?_
 cases a with
 |none=>
  have hnil:=hS.xT
  subst hnil
  repeat (first|apply aj|(apply ar;rfl;(first|apply az|apply aD|apply Jb)<;>rfl))
  refine bL rfl ?_
  repeat (first|apply aj|(apply ar;rfl;apply aD<;>rfl))
  refine aO (Or.inl rfl) Tryz.results182 (aC.tmp rfl) ?_
  exact⟨_,rfl,dR,Kp.refl _ _⟩
 |some ad=>
  repeat (first|apply aj|(apply ar;rfl;(first|apply az|apply aD|apply Jb)<;>rfl))
  refine bG rfl ?_
  repeat apply aj
  refine SG.empty rfl rfl (fun b0 w1 hk1 hb0 hB0=>?_)
  repeat (apply ar;rfl;apply az<;>rfl)
  refine SG.CE (enc:=dc) (l:=l) (m:=w.heap.size) rfl rfl rfl ah bu (ag rfl) (ag rfl) rfl rfl rfl (by simp only[maxLen];omega) (by show l.length*8≤_;omega) hb0 (hS.ay hk1) hB0 (fun v w2 hk2 hown=>?_)
  repeat (first|apply aj|(apply ar;rfl;apply aD<;>rfl))
  refine aO (Or.inl rfl) Tryz.results182 (aC.tmp rfl) ?_
  exact⟨v,rfl,hown,hk1.trans hk2⟩
end
section
abbrev zo:Value:= .slice none 0 0
theorem Pp(a:Option Addr)(n c:Nat)(w:World):(Instr.build 287 #[(0,.slice a n c)]).run Tryz.prog w= .ok (.agg (.slice a n c::List.replicate 13 zo).toArray) w:=by kernel_rfl
section
variable {n:Nat} {ops:List Oper} {Q:Exit→Act→World→Prop} {w:World} {L:Env} {ty:TypeId} {pos:String} {af:Array Edge} {g:Option (Nat×Bool)} {rest:List Oper}
theorem SG.HQ{a x:Operand}{b:Nat}{d:Dg}{Ls:List Dg}(k:Nat)(hk:k<Ls.length)(hw:want ops L ⟨none,.store 47 a x,ty,pos,af,g⟩=some true)(hkn:(known L a&&known L x)=true)(ha:bB L a= .pointer (some ⟨b,0+k*8,none⟩))(hx:bB L x=dv d)(hB:aF w b (.cells (flat Ls).toArray 47))
  (h:∀w',Kp [b] w w'→aF w' b (.cells (flat (Ls.set k d)).toArray 47)→SG Tryz.prog n ops Q rest L w'):SG Tryz.prog n ops Q (⟨none,.store 47 a x,ty,pos,af,g⟩::rest) L w:=by
 refine SG.cr (flat (Ls.take k)) (dc Ls[k]) (flat (Ls.drop (k+1))) hw hkn ha hx hB (by rw[List.toList_toArray];exact jn Ls k hk) (by exact ah d) (ah _) (by rw[dD,List.length_take];show min k Ls.length*8=0+k*8;rw[Nat.min_eq_left (by omega)];omega) (by exact bu d) (fun w' hk' hB'=>h w' hk' ?_)
 have e:flat (Ls.set k d)=flat (Ls.take k)++(dc d++flat (Ls.drop (k+1))):=by
  rw[List.set_eq_take_append_cons_drop,if_pos hk]
  simp[flat]
 rw[e]
 exact hB'
end
theorem pS(l:List Dg):bO dc l=flat l:=rfl
attribute [local irreducible] CG NG SG aK aI Row aF aE aM num c9 de cQ cJ qw cP bg dB kV dP bE cV aR jV iZ mb oT jQ gI
theorem yK{w:World}{a:Option Addr}{l:List Dg}(c:Nat)(hS:Sl dc 8 w a l)(hl1:1≤l.length)(hl2:l.length≤64):
  Calls Tryz.prog 164 #[.slice a l.length c] w (fun e w'=>∃bT v ns b,e= .returned (.tuple #[.pointer (some ⟨bT,0,none⟩),.int .i64 0])∧aF w' bT (.cells (v::ns).toArray 287)∧ns.length=13∧(∃a' c',v= .slice a' l.length c')∧ns[mb (l.length-1)]?=some (.slice (some ⟨b,0,none⟩) 1 1)∧aF w' b (.cells (flat (lvl l (mb (l.length-1)) (mb (l.length-1)))).toArray 47)∧Kp [] w w'):=by
 refine bA Tryz.func164 rfl Tryz.ntmps164 rfl ?_
 obtain⟨p1,p2,p3⟩:=Cg hl1 hl2
 generalize hH:mb (l.length-1)=H at p1 p2 p3⊢
 have g0:¬(H:Int)<0:=by omega
 repeat (first|apply aj|(apply ar;rfl;(first|apply az|apply aD|apply dy)<;>rfl))
 refine SG.ret rfl rfl rfl (vs:=[.int .i64 (l.length:Int)]) (bz.of rfl) (uC l.length hl1 hl2 w) (fun w1 hk1=>?_)
 rw[hH]
 repeat (first|apply aj|(apply ar;rfl;(first|apply az|apply aD|apply cG)<;>first|rfl|(apply bN;first|assumption|omega)))
 refine bG rfl ?_
 repeat (first|apply aj|(apply ar;rfl;apply az<;>rfl))
 refine SG.call rfl rfl rfl (vs:=[.slice a l.length c]) (bz.of rfl) ((sP c (hS.ay hk1) (by omega)).mono (fun e w2 hh=>?_))
 obtain⟨v2,he,ho2,hk2⟩:=hh
 refine⟨_,he,?_⟩
 clear he
 obtain⟨a2,c2,rfl,-,-⟩:=Sl.own ah ho2 rfl
 refine SG.val rfl rfl rfl rfl (aG rfl (Pp a2 l.length c2)) ?_
 refine SG.box rfl rfl rfl (ag rfl) (fun bT w3 hk3 hbT hT=>?_)
 have hT:aF w3 bT (.cells (.slice a2 l.length c2::List.replicate 13 zo).toArray 287):=hT
 have k3:=(hk1.trans hk2).trans hk3
 have lT:=hT.lt
 have s12:=(hk1.trans hk2).size
 generalize hv:Value.slice a2 l.length c2=v at hT
 have g12:H≤12:=by omega
 repeat (first|apply aj|(apply ar;rfl;apply aD<;>rfl))
 refine CG.dM mixed 6 [0,1,2,4,5,3] [3] [] (fun _=>True) (by kernel_rfl) trivial (fun _ _ _ _=>trivial) ?_
 repeat (apply bZ;rfl;rfl;(first|apply N8|apply az|apply aW|apply bM)<;>first|rfl|(apply Ar.mk;omega))
 refine aI.FD (enc:=dc) (e:=47) (i:=Tryz.t47) (f:=ty.i47) (c:=2^H) zd rfl rfl rfl rfl (ag rfl) (ag rfl) rfl rfl rfl ah rfl (by show 8*2^H≤_;omega) (by simp only[maxLen];omega) (by simp) (fun _ _ _ _=>trivial) (fun _ _ _ _=>trivial) (fun b0=>?_)
 refine aI.tl (fun w4 hk4 hF _=>?_)
 obtain⟨-,hb0,hB0⟩:=hF
 rw[pS] at hB0
 repeat (apply ar;rfl;apply qF<;>first|rfl|(apply Ar.mk;omega))
 have lT4:=hk4.size
 refine SG.cr [v] [zo] (List.replicate 12 zo) rfl rfl (ag rfl) (ag rfl) (hT.ay hk4) rfl rfl rfl rfl rfl (fun w5 hk5 hT5=>?_)
 have k5:=(k3.trans hk4).ai hk5 (aV (by omega))
 generalize hN:2^H=N at p1 p2 hB0 hT5
 have hT5:aF w5 bT (.cells (v::(.slice (some ⟨b0,0,none⟩) N N::List.replicate 12 zo)).toArray 287):=hT5
 have hB5:aF w5 b0 (.cells (flat (List.replicate N zd)).toArray 47):=hB0.kp hk5 (bP (by omega))
 have lB0:=hB0.lt
 clear hT hB0
 repeat apply aj
 refine SG.val rfl rfl rfl rfl (aG rfl IA) ?_
 refine SG.ret rfl rfl rfl (vs:=[dv zd,sv [110,111,110,101]]) (bz.of rfl) (gu zd [110,111,110,101] (by decide) w5) (fun w6 hk6=>?_)
 refine SG.alloc rfl rfl rfl (fun b6 w7 hk7 hb6 hB6=>?_)
 have hnd:dB zd [110,111,110,101]=gI:=by unfold gI;rfl
 rw[hnd]
 refine SG.aN (old:=dc zd) (l:=dc gI) rfl rfl (ag rfl) (ag rfl) hB6 (ah _) (ah _) (bu _) (fun w8 hk8 hB8=>?_)
 have k58:Kp [] w5 w8:=(hk6.trans hk7).ai hk8 (aV (by have:=hk6.size;omega))
 have hr6:Row w8 b6 0 (dc gI):=Row.all hB8 rfl
 have l6:=hr6.lt
 have s6:=hk6.size
 have s5:=hk5.size
 have hT8:=hT5.ay k58
 have hB8':=hB5.ay k58
 have rT:Row w8 bT (0+1+0*1) [.slice (some ⟨b0,0,none⟩) N N]:=jP hT8 rfl
 clear hB8 hB6
 repeat (first|apply aj|(apply ar;rfl;(first|apply qF|apply az|apply bf|apply aW|apply bM|apply dy)<;>first|rfl|(apply Ar.mk;omega)|assumption|exact List.not_mem_nil))
 clear rT
 obtain⟨M,hM⟩:∃M,B0 l H=M:=⟨_,rfl⟩
 have hMl:M.length=N:=by
  rw[←hM,←hN]
  exact gK (by omega) 0 (Nat.zero_le _)
 refine CG.loop (X:=Nat) (fun i=>[(0,.slice a l.length c),(4,.int .i64 (H:Int)),(5,.pointer (some ⟨bT,0,none⟩)),(6,.pointer (some ⟨b6,0,none⟩)),(33,.int .i64 (N:Int)),(34,.int .i64 (i:Int))])
  (fun i w'=>i≤N∧Kp [b0] w8 w'∧aF w' b0 (.cells (flat (gR M i)).toArray 47))
  (fun i=>N-i) 0 ⟨Nat.zero_le _,Kp.refl _ _,by rw[pV,hMl];exact hB8'⟩ (aS.of rfl) ?_
 rintro i w9 ⟨hi,k9,hB9⟩
 have hS9:=(hS.ay (k5.trans k58)).kp k9 (fun b off e=>bP (by have:=hS.Oq (by intro e;rw[e] at hl1;simp at hl1) b off e;omega))
 have hT9:=hT8.kp k9 (bP (by omega))
 have hr9:=hr6.kp k9 (bP (by omega))
 have l9:=hB9.lt
 have l9T:=hT9.lt
 have s9:=k9.size
 by_cases hlt:i<N
 ·have g1:(i:Int)<(N:Int):=by omega
  have hiM:i<(gR M i).length:=by rw[jo _ _ (by omega)];omega
  have rT:Row w9 bT (0+1+0*1) [.slice (some ⟨b0,0,none⟩) N N]:=jP hT9 rfl
  repeat (first|apply aj|(apply ar;rfl;apply cG<;>first|rfl|(apply bK;first|assumption|omega)))
  refine bL rfl ?_
  by_cases hil:i<l.length
  ·have g2:(i:Int)<(l.length:Int):=by omega
   obtain⟨ba,off,rfl,hrow⟩:=hS9.at hil
   have hMi:M[i]'(by omega)=oT l[i]:=by
    subst hM
    simp only[B0]
    rw[List.getElem_append_left (by rw[List.length_map];exact hil),List.getElem_map]
   repeat (first|apply aj|(apply ar;rfl;(first|apply az|apply aD|apply cG|apply dy)<;>first|rfl|(apply bK;first|assumption|omega)))
   refine bL rfl ?_
   skip
   refine CG.tail mixed 11 [0,1,2,3,4,5,6,7,8,9,10] (by kernel_rfl) ?_
   repeat (apply bZ;rfl;rfl;(first|apply qF|apply az|apply bf|apply bj|apply aW|apply bM|apply fv)<;>first|rfl|(apply Ar.mk;omega)|assumption|exact List.not_mem_nil|apply ah)
   refine aI.call rfl rfl rfl (vs:=[dv l[i]]) (bz.of rfl) (fun W _ _=>B1 _ W) ?_
   refine aI.tl (fun wa hka _ _=>?_)
   repeat (apply ar;rfl;apply fv<;>first|rfl|(apply Ar.mk;omega))
   refine SG.HQ i hiM rfl rfl (ag rfl) (ag rfl) (hB9.ay hka) (fun wb hkb hBb=>?_)
   rw[←hMi,nP (by omega)] at hBb
   repeat (first|apply aj|(apply ar;rfl;(first|apply az|apply dG)<;>first|rfl|(apply Ar.mk;omega)))
   exact NG.round (i+1) (aS.of rfl) ⟨by omega,(k9.trans hka.any).trans hkb,hBb⟩ (by omega)
  ·have g2:¬(i:Int)<(l.length:Int):=by omega
   have hMi:M[i]'(by omega)=gI:=by
    subst hM
    simp only[B0]
    rw[List.getElem_append_right (by rw[List.length_map];omega),List.getElem_replicate]
   repeat (first|apply aj|(apply ar;rfl;(first|apply az|apply aD|apply cG|apply dy)<;>first|rfl|(apply bN;first|assumption|omega)))
   refine bG rfl ?_
   skip
   refine CG.tail mixed 7 [0,1,2,3,4,5,6] (by kernel_rfl) ?_
   repeat (apply bZ;rfl;rfl;(first|apply qF|apply az|apply bf|apply bj|apply aW|apply bM)<;>first|rfl|(apply Ar.mk;omega)|assumption|exact List.not_mem_nil|apply ah)
   refine aI.tl (fun wa hka _ _=>?_)
   repeat (apply ar;rfl;apply fv<;>first|rfl|(apply Ar.mk;omega))
   refine SG.HQ i hiM rfl rfl (ag rfl) (ag rfl) (hB9.ay hka) (fun wb hkb hBb=>?_)
   rw[←hMi,nP (by omega)] at hBb
   repeat (first|apply aj|(apply ar;rfl;(first|apply az|apply dG)<;>first|rfl|(apply Ar.mk;omega)))
   exact NG.round (i+1) (aS.of rfl) ⟨by omega,(k9.trans hka.any).trans hkb,hBb⟩ (by omega)
 ·have g1:¬(i:Int)<(N:Int):=by omega
  have e8:i=M.length:=by omega
  rw[e8,rC] at hB9
  repeat (first|apply aj|(apply ar;rfl;apply cG<;>first|rfl|(apply bN;first|assumption|omega)))
  refine bG rfl ?_
  have hBb:=hB9
  rw[←hM] at hBb
  have kA:Kp [] w w9:=(k5.trans k58).ai k9 (aV (by omega))
  repeat (first|apply aj|(apply ar;rfl;apply az<;>rfl))
  refine CG.loop (X:=Nat×List Value×Nat) (fun q=>[(5,.pointer (some ⟨bT,0,none⟩)),(62,.int .i64 (H:Int)),(63,.int .i64 (q.1:Int))])
   (fun q w'=>q.1≤H∧Kp [] w w'∧q.2.1.length=13∧q.2.1[q.1]?=some (.slice (some ⟨q.2.2,0,none⟩) (2^(H-q.1)) (2^(H-q.1)))∧aF w' bT (.cells (v::q.2.1).toArray 287)∧aF w' q.2.2 (.cells (flat (lvl l H q.1)).toArray 47)∧q.2.2≠bT)
   (fun q=>H-q.1) (0,.slice (some ⟨b0,0,none⟩) N N::List.replicate 12 zo,b0) ⟨Nat.zero_le _,kA,rfl,by rw[←hN];rfl,hT9,hBb,show b0≠bT by omega⟩ (aS.of rfl) ?_
  clear hBb hT9 hT8 hB8' hr9 hr6 hB9
  rintro⟨lev,ns,b1⟩ wc ⟨hlev,kc,hns,hgetl,hTc,hBc,hb1⟩
  simp only at hlev hns hgetl hTc hBc hb1
  refine CG.to [(5,.pointer (some ⟨bT,0,none⟩)),(62,.int .i64 (H:Int)),(63,.int .i64 (lev:Int))] (aS.of rfl) ?_
  have lTc:=hTc.lt
  have lBc:=hBc.lt
  by_cases hlt:lev<H
  ·have g1:(lev:Int)<(H:Int):=by omega
   have hz1:(lev:Int)+1=((lev+1:Nat):Int):=by omega
   obtain⟨m2,hm2⟩:∃m2,2^(H-(lev+1))=m2:=⟨_,rfl⟩
   have hm:2^(H-lev)=2*m2:=by
    rw[←hm2,show H-lev=(H-(lev+1))+1 by omega,Nat.pow_succ]
    omega
   have hle:2^(H-lev)≤2^6:=Nat.pow_le_pow_right (by omega) (by omega)
   have hL1:(lvl l H lev).length=2^(H-lev):=gK (by omega) lev (by omega)
   have hU:(lvl l H (lev+1)).length=m2:=by rw[←hm2];exact gK (by omega) (lev+1) (by omega)
   generalize 2^(H-lev)=m at hm hle hL1 hgetl
   have hup:lvl l H (lev+1)=DL (lvl l H lev):=rfl
   generalize hUe:lvl l H (lev+1)=U at hU hup
   generalize lvl l H lev=L1 at hL1 hup hBc
   have rT:=jP hTc hgetl
   repeat (first|apply aj|(apply ar;rfl;apply cG<;>first|rfl|(apply bK;first|assumption|omega)))
   refine bL rfl ?_
   repeat (first|apply aj|(apply ar;rfl;(first|apply az|apply aD)<;>rfl))
   refine CG.dM mixed 14 [0,1,2,3,4,5,6,7,8,9,10,12,13,11] [11] [] (fun _=>True) (by kernel_rfl) trivial (fun _ _ _ _=>trivial) ?_
   iterate 10 (refine aI.val rfl rfl rfl (by first|((first|apply Ea|apply az|apply bf|apply aW|apply bM|apply dG|apply dy)<;>(first|exact rfl|exact Ar.mk (by omega)|assumption|exact List.not_mem_nil|fail))|fail) ?_)
   refine aI.val rfl rfl rfl (N9 rfl rfl (Ar.mk (by omega))) ?_
   rw[show(m:Int)/2=(m2:Int) by omega]
   repeat (apply bZ;rfl;rfl;(first|apply aW|apply bM)<;>rfl)
   refine aI.FD (enc:=dc) (e:=47) (i:=Tryz.t47) (f:=ty.i47) (c:=m2) zd rfl rfl rfl rfl (ag rfl) (ag rfl) rfl rfl rfl ah rfl (by show 8*m2≤_;omega) (by simp only[maxLen];omega) (by simp) (fun _ _ _ _=>trivial) (fun _ _ _ _=>trivial) (fun b2=>?_)
   refine aI.tl (fun wd hkd hF _=>?_)
   obtain⟨-,hb2,hB2⟩:=hF
   rw[pS] at hB2
   have hB1d:=hBc.ay hkd
   have lB2:=hB2.lt
   have sd:=hkd.size
   have hl2:lev+1<ns.length:=by omega
   obtain⟨old,hold⟩:∃old,ns[lev+1]?=some old:=⟨_,List.getElem?_eq_getElem hl2⟩
   rw[hz1]
   repeat (apply ar;rfl;apply Ea<;>first|rfl|(apply Ar.mk;omega))
   refine SG.cr (v::ns.take (lev+1)) [old] (ns.drop (lev+2)) rfl rfl (ag rfl) (ag rfl) (hTc.ay hkd) (by
    obtain⟨h3,h4⟩:=List.getElem?_eq_some_iff.1 hold
    subst h4
    simp) rfl rfl (by rw[List.length_cons,List.length_take];show min (lev+1) ns.length+1=0+1+(lev+1)*1;omega) rfl (fun we hke hTe=>?_)
   obtain⟨ns',hns'⟩:∃ns',ns'=ns.set (lev+1) (.slice (some ⟨b2,0,none⟩) m2 m2):=⟨_,rfl⟩
   have hTe:aF we bT (.cells (v::ns').toArray 287):=by
    rw[hns',List.set_eq_take_append_cons_drop,if_pos hl2]
    exact hTe
   have hn':ns'.length=13:=by rw[hns',List.length_set];exact hns
   have hg0':ns'[lev]?=some (.slice (some ⟨b1,0,none⟩) m m):=by rw[hns',List.getElem?_set,if_neg (by omega)];exact hgetl
   have hg1':ns'[lev+1]?=some (.slice (some ⟨b2,0,none⟩) m2 m2):=by rw[hns',List.getElem?_set,if_pos rfl,if_pos hl2]
   have hB1e:=hB1d.kp hke (bP hb1)
   have hB2e:=hB2.kp hke (bP (by omega))
   have se:=hke.size
   have ke:Kp [] w we:=(kc.trans hkd).ai hke (aV (by omega))
   have rT2:=jP hTe hg1'
   clear rT hTc hBc hB1d hB2 hold hns'
   repeat (first|apply aj|(apply ar;rfl;(first|apply az|apply aW|apply bM|apply dG)<;>first|rfl|(apply Ar.mk;omega)))
   rw[hz1]
   repeat (first|apply aj|(apply ar;rfl;(first|apply Ea|apply az|apply bf|apply dy)<;>first|rfl|(apply Ar.mk;omega)|assumption|exact List.not_mem_nil))
   clear rT2
   refine CG.loop (X:=Nat) (fun k=>[(5,.pointer (some ⟨bT,0,none⟩)),(8,.int .i64 (lev:Int)),(62,.int .i64 (H:Int)),(63,.int .i64 (lev:Int)),(88,.int .i64 (m2:Int)),(89,.int .i64 (k:Int))])
    (fun k w'=>k≤m2∧Kp [b2] we w'∧aF w' b2 (.cells (flat (gR U k)).toArray 47))
    (fun k=>m2-k) 0 ⟨Nat.zero_le _,Kp.refl _ _,by rw[pV,hU];exact hB2e⟩ (aS.of rfl) ?_
   rintro k wf ⟨hk,kf,hBf⟩
   have hTf:=hTe.kp kf (bP (by omega))
   have hB1f:=hB1e.kp kf (bP (by omega))
   by_cases hkm:k<m2
   ·have g2:(k:Int)<(m2:Int):=by omega
    have hfl:(gR U k).length=m2:=by rw[jo _ _ (by omega)];exact hU
    have hS1:Sl dc 8 wf (some ⟨b1,0,none⟩) L1:=Sl.gH (pre:=[]) (post:=[]) (T:=47) ah (by simpa[pS] using hB1f)
    repeat (first|apply aj|(apply ar;rfl;apply cG<;>first|rfl|(apply bK;first|assumption|omega)))
    refine bL rfl ?_
    repeat (first|apply aj|(apply ar;rfl;(first|apply az|apply aD|apply dG)<;>first|rfl|(apply Ar.mk;omega)))
    rw[hz1]
    refine SG.call rfl rfl rfl (vs:=[.pointer (some ⟨bT,0,none⟩),.int .i64 ((lev+1:Nat):Int),.int .i64 (k:Int)]) (bz.of rfl) ((zB (L1:=L1) (L2:=gR U k) (c1:=m) (c2:=m2) hTf hn' (by omega) (by rw[hL1];exact hg0') (by rw[hfl];exact hg1') hS1 hBf (by omega) (by omega) (by omega)).mono (fun e wg hh=>?_))
    obtain⟨he,hkg,hBg⟩:=hh
    refine⟨_,he,?_⟩
    have hUk:U[k]'(by omega)=iZ (L1[2*k]'(by omega)) (L1[2*k+1]'(by omega)):=by
     subst hup
     exact xz k (by omega) (by omega)
    rw[←hUk,nP (by omega)] at hBg
    repeat (first|apply aj|(apply ar;rfl;(first|apply az|apply dG)<;>first|rfl|(apply Ar.mk;omega)))
    exact NG.round (k+1) (aS.of rfl) ⟨by omega,kf.trans hkg,hBg⟩ (by omega)
   ·have g2:¬(k:Int)<(m2:Int):=by omega
    have e8:k=U.length:=by omega
    rw[e8,rC] at hBf
    repeat (first|apply aj|(apply ar;rfl;apply cG<;>first|rfl|(apply bN;first|assumption|omega)))
    refine bG rfl ?_
    repeat (first|apply aj|(apply ar;rfl;(first|apply az|apply dG)<;>first|rfl|(apply Ar.mk;omega)))
    refine NG.round (lev+1,ns',b2) (aS.of rfl) ⟨by show lev+1≤H;omega,ke.ai kf (aV (by have:=ke.size;omega)),hn',?_,hTf,?_,show b2≠bT by omega⟩ (by simp only;omega)
    ·simp only
     rw[hm2]
     exact hg1'
    ·simp only
     rw[hUe]
     exact hBf
  ·have g1:¬(lev:Int)<(H:Int):=by omega
   have e8:lev=H:=by omega
   subst e8
   repeat (first|apply aj|(apply ar;rfl;apply cG<;>first|rfl|(apply bN;first|assumption|omega)))
   refine bG rfl ?_
   repeat (first|apply aj|(apply ar;rfl;(first|apply az|apply aD)<;>rfl))
   refine dJ (Or.inl rfl) Tryz.results164 (aC.tmp rfl) (aC.tmp rfl) ?_
   exact⟨bT,v,ns,b1,rfl,hTc,hns,⟨a2,c2,hv.symm⟩,by rw[Nat.sub_self] at hgetl;exact hgetl,hBc,kc⟩
end
section
attribute [local irreducible] CG NG SG aK aI Row aF aE aM num c9 de cQ cJ qw cP bg dB kV dP bE cV aR jV iZ mb oT jQ gI
theorem wx{w:World}{a:Option Addr}{l:List Dg}(c:Nat)(hS:Sl dc 8 w a l)(hl1:1≤l.length)(hl2:l.length≤64):dz Tryz.prog 132 #[.slice a l.length c] w (.tuple #[dv (jB l),.int .i64 0]):=by
 refine bA Tryz.func132 rfl Tryz.ntmps132 rfl ?_
 obtain⟨p1,p2,p3⟩:=Cg hl1 hl2
 obtain⟨H,hH⟩:∃H,mb (l.length-1)=H:=⟨_,rfl⟩
 rw[hH] at p1 p2 p3
 repeat apply aj
 refine SG.alloc rfl rfl rfl (fun b2 w1 hk1 hb2 hB2=>?_)
 repeat (first|apply aj|(apply ar;rfl;(first|apply az|apply aD)<;>rfl))
 refine SG.call rfl rfl rfl (vs:=[.slice a l.length c]) (bz.of rfl) ((yK c (hS.ay hk1) hl1 hl2).mono (fun e w2 hh=>?_))
 obtain⟨bT,v,ns,b,he,hT,hns,⟨a',c',hv⟩,hg,hB,hk2⟩:=hh
 refine⟨_,he,?_⟩
 rw[hH] at hg hB
 have hLl:(lvl l H H).length=1:=by
  have:=gK (l:=l) (h:=H) p1 H (Nat.le_refl _)
  rw[Nat.sub_self] at this
  exact this
 obtain⟨x,hx⟩:∃x,lvl l H H=[x]:=List.length_eq_one_iff.1 hLl
 rw[hx] at hB
 have e1:flat [x]=dc x:=iy x
 rw[e1] at hB
 have er:jB l=jQ x H:=by
  unfold jB
  rw[hH,hx]
  rfl
 rw[er]
 have k2:=hk1.trans hk2
 have hB2:=hB2.ay hk2
 clear he
 have hr:∀W,Kp [] w2 W→dz Tryz.prog 165 #[.pointer (some ⟨bT,0,none⟩)] W (dv (jQ x H)):=fun W hkW=>by
  refine bA Tryz.func165 rfl Tryz.ntmps165 rfl ?_
  repeat apply aj
  refine SG.alloc rfl rfl rfl (fun b4 w4 hk4 hb4 hB4=>?_)
  have k4:=hkW.trans hk4
  repeat (first|apply aj|(apply ar;rfl;(first|apply iC|apply az)<;>rfl))
  refine bG rfl ?_
  repeat (first|apply aj|(apply ar;rfl;apply az<;>rfl))
  have hh:∀W',Kp [] w2 W'→dz Tryz.prog 185 #[.pointer (some ⟨bT,0,none⟩)] W' (.int .i64 (H:Int)):=fun W' hkW'=>by
   refine bA Tryz.func185 rfl Tryz.ntmps185 rfl ?_
   have r0:Row W' bT 0 [v]:=Row.of (hT.ay hkW') [] ns rfl rfl
   rw[hv] at r0
   repeat (first|apply aj|(apply ar;rfl;(first|apply az|apply aD|apply bf|apply aW|apply bM|apply dy)<;>first|rfl|assumption|exact List.not_mem_nil))
   refine SG.ret rfl rfl rfl (vs:=[.int .i64 (l.length:Int)]) (bz.of rfl) (uC l.length hl1 hl2 W') (fun w5 hk5=>?_)
   rw[hH]
   repeat (first|apply aj|(apply ar;rfl;apply aD<;>rfl))
   refine aO (Or.inl rfl) Tryz.results185 (aC.tmp rfl) ?_
   exact⟨rfl,hk5⟩
  refine SG.ret rfl rfl rfl (vs:=[.pointer (some ⟨bT,0,none⟩)]) (bz.of rfl) (hh _ k4) (fun w5 hk5=>?_)
  have rT:=jP ((hT.ay k4).ay hk5) hg
  have rx:Row w5 b 0 (dc x):=Row.all ((hB.ay k4).ay hk5) rfl
  have g12:H≤12:=by omega
  repeat (first|apply aj|(apply ar;rfl;(first|apply Ea|apply az|apply aD|apply bf|apply bj|apply aW|apply bM|apply Bn)<;>first|rfl|(apply Ar.mk;omega)|assumption|exact List.not_mem_nil|apply ah))
  refine SG.ret rfl rfl rfl (vs:=[dv x,.int .i64 (H:Int)]) (bz.of rfl) (AW x H (by omega) w5) (fun w6 hk6=>?_)
  refine SG.aN (old:=dc zd) (l:=dc (jQ x H)) rfl rfl (ag rfl) (ag rfl) ((hB4.ay hk5).ay hk6) (ah _) (ah _) (bu _) (fun w7 hk7 hB7=>?_)
  have r7:Row w7 b4 0 (dc (jQ x H)):=Row.all hB7 rfl
  clear rT rx
  repeat apply aj
  refine aO (Or.inl rfl) Tryz.results165 (by exact aC.agg rfl rfl (by assumption) (by first|exact ah _|exact nc_length _|exact rc_length _ _ _|exact aL _|exact dl_length _ _ _ _|exact aX _|exact aU _|exact bC _|exact au _|rfl)) ?_
  exact⟨rfl,((hk4.trans hk5).trans hk6).ai hk7 (aV hb4)⟩
 repeat (first|apply aj|(apply ar;rfl;(first|apply az|apply aD|apply dA)<;>rfl))
 refine SG.ret rfl rfl rfl (vs:=[.pointer (some ⟨bT,0,none⟩)]) (bz.of rfl) (hr w2 (Kp.refl _ _)) (fun w3 hk3=>?_)
 repeat (apply ar;rfl;apply az<;>rfl)
 refine SG.aN (old:=dc zd) (l:=dc (jQ x H)) rfl rfl (ag rfl) (ag rfl) (hB2.ay hk3) (ah _) (ah _) (bu _) (fun w4 hk4 hB4=>?_)
 have r4:Row w4 b2 0 (dc (jQ x H)):=Row.all hB4 rfl
 repeat (first|apply aj|(apply ar;rfl;apply aD<;>rfl))
 refine dJ (Or.inl rfl) Tryz.results132 (by first|exact aC.tmp rfl|exact aC.agg rfl rfl (by assumption) (by first|exact ah _|exact nc_length _|exact rc_length _ _ _|exact aL _|exact dl_length _ _ _ _|exact aX _|exact aU _|exact bC _|exact au _|rfl)) (by first|exact aC.tmp rfl|exact aC.agg rfl rfl (by assumption) (by first|exact ah _|exact nc_length _|exact rc_length _ _ _|exact aL _|exact dl_length _ _ _ _|exact aX _|exact aU _|exact bC _|exact au _|rfl)) ?_
 exact⟨rfl,(k2.trans hk3).ai hk4 (aV hb2)⟩
end
section
def qs(b:Bl):Dg:=if b.txs.length=0 then gI else jB (b.txs.map aR)
def j6(b:Bl):List UInt8:=cP (num b.par)++cP (db b.ht)++cP (num b.mkr)++cP b.txs.length
def aQ(b:Bl):Dg:=dB (kV (j6 b++cP (num (qs b)))) [98,108,111,99,107]
noncomputable def oS(b:Bl)(d:Dg):Value:=if bD b=0 then .tuple #[dv d,.int .i64 0] else .tuple #[dv zd,.int .i64 (bD b)]
theorem nE{b:Bl}(h:bD b=0):b.txs.length≤64:=by
 unfold bD at h
 split at h
 ·cases h
 ·split at h
  ·cases h
  ·omega
attribute [local irreducible] CG NG SG aK aI Row aF aE aM num c9 de cQ cJ qw cP bg dB kV dP bE cV aR jV iZ mb oT jQ gI jB bD qs
theorem xl{w:World}{n0:Nat}{x:Bm}(hx:x.In n0 w):dz Tryz.prog 91 #[iH x] w (oS x.b (qs x.b)):=by
 refine bA Tryz.func91 rfl Tryz.ntmps91 rfl ?_
 repeat apply aj
 refine SG.box rfl rfl rfl (ag rfl) (fun b1 w1 hk1 hb1 hB1=>?_)
 have hB1:aF w1 b1 (.cells (dq x).toArray 50):=hB1
 refine SG.alloc rfl rfl rfl (fun b2 w2 hk2 hb2 hB2=>?_)
 have hB2:aF w2 b2 (.cells (dc zd).toArray 47):=hB2
 have k2:=hk1.trans hk2
 have g2:w.heap.size≤b2:=by have:=hk1.size;omega
 obtain⟨r,-⟩:=cE (hB1.ay hk2)
 repeat (first|apply aj|(apply ar;rfl;(first|apply aD|apply bj)<;>first|rfl|assumption|exact List.not_mem_nil|apply aJ))
 refine SG.ret rfl rfl rfl (vs:=[iH x]) (bz.of rfl) (oN (hx.ay k2)) (fun w3 hk3=>?_)
 have k3:=k2.trans hk3
 have hB2:=hB2.ay hk3
 clear r
 by_cases h0:bD x.b=0
 rotate_left
 ·have e0:oS x.b (qs x.b)= .tuple #[dv zd,.int .i64 (bD x.b)]:=by unfold oS;rw[if_neg h0]
  rw[e0]
  generalize bD x.b=z at h0⊢
  repeat (first|apply aj|(apply ar;rfl;(first|apply az|apply aD|apply dK)<;>first|rfl|(apply bN;first|assumption|omega)))
  refine bL rfl ?_
  repeat apply aj
  refine SG.val rfl rfl rfl rfl (aG rfl IA) ?_
  repeat (apply ar;rfl;apply az<;>rfl)
  refine SG.aN (l:=dc zd) rfl rfl (ag rfl) (ag rfl) hB2 (ah _) rfl (bu _) (fun w4 hk4 hB4=>?_)
  have r4:Row w4 b2 0 (dc zd):=Row.all hB4 rfl
  repeat (first|apply aj|(apply ar;rfl;apply aD<;>rfl))
  refine dJ (Or.inl rfl) Tryz.results91 (by first|exact aC.tmp rfl|exact aC.agg rfl rfl (by assumption) (by first|exact ah _|exact nc_length _|exact rc_length _ _ _|exact aL _|exact dl_length _ _ _ _|exact aX _|exact aU _|exact bC _|exact au _|rfl)) (by first|exact aC.tmp rfl|exact aC.agg rfl rfl (by assumption) (by first|exact ah _|exact nc_length _|exact rc_length _ _ _|exact aL _|exact dl_length _ _ _ _|exact aX _|exact aU _|exact bC _|exact au _|rfl)) ?_
  exact⟨rfl,k3.ai hk4 (aV g2)⟩
 have e0:oS x.b (qs x.b)= .tuple #[dv (qs x.b),.int .i64 0]:=by unfold oS;rw[if_pos h0]
 have hlen:x.xs.length≤64:=by have:=nE h0;rwa [show x.b.txs.length=x.xs.length from List.length_map _] at this
 rw[e0,h0]
 have h00:(0:Int)=0:=rfl
 obtain⟨-,-,-,-,r3⟩:=cE (hB1.ay (hk2.trans hk3))
 by_cases hz:x.xs.length=0
 ·have ez:(x.xs.length:Int)=0:=by omega
  have ed:qs x.b=dB zd [110,111,110,101]:=by
   unfold qs
   rw[if_pos (show x.b.txs.length=0 from(List.length_map _).trans hz)]
   unfold gI
   rfl
  rw[ed]
  repeat (first|apply aj|(apply ar;rfl;(first|apply az|apply aD|apply dK)<;>first|rfl|(apply bK;first|assumption|omega)))
  refine bG rfl ?_
  repeat (first|apply aj|(apply ar;rfl;(first|apply bf|apply aW|apply fF|apply dy)<;>first|rfl|assumption|(apply bK;first|assumption|omega)|exact List.not_mem_nil))
  refine bL rfl ?_
  repeat apply aj
  refine SG.val rfl rfl rfl rfl (aG rfl IA) ?_
  refine SG.ret rfl rfl rfl (vs:=[dv zd,sv [110,111,110,101]]) (bz.of rfl) (gu zd [110,111,110,101] (by decide) _) (fun w4 hk4=>?_)
  refine SG.aN (l:=dc (dB zd [110,111,110,101])) rfl rfl (ag rfl) (ag rfl) (hB2.ay hk4) (ah _) rfl (bu _) (fun w5 hk5 hB5=>?_)
  have r5:Row w5 b2 0 (dc (dB zd [110,111,110,101])):=Row.all hB5 rfl
  clear r3
  repeat (first|apply aj|(apply ar;rfl;apply aD<;>rfl))
  refine dJ (Or.inl rfl) Tryz.results91 (by first|exact aC.tmp rfl|exact aC.agg rfl rfl (by assumption) (by first|exact ah _|exact nc_length _|exact rc_length _ _ _|exact aL _|exact dl_length _ _ _ _|exact aX _|exact aU _|exact bC _|exact au _|rfl)) (by first|exact aC.tmp rfl|exact aC.agg rfl rfl (by assumption) (by first|exact ah _|exact nc_length _|exact rc_length _ _ _|exact aL _|exact dl_length _ _ _ _|exact aX _|exact aU _|exact bC _|exact au _|rfl)) ?_
  exact⟨rfl,(k3.trans hk4).ai hk5 (aV g2)⟩
 ·have ez:¬(x.xs.length:Int)=0:=by omega
  have ed:qs x.b=jB (x.xs.map (fun x=>aR x.t)):=by
   unfold qs
   rw[if_neg (show ¬x.b.txs.length=0 from fun e=>hz ((List.length_map _).symm.trans e))]
   congr 1
   exact List.map_map
  rw[ed]
  repeat (first|apply aj|(apply ar;rfl;(first|apply az|apply aD|apply dK)<;>first|rfl|(apply bK;first|assumption|omega)))
  refine bG rfl ?_
  repeat (first|apply aj|(apply ar;rfl;(first|apply bf|apply aW|apply fF|apply dy)<;>first|rfl|assumption|(apply bN;first|assumption|omega)|exact List.not_mem_nil))
  refine bG rfl ?_
  clear r3
  obtain⟨r,-⟩:=cE (hB1.ay (hk2.trans hk3))
  repeat (first|apply aj|(apply ar;rfl;apply bj<;>first|rfl|assumption|exact List.not_mem_nil|apply aJ))
  refine SG.call rfl rfl rfl (vs:=[iH x]) (bz.of rfl) ((wv (hx.ay k3)).mono (fun e w4 hh=>?_))
  obtain⟨v4,he,ho4,hk4⟩:=hh
  refine⟨_,he,?_⟩
  clear he r
  obtain⟨a4,c4,rfl,-,hS4⟩:=Sl.own ah ho4 rfl
  refine SG.ret rfl rfl rfl (vs:=[.slice a4 (x.xs.map (fun x=>aR x.t)).length c4]) (bz.of rfl) (wx c4 hS4 (by rw[List.length_map];omega) (by rw[List.length_map];omega)) (fun w5 hk5=>?_)
  repeat (apply ar;rfl;apply dA<;>rfl)
  refine SG.aN (l:=dc (jB (x.xs.map (fun x=>aR x.t)))) rfl rfl (ag rfl) (ag rfl) ((hB2.ay hk4).ay hk5) (ah _) rfl (bu _) (fun w6 hk6 hB6=>?_)
  have r6:Row w6 b2 0 (dc (jB (x.xs.map (fun x=>aR x.t)))):=Row.all hB6 rfl
  repeat (first|apply aj|(apply ar;rfl;apply aD<;>rfl))
  refine dJ (Or.inl rfl) Tryz.results91 (by first|exact aC.tmp rfl|exact aC.agg rfl rfl (by assumption) (by first|exact ah _|exact nc_length _|exact rc_length _ _ _|exact aL _|exact dl_length _ _ _ _|exact aX _|exact aU _|exact bC _|exact au _|rfl)) (by first|exact aC.tmp rfl|exact aC.agg rfl rfl (by assumption) (by first|exact ah _|exact nc_length _|exact rc_length _ _ _|exact aL _|exact dl_length _ _ _ _|exact aX _|exact aU _|exact bC _|exact au _|rfl)) ?_
  exact⟨rfl,((k3.trans hk4).trans hk5).ai hk6 (aV g2)⟩
end
section
theorem zE(b:Bl):(j6 b).length≤44:=by
 have p1:=bU (num b.par)
 have p2:=bU (db b.ht)
 have p3:=bU (num b.mkr)
 have p4:=bU b.txs.length
 simp only[j6,List.length_append]
 omega
attribute [local irreducible] CG NG SG aK aI Row aF aE aM num c9 de cQ cJ qw cP bg dB kV dP bE cV aR jV iZ mb oT jQ gI jB bD qs
theorem xn{w:World}{n0:Nat}{x:Bm}(hx:x.In n0 w):kt Tryz.prog 5 gw 1 94 #[iH x] w (j6 x.b):=by
 refine bA Tryz.func94 rfl Tryz.ntmps94 rfl ?_
 have hl:=hx.len
 have p1:=bU (num x.par)
 have p2:=bU (db x.ht)
 have p3:=bU (num x.mkr)
 have z2:=mh x.ht
 have eh:j6 x.b=cP (num x.par)++cP (db x.ht)++cP (num x.mkr)++cP x.xs.length:=by
  have:x.b.txs.length=x.xs.length:=List.length_map _
  unfold j6
  rw[this]
  rfl
 rw[eh]
 repeat apply aj
 refine SG.box rfl rfl rfl (ag rfl) (fun b1 w1 hk1 hb1 hB1=>?_)
 have hB1:aF w1 b1 (.cells (dq x).toArray 50):=hB1
 obtain⟨-,r0,r1,r2,r3⟩:=cE hB1
 repeat (first|apply aj|(apply ar;rfl;(first|apply aD|apply bj|apply aW)<;>first|rfl|assumption|exact List.not_mem_nil|apply ah))
 refine SG.ret rfl rfl rfl (vs:=[dv x.par]) (bz.of rfl) (eG x.par w1) (fun w2 hk2=>?_)
 refine SG.call rfl rfl rfl (vs:=[.slice none 0 0,.int .u64 (num x.par:Int)]) (bz.of rfl) ((cW (l:=[]) Bs.nil (num x.par) (pJ _) (by simp)).mono (fun e w3 hh=>?_))
 obtain⟨v3,he,ho3,hk3⟩:=hh
 refine⟨_,he,?_⟩
 rw[List.nil_append] at ho3
 obtain⟨a3,c3,rfl,hS3⟩:=Bs.own ho3
 have k23:=hk2.trans hk3
 have r1:=r1.ay k23
 have r2:=r2.ay k23
 have r3:=r3.ay k23
 clear r0
 repeat (first|apply aj|(apply ar;rfl;(first|apply az|apply aD|apply bf|apply aW|apply vj)<;>first|rfl|assumption|exact List.not_mem_nil))
 rw[iX]
 refine SG.call rfl rfl rfl (vs:=[.slice a3 (cP (num x.par)).length c3,.int .u64 (db x.ht:Int)]) (bz.of rfl) ((cW hS3 (db x.ht) z2 (by omega)).mono (fun e w4 hh=>?_))
 obtain⟨v4,he,ho4,hk4⟩:=hh
 refine⟨_,he,?_⟩
 obtain⟨a4,c4,rfl,hS4⟩:=Bs.own ho4
 have r2:=r2.ay hk4
 have r3:=r3.ay hk4
 clear r1
 repeat (first|apply aj|(apply ar;rfl;(first|apply az|apply aD|apply bj|apply aW)<;>first|rfl|assumption|exact List.not_mem_nil|apply ah))
 refine SG.ret rfl rfl rfl (vs:=[dv x.mkr]) (bz.of rfl) (eG x.mkr w4) (fun w5 hk5=>?_)
 refine SG.call rfl rfl rfl (vs:=[.slice a4 (cP (num x.par)++cP (db x.ht)).length c4,.int .u64 (num x.mkr:Int)]) (bz.of rfl) ((cW (hS4.ay hk5) (num x.mkr) (pJ _) (by simp only[List.length_append];omega)).mono (fun e w6 hh=>?_))
 obtain⟨v6,he,ho6,hk6⟩:=hh
 refine⟨_,he,?_⟩
 obtain⟨a6,c6,rfl,hS6⟩:=Bs.own ho6
 have r3:=(r3.ay hk5).ay hk6
 clear r2
 repeat (first|apply aj|(apply ar;rfl;first|(apply Eb<;>(first|rfl|(apply Ar.mk;omega)|assumption|exact List.not_mem_nil))|((first|apply az|apply aD|apply bf|apply aW|apply dy)<;>(first|rfl|(apply Ar.mk;omega)|assumption|exact List.not_mem_nil))))
 refine SG.call rfl rfl rfl (vs:=[.slice a6 (cP (num x.par)++cP (db x.ht)++cP (num x.mkr)).length c6,.int .u64 (x.xs.length:Int)]) (bz.of rfl) ((cW hS6 x.xs.length (by omega) (by simp only[List.length_append];omega)).mono (fun e w7 hh=>?_))
 obtain⟨v7,he,ho7,hk7⟩:=hh
 refine⟨_,he,?_⟩
 have k6:Kp [] w w6:=(((hk1.trans k23).trans hk4).trans hk5).trans hk6
 repeat (first|apply aj|(apply ar;rfl;apply aD<;>rfl))
 refine aO (Or.inl rfl) Tryz.results94 (aC.tmp rfl) ?_
 exact⟨_,rfl,cX ho7 k6.size,k6.trans hk7⟩
theorem fM{w:World}{n0:Nat}{x:Bm}(hx:x.In n0 w):dz Tryz.prog 46 #[iH x] w (oS x.b (aQ x.b)):=by
 refine bA Tryz.func46 rfl Tryz.ntmps46 rfl ?_
 have hhl:=zE x.b
 have p1:=bU (num (qs x.b))
 repeat apply aj
 refine SG.box rfl rfl rfl (ag rfl) (fun b1 w1 hk1 hb1 hB1=>?_)
 have hB1:aF w1 b1 (.cells (dq x).toArray 50):=hB1
 refine SG.alloc rfl rfl rfl (fun b2 w2 hk2 hb2 hB2=>?_)
 have hB2:aF w2 b2 (.cells (dc zd).toArray 47):=hB2
 have k2:=hk1.trans hk2
 have g2:w.heap.size≤b2:=by have:=hk1.size;omega
 have l2:=hB2.lt
 obtain⟨r,-⟩:=cE (hB1.ay hk2)
 repeat (first|apply aj|(apply ar;rfl;(first|apply aD|apply bj)<;>first|rfl|assumption|exact List.not_mem_nil|apply aJ))
 refine SG.ret rfl rfl rfl (vs:=[iH x]) (bz.of rfl) (xl (hx.ay k2)) (fun w3 hk3=>?_)
 have k3:=k2.trans hk3
 have hB2:=hB2.ay hk3
 have s2:=k2.size
 have s3:=hk3.size
 clear r
 by_cases h0:bD x.b=0
 rotate_left
 ·have e0:∀d,oS x.b d= .tuple #[dv zd,.int .i64 (bD x.b)]:=fun d=>by unfold oS;rw[if_neg h0]
  rw[e0,e0]
  generalize bD x.b=z at h0⊢
  repeat (apply ar;rfl;(first|apply az|apply dA)<;>rfl)
  refine SG.alloc rfl rfl rfl (fun b4 w4 hk4 hb4 hB4=>?_)
  refine SG.aN (l:=dc zd) rfl rfl (ag rfl) (ag rfl) hB4 (ah _) rfl (bu _) (fun w5 hk5 hB5=>?_)
  have k35:=hk4.ai hk5 (aV hb4)
  have hB2:=hB2.ay k35
  repeat (first|apply aj|(apply ar;rfl;(first|apply az|apply aD|apply dK)<;>first|rfl|(apply bN;first|assumption|omega)))
  refine bL rfl ?_
  repeat apply aj
  refine SG.val rfl rfl rfl rfl (aG rfl IA) ?_
  repeat (apply ar;rfl;apply az<;>rfl)
  refine SG.aN (l:=dc zd) rfl rfl (ag rfl) (ag rfl) hB2 (ah _) rfl (bu _) (fun w6 hk6 hB6=>?_)
  have r6:Row w6 b2 0 (dc zd):=Row.all hB6 rfl
  repeat (first|apply aj|(apply ar;rfl;apply aD<;>rfl))
  refine dJ (Or.inl rfl) Tryz.results46 (by first|exact aC.tmp rfl|exact aC.agg rfl rfl (by assumption) (by first|exact ah _|exact nc_length _|exact rc_length _ _ _|exact aL _|exact dl_length _ _ _ _|exact aX _|exact aU _|exact bC _|exact au _|rfl)) (by first|exact aC.tmp rfl|exact aC.agg rfl rfl (by assumption) (by first|exact ah _|exact nc_length _|exact rc_length _ _ _|exact aL _|exact dl_length _ _ _ _|exact aX _|exact aU _|exact bC _|exact au _|rfl)) ?_
  exact⟨rfl,(k3.trans k35).ai hk6 (aV g2)⟩
 have e0:∀d,oS x.b d= .tuple #[dv d,.int .i64 0]:=fun d=>by unfold oS;rw[if_pos h0]
 rw[e0,e0]
 repeat (apply ar;rfl;(first|apply az|apply dA)<;>rfl)
 refine SG.alloc rfl rfl rfl (fun b4 w4 hk4 hb4 hB4=>?_)
 refine SG.aN (l:=dc (qs x.b)) rfl rfl (ag rfl) (ag rfl) hB4 (ah _) rfl (bu _) (fun w5 hk5 hB5=>?_)
 have k35:=hk4.ai hk5 (aV hb4)
 have k5:=k3.trans k35
 have hB2:=hB2.ay k35
 have h00:(0:Int)=0:=rfl
 repeat (first|apply aj|(apply ar;rfl;(first|apply az|apply aD|apply dK)<;>first|rfl|(apply bK;first|assumption|omega)))
 refine bG rfl ?_
 obtain⟨r,-⟩:=cE (((hB1.ay hk2).ay hk3).ay k35)
 have r5:Row w5 b4 0 (dc (qs x.b)):=Row.all hB5 rfl
 repeat apply aj
 refine CG.dM mixed 4 [0,2,3,1] [1] [] (fun _=>True) (by kernel_rfl) trivial (fun _ _ _ _=>trivial) ?_
 repeat (apply bZ;rfl;rfl;apply bj<;>first|rfl|assumption|exact List.not_mem_nil|apply ah|apply aJ)
 refine aI.call rfl rfl rfl (vs:=[dv (qs x.b)]) (bz.of rfl) (fun W _ _=>eG _ W) ?_
 refine aI.kl (X:=Option Addr×Nat) (vs:=[iH x]) (fun q=> .slice q.1 (j6 x.b).length q.2) (fun q W=>Bs W q.1 q.2 (j6 x.b)) rfl rfl rfl rfl (bz.of rfl) (fun q W W' hk h=>h.ay hk) (fun _ _ _ h=>h) (fun W hk _=>(xn ((hx.ay k5).ay hk)).mono (fun e W' hh=>?_)) (fun q=>?_)
 ·obtain⟨v',he,ho,hk'⟩:=hh
  obtain⟨a',c',rfl,hS⟩:=Bs.own ho
  exact⟨(a',c'),he,hS,hk'⟩
 refine aI.tl (fun w6 hk6 hF _=>?_)
 clear r r5
 refine SG.call rfl rfl rfl (vs:=[.slice q.1 (j6 x.b).length q.2,.int .u64 (num (qs x.b):Int)]) (bz.of rfl) ((cW hF.2 (num (qs x.b)) (pJ _) (by omega)).mono (fun e w7 hh=>?_))
 obtain⟨v7,he,ho7,hk7⟩:=hh
 refine⟨_,he,?_⟩
 obtain⟨a7,c7,rfl,hS7⟩:=Bs.own ho7
 refine SG.ret rfl rfl rfl (vs:=[.slice a7 (j6 x.b++cP (num (qs x.b))).length c7]) (bz.of rfl) (mJ hS7.sl (pI ho7) (fun b off e=>cD ho7 b (by subst e;rfl)) (by simp only[List.length_append];omega) hS7.len) (fun w8 hk8=>?_)
 refine SG.ret rfl rfl rfl (vs:=[dv (kV (j6 x.b++cP (num (qs x.b)))),sv [98,108,111,99,107]]) (bz.of rfl) (gu _ [98,108,111,99,107] (by decide) w8) (fun w9 hk9=>?_)
 refine SG.aN (l:=dc (aQ x.b)) rfl rfl (ag rfl) (ag rfl) ((((hB2.ay hk6).ay hk7).ay hk8).ay hk9) (ah _) rfl (bu _) (fun wa hka hBa=>?_)
 have ra:Row wa b2 0 (dc (aQ x.b)):=Row.all hBa rfl
 repeat (first|apply aj|(apply ar;rfl;apply aD<;>rfl))
 refine dJ (Or.inl rfl) Tryz.results46 (by first|exact aC.tmp rfl|exact aC.agg rfl rfl (by assumption) (by first|exact ah _|exact nc_length _|exact rc_length _ _ _|exact aL _|exact dl_length _ _ _ _|exact aX _|exact aU _|exact bC _|exact au _|rfl)) (by first|exact aC.tmp rfl|exact aC.agg rfl rfl (by assumption) (by first|exact ah _|exact nc_length _|exact rc_length _ _ _|exact aL _|exact dl_length _ _ _ _|exact aX _|exact aU _|exact bC _|exact au _|rfl)) ?_
 exact⟨rfl,((((k5.trans hk6).trans hk7).trans hk8).trans hk9).ai hka (aV g2)⟩
end
section
noncomputable def jr(b p:Bl):Int:=if bD b≠0 then bD b else if bD p≠0∨b.par≠aQ p∨b.ht≠p.ht+1 then 24 else 0
attribute [local irreducible] CG NG SG aK aI Row aF aE aM num c9 de cQ cJ qw cP bg dB kV dP bE cV aR jV iZ mb oT jQ gI jB bD qs aQ
theorem vc{w:World}{n0 n1:Nat}{x y:Bm}(hx:x.In n0 w)(hy:y.In n1 w)(hyh:0≤y.ht∧y.ht≤1099511627776):dz Tryz.prog 70 #[iH x,iH y] w (.int .i64 (jr x.b y.b)):=by
 refine bJ Tryz.func70 rfl Tryz.ntmps70 rfl ?_
 repeat apply aj
 refine SG.box rfl rfl rfl (ag rfl) (fun b2 w1 hk1 hb2 hB2=>?_)
 have hB2:aF w1 b2 (.cells (dq x).toArray 50):=hB2
 refine SG.box rfl rfl rfl (ag rfl) (fun b3 w2 hk2 hb3 hB3=>?_)
 have hB3:aF w2 b3 (.cells (dq y).toArray 50):=hB3
 have k2:=hk1.trans hk2
 have hB2:=hB2.ay hk2
 obtain⟨r,-⟩:=cE hB2
 repeat (first|apply aj|(apply ar;rfl;(first|apply aD|apply bj)<;>first|rfl|assumption|exact List.not_mem_nil|apply aJ))
 refine SG.ret rfl rfl rfl (vs:=[iH x]) (bz.of rfl) (oN (hx.ay k2)) (fun w3 hk3=>?_)
 have k3:=k2.trans hk3
 clear r
 by_cases h0:bD x.b=0
 rotate_left
 ·have e0:jr x.b y.b=bD x.b:=by unfold jr;rw[if_pos h0]
  rw[e0]
  generalize bD x.b=z at h0⊢
  repeat (first|apply aj|(apply ar;rfl;(first|apply az|apply aD|apply dK)<;>first|rfl|(apply bN;first|assumption|omega)))
  refine bL rfl ?_
  repeat (first|apply aj|(apply ar;rfl;(first|apply az|apply aD)<;>rfl))
  refine aO (Or.inl rfl) Tryz.results70 (aC.tmp rfl) ?_
  exact⟨rfl,k3⟩
 have e0:jr x.b y.b=if bD y.b≠0∨x.b.par≠aQ y.b∨x.b.ht≠y.b.ht+1 then 24 else 0:=by unfold jr;rw[if_neg (fun h=>h h0)]
 rw[e0,h0]
 clear e0
 have h00:(0:Int)=0:=rfl
 repeat (first|apply aj|(apply ar;rfl;(first|apply az|apply aD|apply dK)<;>first|rfl|(apply bK;first|assumption|omega)))
 refine bG rfl ?_
 obtain⟨r,-⟩:=cE (hB3.ay hk3)
 repeat (first|apply aj|(apply ar;rfl;apply bj<;>first|rfl|assumption|exact List.not_mem_nil|apply aJ))
 refine SG.ret rfl rfl rfl (vs:=[iH y]) (bz.of rfl) (fM (hy.ay k3)) (fun w4 hk4=>?_)
 have k4:=k3.trans hk4
 clear r
 have hB2:=(hB2.ay hk3).ay hk4
 have hB3:=(hB3.ay hk3).ay hk4
 have l2:=hB2.lt
 have l3:=hB3.lt
 have fin:∀{L:Env} {w':World} {z:Int},(if bD y.b≠0∨x.b.par≠aQ y.b∨x.b.ht≠y.b.ht+1 then(24:Int) else 0)=z→Kp [] w w'→look L 4=some (.int .i64 z)→NG 34 .ret (bodyPost Tryz.prog Tryz.f70 (fun e w'=>e= .returned (.int .i64 (if bD y.b≠0∨x.b.par≠aQ y.b∨x.b.ht≠y.b.ht+1 then 24 else 0))∧Kp [] w w')) L w':=
  fun hb hk' hL=>aO (Or.inl rfl) Tryz.results70 (aC.tmp hL) ⟨by rw[hb],hk'⟩
 by_cases h1:bD y.b=0
 rotate_left
 ·have e1:oS y.b (aQ y.b)= .tuple #[dv zd,.int .i64 (bD y.b)]:=by unfold oS;rw[if_neg h1]
  rw[e1]
  have ee:(if bD y.b≠0∨x.b.par≠aQ y.b∨x.b.ht≠y.b.ht+1 then(24:Int) else 0)=24:=if_pos (Or.inl h1)
  repeat (apply ar;rfl;(first|apply az|apply dA)<;>rfl)
  refine SG.alloc rfl rfl rfl (fun b6 w5 hk5 hb6 hB6=>?_)
  refine SG.aN (l:=dc zd) rfl rfl (ag rfl) (ag rfl) hB6 (ah _) rfl (bu _) (fun w6 hk6 hB6=>?_)
  repeat (first|apply aj|(apply ar;rfl;(first|apply az|apply aD|apply cu|apply dK)<;>first|rfl|(apply bN;first|assumption|omega))|refine SG.skip rfl rfl ?_)
  refine bL rfl ?_
  repeat (first|apply aj|(apply ar;rfl;apply aD<;>rfl))
  exact fin ee (k4.trans (hk5.ai hk6 (aV hb6))) rfl
 have e1:oS y.b (aQ y.b)= .tuple #[dv (aQ y.b),.int .i64 0]:=by unfold oS;rw[if_pos h1]
 rw[e1]
 repeat (apply ar;rfl;(first|apply az|apply dA)<;>rfl)
 refine SG.alloc rfl rfl rfl (fun b6 w5 hk5 hb6 hB6=>?_)
 refine SG.aN (l:=dc (aQ y.b)) rfl rfl (ag rfl) (ag rfl) hB6 (ah _) rfl (bu _) (fun w6 hk6 hB6=>?_)
 have k46:=hk5.ai hk6 (aV hb6)
 have k6:=k4.trans k46
 have q6:Row w6 b6 0 (dc (aQ y.b)):=Row.all hB6 rfl
 obtain⟨-,r0,r1,-⟩:=cE (hB2.ay k46)
 obtain⟨-,-,s1,-⟩:=cE (hB3.ay k46)
 have o2:Ar (-9223372036854775808≤y.ht+1∧y.ht+1≤9223372036854775807):=Ar.mk (by omega)
 by_cases h2:x.par=aQ y.b
 rotate_left
 ·repeat (first|apply aj|(apply ar;rfl;(first|apply az|apply aD|apply bj|apply aW|apply cu|apply dK|apply xM)<;>first|rfl|assumption|(apply bK;first|assumption|omega)|(apply bN;first|assumption|omega)|exact List.not_mem_nil|apply ah)|refine SG.skip rfl rfl ?_)
  refine bL rfl ?_
  repeat (first|apply aj|(apply ar;rfl;apply aD<;>rfl))
  exact fin (if_pos (Or.inr (Or.inl h2))) k6 rfl
 by_cases h3:x.ht=y.ht+1
 rotate_left
 ·repeat (first|apply aj|(apply ar;rfl;(first|apply az|apply aD|apply bf|apply bj|apply aW|apply cu|apply dK|apply xM|apply dG)<;>first|rfl|(apply Ar.mk;omega)|assumption|(apply bK;first|assumption|omega)|(apply bN;first|assumption|omega)|exact List.not_mem_nil|apply ah))
  refine bL rfl ?_
  repeat (first|apply aj|(apply ar;rfl;apply aD<;>rfl))
  exact fin (if_pos (Or.inr (Or.inr h3))) k6 rfl
 repeat (first|apply aj|(apply ar;rfl;(first|apply az|apply aD|apply bf|apply bj|apply aW|apply cu|apply dK|apply xM|apply dG)<;>first|rfl|(apply Ar.mk;omega)|assumption|(apply bK;first|assumption|omega)|exact List.not_mem_nil|apply ah))
 refine bG rfl ?_
 repeat (first|apply aj|(apply ar;rfl;apply aD<;>rfl))
 exact fin (if_neg (fun h=>h.elim (fun h=>h h1) (fun h=>h.elim (fun h=>h h2) (fun h=>h h3)))) k6 rfl
end
section
theorem Bm.In.mono{x:Bm}{n m:Nat}{w:World}(h:x.In n w)(hn:n≤m):x.In m w:=⟨⟨h.tx.sl,h.tx.tg.elim Or.inl (fun g=>Or.inr (fun b off e=>Nat.lt_of_lt_of_le (g b off e) hn)),fun y hy=>(h.tx.ins y hy).mono hn⟩,h.len⟩
theorem yq(x:Bm):dq x=(dc x.par++(.int .i64 x.ht::dc x.mkr))++([.slice x.a x.xs.length x.c]++[]):=by simp[dq]
def hG:Bm:=⟨zd,0,zd,none,0,[]⟩
attribute [local irreducible] CG NG SG aK aI Row aF aE aM num c9 de cQ cJ qw cP bg dB kV dP bE cV aR jV iZ mb oT jQ gI jB bD qs aQ
theorem lC{w:World}{n0:Nat}{x:Bm}(hx:x.In n0 w):Calls Tryz.prog 57 #[iH x] w (fun e w'=>∃y:Bm,y.b=x.b∧e= .returned (iH y)∧y.In 0 w'∧Kp [] w w'∧∀b off,y.a=some ⟨b,off,none⟩→w.heap.size≤b):=by
 refine bA Tryz.func57 rfl Tryz.ntmps57 rfl ?_
 have hl:=hx.len
 have hS:=hx.tx.sl
 have hI:=hx.tx.ins
 clear hx
 repeat apply aj
 refine SG.box rfl rfl rfl (ag rfl) (fun b1 w1 hk1 hb1 hB1=>?_)
 have hB1:aF w1 b1 (.cells (dq x).toArray 50):=hB1
 refine SG.alloc rfl rfl rfl (fun b2 w1' hk1' hb2 hB2=>?_)
 have hB2:aF w1' b2 (.cells (dq hG).toArray 50):=hB2
 have l1:=hB1.lt
 have l2':=hB2.lt
 have s1:=hk1.size
 have hB1:=hB1.ay hk1'
 have k1:=hk1.trans hk1'
 obtain⟨-,-,-,-,r3⟩:=cE hB1
 obtain⟨par,ht,mkr,a,c,xs⟩:=x
 simp only at hl hS hI r3
 repeat (first|apply aj|(apply ar;rfl;(first|apply bf|apply aW|apply dy)<;>first|rfl|assumption|exact List.not_mem_nil))
 refine SG.o8 (e:=52) (c:=xs.length) rfl rfl rfl (ag rfl) (ag rfl) rfl rfl (by show 80*_≤_;omega) (by simp only[maxLen];omega) (fun b w2 hk2 hb2' ho=>?_)
 have k2:=k1.trans hk2
 have r3:=r3.ay hk2
 have hB1:=hB1.ay hk2
 have hB2:=hB2.ay hk2
 have l2:=hB2.lt
 repeat (first|apply aj|(apply ar;rfl;(first|apply az|apply aD|apply bf|apply aW|apply dy)<;>first|rfl|assumption|exact List.not_mem_nil))
 refine CG.loop (X:=Nat×Value×List Tm) (fun q=>[(1,.pointer (some ⟨b1,0,none⟩)),(2,.pointer (some ⟨b2,0,none⟩)),(3,q.2.1),(11,.slice a xs.length c),(12,.int .i64 (xs.length:Int)),(13,.int .i64 (q.1:Int))])
  (fun q w'=>q.1≤xs.length∧(Kp [] w w'∧aF w' b1 (.cells (dq ⟨par,ht,mkr,a,c,xs⟩).toArray 50)∧aF w' b2 (.cells (dq hG).toArray 50)∧w1'.heap.size≤w'.heap.size)∧w'.ownsRow w1'.heap.size 52 13 q.2.1 q.2.2.length (bO bV q.2.2)∧q.2.2.length=q.1∧q.2.2.map (·.t)=(xs.map (·.t)).take q.1∧∀y∈q.2.2,y.In 0 w')
  (fun q=>xs.length-q.1) (0,.slice (some ⟨b,0,none⟩) 0 xs.length,[]) ⟨Nat.zero_le _,⟨k2,hB1,hB2,hk2.size⟩,ho,rfl,rfl,fun y hy=>(by cases hy)⟩ (aS.of rfl) ?_
 clear r3
 rintro⟨i,v,ys⟩ w3 ⟨hi,⟨k3,hB31,hB32,s13⟩,ho3,hyl,hym,hyI⟩
 simp only at hi ho3 hyl hym hyI
 have l31:=hB31.lt
 have l32:=hB32.lt
 have s1'':=hk1'.size
 refine CG.to [(1,.pointer (some ⟨b1,0,none⟩)),(2,.pointer (some ⟨b2,0,none⟩)),(3,v),(11,.slice a xs.length c),(12,.int .i64 (xs.length:Int)),(13,.int .i64 (i:Int))] (aS.of rfl) ?_
 by_cases hlt:i<xs.length
 ·have g1:(i:Int)<(xs.length:Int):=by omega
  obtain⟨ba,off,rfl,hrow⟩:=(hS.ay k3).at hlt
  repeat (first|apply aj|(apply ar;rfl;apply cG<;>first|rfl|(apply bK;first|assumption|omega)))
  refine bL rfl ?_
  repeat (first|apply aj|(apply ar;rfl;(first|apply bj|apply fv)<;>first|rfl|(apply Ar.mk;omega)|assumption|exact List.not_mem_nil|apply au))
  refine SG.alloc rfl rfl rfl (fun b5 w5 hk5 hb5 hB5=>?_)
  refine SG.aN (l:=bV xs[i]) rfl rfl (ag rfl) (ag rfl) hB5 (au _) rfl (cC _) (fun w6 hk6 hB6=>?_)
  have k36:=hk5.ai hk6 (aV hb5)
  obtain⟨q2,-⟩:=aZ hB6
  clear hrow
  repeat (first|apply aj|(apply ar;rfl;(first|apply az|apply bj)<;>first|rfl|assumption|exact List.not_mem_nil|apply au))
  refine SG.call rfl rfl rfl (vs:=[eR xs[i]]) (bz.of rfl) ((fO ((hI _ (List.getElem_mem hlt)).ay (k3.trans k36))).mono (fun e w7 hh=>?_))
  obtain⟨y,hy,he,hyI7,hk7,-,-⟩:=hh
  refine⟨_,he,?_⟩
  clear he q2
  refine SG.buildSlice rfl rfl rfl rfl (zU y) (fun b7 w8 hk8 hb7 hB7=>?_)
  have k38:=(k36.trans hk7).trans hk8
  have ho8:=aT ho3 k38
  have s2:=hk2.size
  have s3:=k3.size
  have s38:=k38.size
  refine SG.kr (enc:=bV) (xs:=ys) (ys:=[y]) (base:=w1'.heap.size) rfl rfl rfl (ag rfl) (ag rfl) rfl rfl rfl rfl au cC ho8 (iA (enc:=bV) (sz:=13) (x:=y) au hB7) (by simp only[maxLen,List.length_singleton];omega) (by show(ys.length+1)*80≤_;omega) (by omega) (fun v9 w9 hk9 ho9 hv9=>?_)
  have hO:dh 0 w8 (aP v):=dh.own ho8 (Nat.zero_le _) (by decide)
  have nO:∀{z:Nat},z<w1'.heap.size→z∉aP v:=fun hz hm=>by have:=cp ho8 _ (aH hm);omega
  have hln:(ys++[y]).length=i+1:=by rw[List.length_append,hyl];rfl
  repeat (first|apply aj|(apply ar;rfl;(first|apply az|apply aD|apply dG)<;>first|rfl|(apply Ar.mk;omega)))
  refine NG.round (i+1,v9,ys++[y]) (aS.of rfl) ⟨hlt,⟨(k3.trans k38).ai hk9 (eO ho8 k1.size),(hB31.ay k38).kp hk9 (nO (by omega)),(hB32.ay k38).kp hk9 (nO (by omega)),by have:=hk9.size;omega⟩,ho9,hln,?_,fun z hz=>?_⟩ (by simp only;omega)
  ·rw[List.map_append,List.map_cons,List.map_nil,hym,hy,take_one (fun x:Tm=>x.t) hlt]
  ·rcases List.mem_append.1 hz with hz|hz
   ·exact((hyI z hz).ay k38).gd hk9 hO
   ·rw[List.mem_singleton] at hz
    subst hz
    exact(hyI7.ay hk8).gd hk9 hO
 ·have g1:¬(i:Int)<(xs.length:Int):=by omega
  have e8:i=xs.length:=by omega
  subst e8
  rw[List.take_of_length_le (by rw[List.length_map];exact Nat.le_refl _)] at hym
  obtain⟨a3,c3,rfl,-,hS3⟩:=Sl.own au ho3 rfl
  have ty3:Ty 52 w3 a3 ys:=Ty.own ho3
  have ga:=fN ho3
  have hl3:ys.length=xs.length:=hyl
  repeat (first|apply aj|(apply ar;rfl;apply cG<;>first|rfl|(apply bN;first|assumption|omega)))
  refine bG rfl ?_
  repeat (first|apply aj|(apply ar;rfl;(first|apply az|apply aW)<;>rfl))
  rw[hl3]
  refine SG.cr (dc par++(.int .i64 ht::dc mkr)) [.slice a xs.length c] [] rfl rfl (ag rfl) (ag rfl) hB31 (by rw[List.toList_toArray];exact yq _) rfl rfl (by simp[ah]) rfl (fun w4 hk4 hB4=>?_)
  have hB4:aF w4 b1 (.cells (dq ⟨par,ht,mkr,a3,c3,ys⟩).toArray 50):=by
   rw[yq]
   rw[←hl3] at hB4
   exact hB4
  obtain⟨r,-⟩:=cE hB4
  have n1:∀b off,a3=some ⟨b,off,none⟩→b∉[b1]:=fun b off e=>bP (by have:=ga b off e;omega)
  have n2:∀b off,a3=some ⟨b,off,none⟩→b∉[b2]:=fun b off e=>bP (by have:=ga b off e;omega)
  repeat (first|apply aj|(apply ar;rfl;apply bj<;>first|rfl|assumption|exact List.not_mem_nil|apply aJ))
  refine SG.aN (l:=dq ⟨par,ht,mkr,a3,c3,ys⟩) rfl rfl (ag rfl) (ag rfl) (hB32.kp hk4 (bP (by omega))) (aJ _) rfl (dU _) (fun w5 hk5 hB5=>?_)
  have r5:Row w5 b2 0 (dq ⟨par,ht,mkr,a3,c3,ys⟩):=Row.all hB5 rfl
  repeat apply aj
  refine aO (Or.inl rfl) Tryz.results57 (aC.agg rfl rfl r5 (aJ _)) ?_
  refine⟨⟨par,ht,mkr,a3,c3,ys⟩,?_,rfl,⟨⟨(hS3.kp hk4 n1).kp hk5 n2,Or.inl ((ty3.kp hk4 (fun _=>n1)).kp hk5 (fun _=>n2)),fun y hy=>((hyI y hy).gd hk4 (qG hB31 (by decide))).gd hk5 (qG (hB32.kp hk4 (bP (by omega))) (by decide))⟩,by show ys.length≤_;omega⟩,(k3.ai hk4 (aV (by omega))).ai hk5 (aV (by omega)),fun b off e=>by have h1:=ga b off e;have h2:=k1.size;omega⟩
  unfold Bm.b
  simp only[hym]
end
section
def cI(s:List UInt8):Bm:=⟨zd,0,kV s,none,0,[]⟩
theorem IJ(w:World)(b0 b1 b2 b3 b4 b5 b6 b7:UInt8):(Instr.build 50 #[(2,.agg #[bv b0,bv b1,bv b2,bv b3,bv b4,bv b5,bv b6,bv b7])]).run Tryz.prog w=
  .ok (.agg #[bv 0,bv 0,bv 0,bv 0,bv 0,bv 0,bv 0,bv 0,.int .i64 0,bv b0,bv b1,bv b2,bv b3,bv b4,bv b5,bv b6,bv b7,.slice none 0 0]) w:=by kernel_rfl
theorem PE(w:World)(d:Dg):(Instr.build 50 #[(2,dv d)]).run Tryz.prog w= .ok (iH ⟨zd,0,d,none,0,[]⟩) w:=by
 obtain⟨lb,hb⟩:=d
 match lb,hb with
 |[b0,b1,b2,b3,b4,b5,b6,b7],_=>exact IJ w b0 b1 b2 b3 b4 b5 b6 b7
theorem rA(s:List UInt8)(n:Nat)(w:World):(cI s).In n w:=⟨⟨Sl.nil,Or.inl (fun h=>absurd rfl h),fun y hy=>(by cases hy)⟩,by show 0≤_;omega⟩
attribute [local irreducible] CG NG SG aK aI Row aF aE aM num c9 de cQ cJ qw cP bg dB kV dP bE cV aR jV iZ mb oT jQ gI jB bD qs aQ
theorem wQ(s:List UInt8)(hl:s.length≤1000)(w:World):dz Tryz.prog 76 #[sv s] w (iH (cI s)):=by
 refine bA Tryz.func76 rfl Tryz.ntmps76 rfl ?_
 repeat apply aj
 refine SG.alloc rfl rfl rfl (fun b2 w1 hk1 hb2 hB2=>?_)
 have hB2:aF w1 b2 (.cells (dq hG).toArray 50):=hB2
 repeat (first|apply aj|(apply ar;rfl;apply az<;>rfl))
 refine SG.HL rfl rfl rfl rfl (fun b c w2 hk2 hb hc hlt hS=>?_)
 refine SG.ret rfl rfl rfl (vs:=[.slice (some ⟨b,0,none⟩) s.length c]) (bz.of rfl) (mJ hS (Or.inr ⟨_,_,rfl⟩) (fun b2 off e=>by cases e;exact hlt) (by omega) hc) (fun w3 hk3=>?_)
 refine SG.val rfl rfl rfl rfl (aG rfl (fun W=>PE W (kV s))) ?_
 refine SG.aN (l:=dq (cI s)) rfl rfl (ag rfl) (ag rfl) ((hB2.ay hk2).ay hk3) (aJ _) rfl (dU _) (fun w4 hk4 hB4=>?_)
 have r4:Row w4 b2 0 (dq (cI s)):=Row.all hB4 rfl
 repeat apply aj
 refine aO (Or.inl rfl) Tryz.results76 (aC.agg rfl rfl r4 (aJ _)) ?_
 exact⟨rfl,((hk1.trans hk2).trans hk3).ai hk4 (aV hb2)⟩
end
section
structure Tl where
 n:Nat
 log:Dg
def Ft(t:Tl):List Value:= .int .i64 (t.n:Int)::dc t.log
abbrev il(w:World)(b:Nat)(t:Tl):Prop:=aF w b (.cells (Ft t).toArray 76)
def sG:Dg:=⟨[200,0,0,0,0,0,0,0],rfl⟩
theorem II(w:World):(Instr.build 47 #[(0,.int .u8 200)]).run Tryz.prog w= .ok (dv sG) w:=by kernel_rfl
theorem mq{w:World}{b:Nat}{t:Tl}(h:il w b t):Row w b 0 [.int .i64 (t.n:Int)]∧Row w b 1 (dc t.log):=⟨Row.of h [] (dc t.log) rfl rfl,Row.of h [.int .i64 (t.n:Int)] [] (by simp[Ft]) rfl⟩
theorem Pr(w:World)(n:Int)(b0 b1 b2 b3 b4 b5 b6 b7:UInt8):(Instr.build 76 #[(0,.int .i64 n),(1,.agg #[bv b0,bv b1,bv b2,bv b3,bv b4,bv b5,bv b6,bv b7])]).run Tryz.prog w= .ok (.agg #[.int .i64 n,bv b0,bv b1,bv b2,bv b3,bv b4,bv b5,bv b6,bv b7]) w:=by kernel_rfl
theorem Tu(w:World)(t:Tl):(Instr.build 76 #[(0,.int .i64 (t.n:Int)),(1,dv t.log)]).run Tryz.prog w= .ok (.agg (Ft t).toArray) w:=by
 obtain⟨n,⟨lb,hb⟩⟩:=t
 match lb,hb with
 |[b0,b1,b2,b3,b4,b5,b6,b7],_=>exact Pr w n b0 b1 b2 b3 b4 b5 b6 b7
attribute [local irreducible] CG NG SG aK aI Row aF aE aM num c9 de cQ cJ qw cP bg dB kV dP bE cV aR jV iZ
theorem zy(w:World):dz Tryz.prog 171 #[] w (dv sG):=by
 refine wY Tryz.func171 rfl Tryz.ntmps171 ?_
 repeat apply aj
 refine SG.alloc rfl rfl rfl (fun b2 w1 hk1 hb2 hB2=>?_)
 repeat apply aj
 refine SG.val rfl rfl rfl rfl (aG rfl II) ?_
 refine SG.aN (old:=dc zd) (l:=dc sG) rfl rfl (ag rfl) (ag rfl) hB2 (ah _) (ah _) (bu _) (fun w2 hk2 hB=>?_)
 have r:Row w2 b2 0 (dc sG):=Row.all hB rfl
 repeat apply aj
 refine aO (Or.inl rfl) Tryz.results171 (by exact aC.agg rfl rfl (by assumption) (by first|exact ah _|exact nc_length _|exact rc_length _ _ _|exact aL _|exact dl_length _ _ _ _|exact aX _|exact aU _|exact bC _|exact au _|rfl)) ?_
 exact⟨rfl,hk1.ai hk2 (aV hb2)⟩
theorem ja{w:World}{b:Nat}{t:Tl}(hT:il w b t):Calls Tryz.prog 250 #[.pointer (some ⟨b,0,none⟩)] w (fun e w'=>∃b',e= .returned (.iface 74 (.pointer (some ⟨b',0,none⟩)))∧w.heap.size≤b'∧il w' b' t∧Kp [] w w'):=by
 refine bA Tryz.func250 rfl Tryz.ntmps250 rfl ?_
 obtain⟨r0,r1⟩:=mq hT
 repeat (first|apply aj|(apply ar;rfl;apply aD<;>rfl))
 refine CG.tail mixed 8 [0,1,2,3,4,5,6,7] (by kernel_rfl) ?_
 repeat (apply bZ;rfl;rfl;(first|apply az|apply bf|apply bj|apply aW|apply bM)<;>first|rfl|assumption|exact List.not_mem_nil|apply ah)
 refine aI.tl (fun w1 hk1 _ _=>?_)
 refine SG.val rfl rfl rfl rfl (aG rfl (fun W=>Tu W t)) ?_
 refine SG.box rfl rfl rfl (ag rfl) (fun b' w2 hk2 hb' hB=>?_)
 refine SG.val rfl rfl rfl rfl (D9 (hu:=ty.PW) rfl rfl) ?_
 repeat (first|apply aj|(apply ar;rfl;apply aD<;>rfl))
 refine aO (Or.inl rfl) Tryz.results250 (aC.tmp rfl) ?_
 exact⟨b',rfl,Nat.le_trans hk1.size hb',hB,hk1.trans hk2⟩
end
section
theorem Py(w:World)(a0 a1 a2 a3 a4 a5 a6 a7 b0 b1 b2 b3 b4 b5 b6 b7 c0 c1 c2 c3 c4 c5 c6 c7 d0 d1 d2 d3 d4 d5 d6 d7 e0 e1 e2 e3 e4 e5 e6 e7:UInt8):(Instr.buildSlice 93 5 #[(0,.agg #[bv a0,bv a1,bv a2,bv a3,bv a4,bv a5,bv a6,bv a7]),(1,.agg #[bv b0,bv b1,bv b2,bv b3,bv b4,bv b5,bv b6,bv b7]),(2,.agg #[bv c0,bv c1,bv c2,bv c3,bv c4,bv c5,bv c6,bv c7]),(3,.agg #[bv d0,bv d1,bv d2,bv d3,bv d4,bv d5,bv d6,bv d7]),(4,.agg #[bv e0,bv e1,bv e2,bv e3,bv e4,bv e5,bv e6,bv e7])]).run Tryz.prog w= .ok (.slice (some ⟨w.heap.size,0,none⟩) 5 5) {w with heap:=w.heap.push (.cells #[bv a0,bv a1,bv a2,bv a3,bv a4,bv a5,bv a6,bv a7,bv b0,bv b1,bv b2,bv b3,bv b4,bv b5,bv b6,bv b7,bv c0,bv c1,bv c2,bv c3,bv c4,bv c5,bv c6,bv c7,bv d0,bv d1,bv d2,bv d3,bv d4,bv d5,bv d6,bv d7,bv e0,bv e1,bv e2,bv e3,bv e4,bv e5,bv e6,bv e7] 47)}:=by kernel_rfl
theorem Tz(a b c d e:Dg)(w:World):(Instr.buildSlice 93 5 #[(0,dv a),(1,dv b),(2,dv c),(3,dv d),(4,dv e)]).run Tryz.prog w= .ok (.slice (some ⟨w.heap.size,0,none⟩) 5 5) {w with heap:=w.heap.push (.cells (flat [a,b,c,d,e]).toArray 47)}:=by
 obtain⟨a,ha⟩:=a
 obtain⟨b,hb⟩:=b
 obtain⟨c,hc⟩:=c
 obtain⟨d,hd⟩:=d
 obtain⟨e,he⟩:=e
 match a,ha,b,hb,c,hc,d,hd,e,he with
 |[a0,a1,a2,a3,a4,a5,a6,a7],_,[b0,b1,b2,b3,b4,b5,b6,b7],_,[c0,c1,c2,c3,c4,c5,c6,c7],_,[d0,d1,d2,d3,d4,d5,d6,d7],_,[e0,e1,e2,e3,e4,e5,e6,e7],_=>exact Py w a0 a1 a2 a3 a4 a5 a6 a7 b0 b1 b2 b3 b4 b5 b6 b7 c0 c1 c2 c3 c4 c5 c6 c7 d0 d1 d2 d3 d4 d5 d6 d7 e0 e1 e2 e3 e4 e5 e6 e7
def xD(m:Bk)(f:Dg)(l:List UInt8):Int:=match l with
 |[]=>3
 |u::_=>if lz m f (u.toNat:Int)≠0 then lz m f (u.toNat:Int) else if u=13 then 10 else 0
def DT(t:Tl)(h:Int)(f:Dg)(k:Int)(l:List UInt8):Tl:=match l with
 |[]=>t
 |_=>⟨t.n+1,rk [t.log,f,frm (db h),frm (db k),kV l]⟩
def Fv(m:Bk)(f:Dg)(l:List UInt8):Bk:=match l with
 |[]=>m
 |u::_=>lP m f sG (u.toNat:Int)
theorem DZ{κ ν:Type}{enc:κ→Value}{V:ν→Value}{m:List (κ×ν)}{w:World}{b pm off:Nat}{l:List Value}(hr:Row w b off l)(hm:aE w pm enc V m):b≠pm:=fun e=>by
 subst e
 obtain⟨cs,T,f,h1,-⟩:=hr
 obtain⟨es,c,h2,-⟩:=hm
 have:=aF.uniq h2 h1
 cases this
attribute [local irreducible] CG NG SG aK aI Row aF aE aM num c9 de cQ cJ qw cP bg dB kV dP bE cV aR jV iZ rk frm lz lP
theorem yM{w:World}{b bt bm:Nat}{t:Tl}{m:Bk}(hT:il w b t)(hB:bS w bt bm m)(hg:Good m)(ht:t.n≤1000000){a:Option Addr}{c:Nat}{l:List UInt8}(hS:Bs w a c l)(hl:l.length≤10000000)(hne:∀z off,a=some ⟨z,off,none⟩→z≠b)(h k:Int)(f:Dg):
  Calls Tryz.prog 138 #[.pointer (some ⟨b,0,none⟩),.int .i64 h,dv f,.int .i64 k,.slice a l.length c,.pointer (some ⟨bt,0,none⟩)] w (fun e w'=>e= .returned (.int .i64 (xD m f l))∧il w' b (DT t h f k l)∧bS w' bt bm (Fv m f l)∧Kp [b,bm] w w'):=by
 refine fL (args:=[.pointer (some ⟨b,0,none⟩),.int .i64 h,dv f,.int .i64 k,.slice a l.length c,.pointer (some ⟨bt,0,none⟩)]) Tryz.func138 rfl Tryz.ntmps138 rfl ?_
 have lb:=hT.lt
 have lt:=hB.blk.lt
 have lm:=hB.map.lt
 repeat apply aj
 refine SG.box rfl rfl rfl (ag rfl) (fun b8 w1 hk1 hb8 hB8=>?_)
 have r8:Row w1 b8 0 (dc f):=Row.all hB8 rfl
 have l8:=hB8.lt
 cases l with
 |nil=>
  have h0:(([]:List UInt8).length:Int)=0:=rfl
  repeat (first|apply aj|(apply ar;rfl;(first|apply az|apply aD|apply fF|apply dy)<;>first|rfl|(apply bK;first|assumption|omega)))
  refine bL rfl ?_
  repeat (first|apply aj|(apply ar;rfl;apply aD<;>rfl))
  refine aO (Or.inl rfl) Tryz.results138 (aC.tmp rfl) ?_
  exact⟨rfl,hT.ay hk1,⟨hB.blk.ay hk1,hB.map.ay hk1⟩,hk1.any⟩
 |cons u l=>
  have h0:¬((u::l).length:Int)=0:=by simp only[List.length_cons];omega
  repeat (first|apply aj|(apply ar;rfl;(first|apply az|apply aD|apply fF|apply dy)<;>first|rfl|(apply bN;first|assumption|omega)))
  refine bG rfl ?_
  obtain⟨r0,-⟩:=mq (hT.ay hk1)
  repeat (first|apply aj|(apply ar;rfl;(first|apply az|apply bf|apply aW|apply bM|apply dG)<;>first|rfl|(apply Ar.mk;omega)|assumption|exact List.not_mem_nil))
  refine SG.cr [] [.int .i64 (t.n:Int)] (dc t.log) rfl rfl (ag rfl) (ag rfl) (hT.ay hk1) rfl rfl rfl rfl rfl (fun w2 hk2 hT2=>?_)
  clear r0
  have hT2:il w2 b ⟨t.n+1,t.log⟩:=hT2
  obtain⟨-,r1⟩:=mq hT2
  have r8:=r8.kp hk2 (bP (by omega))
  have hS2:=(hS.ay hk1).kp hk2 (fun z off e=>bP (hne z off e))
  have nbt:bt≠b:=fun e=>by
   subst e
   have:=aF.uniq hT hB.blk
   simp only[Obj.cells.injEq] at this
   exact absurd this.2.1 (by decide)
  have nbm:bm≠b:=eB hT hB.map
  have hB2:bS w2 bt bm m:=⟨(hB.blk.ay hk1).kp hk2 (bP nbt),(hB.map.ay hk1).kp hk2 (bP nbm)⟩
  have s1:=hk1.size
  have s2:=hk2.size
  repeat apply aj
  refine CG.dM mixed 16 [0,1,2,3,4,5,6,7,8,9,10,11,12,13,14,15] [14] [] (fun _=>True) (by kernel_rfl) trivial (fun _ _ _ _=>trivial) ?_
  repeat (apply bZ;rfl;rfl;(first|apply az|apply bj|apply aW|apply bM|apply vj)<;>first|rfl|assumption|exact List.not_mem_nil|apply ah)
  rw[iX]
  refine aI.call rfl rfl rfl (vs:=[.int .u64 (db h:Int)]) (bz.of rfl) (fun W _ _=>kJ (db h) W) ?_
  repeat (apply bZ;rfl;rfl;(first|apply az|apply vj)<;>rfl)
  rw[iX]
  refine aI.call rfl rfl rfl (vs:=[.int .u64 (db k:Int)]) (bz.of rfl) (fun W _ _=>kJ (db k) W) ?_
  repeat (apply bZ;rfl;rfl;apply az<;>rfl)
  refine aI.call rfl rfl rfl (vs:=[.slice a (u::l).length c]) (bz.of rfl) (fun W hk _=>mJ (hS2.ay hk).sl (hS2.some.elim Or.inl (fun h=>h.elim Or.inr (fun h=>absurd h.1 (by simp)))) (fun z off e=>(hS2.ay hk).lt (by simp) z off e) (by omega) hS2.len) ?_
  refine aI.jt (cs:=(flat [t.log,f,frm (db h),frm (db k),kV (u::l)]).toArray) (E:=47) rfl rfl rfl rfl rfl (fun W=>Tz _ _ _ _ _ W) (by simp) (fun _ _ _ _=>trivial) (fun _ _ _ _=>trivial) (fun bn=>?_)
  refine aI.call rfl rfl rfl (vs:=[.slice (some ⟨bn,0,none⟩) 5 5]) (bz.of rfl) (fun W hk hF=>zq (l:=[t.log,f,frm (db h),frm (db k),kV (u::l)]) 5 (Sl.gH (pre:=[]) (post:=[]) (T:=47) ah (by rw[List.append_nil,List.nil_append];exact hF.2.2)) (fun z off e=>by cases e;exact hF.2.2.lt) (by simp)) ?_
  refine aI.tl (fun w3 hk3 _ _=>?_)
  clear r1
  repeat (apply ar;rfl;(first|apply aW|apply bM)<;>rfl)
  refine SG.cr [.int .i64 ((t.n+1:Nat):Int)] (dc t.log) [] rfl rfl (ag rfl) (ag rfl) (hT2.ay hk3) (by simp[Ft]) (by exact ah _) (ah _) rfl (by exact bu _) (fun w4 hk4 hT4=>?_)
  obtain⟨t',ht'⟩:∃t',DT t h f k (u::l)=t':=⟨_,rfl⟩
  have hT4:il w4 b t':=by
   rw[←ht']
   have e:Ft (DT t h f k (u::l))=[.int .i64 ((t.n+1:Nat):Int)]++(dc (rk [t.log,f,frm (db h),frm (db k),kV (u::l)])++[]):=by simp[Ft,DT]
   show aF _ _ _
   rw[e]
   exact hT4
  rw[ht']
  have s3:=hk3.size
  have hB4:bS w4 bt bm m:=⟨(hB2.blk.ay hk3).kp hk4 (bP nbt),(hB2.map.ay hk3).kp hk4 (bP nbm)⟩
  have r8:=(r8.ay hk3).kp hk4 (bP (by omega))
  have hS4:=(hS2.ay hk3).kp hk4 (fun z off e=>bP (hne z off e))
  have k4:Kp [b] w w4:=((hk1.any.trans hk2).trans hk3.any).trans hk4
  obtain⟨za,off,ea,ru⟩:=hS4.sl.at (i:=0) (by simp)
  have ru:Row w4 za off [bv u]:=by simpa using ru
  cases ea
  have hu:=u.toNat_lt
  repeat apply aj
  refine CG.tail mixed 7 [0,1,2,3,4,5,6] (by kernel_rfl) ?_
  repeat (apply bZ;rfl;rfl;(first|apply az|apply bj)<;>first|rfl|assumption|exact List.not_mem_nil|apply ah)
  refine aI.call rfl rfl rfl (vs:=[]) True.intro (fun W _ _=>zy W) ?_
  repeat (apply bZ;rfl;rfl;(first|apply Fz|apply az|apply bf|apply Bn)<;>first|rfl|(apply Ar.mk;omega)|assumption|exact List.not_mem_nil)
  refine aI.tl (fun w5 hk5 _ _=>?_)
  refine SG.call rfl rfl rfl (vs:=[.pointer (some ⟨bt,0,none⟩),dv f,dv sG,.int .i64 (u.toNat:Int)]) (bz.of rfl) ((lX ⟨hB4.blk.ay hk5,hB4.map.ay hk5⟩ hg f sG (u.toNat:Int)).mono (fun e w6 hh=>?_))
  obtain⟨he,hB6,hk6⟩:=hh
  refine⟨_,he,?_⟩
  have ru:=(ru.ay hk5).kp hk6 (bP (DZ ru hB4.map))
  have hT6:il w6 b t':=(hT4.ay hk5).kp hk6 (bP (fun e=>nbm e.symm))
  have k6:Kp [b,bm] w w6:=((k4.trans hk5.any).mono (fun z hz=>by rw[List.mem_singleton] at hz;rw[hz];exact List.mem_cons_self)).trans (hk6.mono (fun z hz=>List.mem_cons_of_mem _ hz))
  clear r8 he
  have eM:Fv m f (u::l)=lP m f sG (u.toNat:Int):=rfl
  rw[eM]
  by_cases h1:lz m f (u.toNat:Int)=0
  rotate_left
  ·have eZ:xD m f (u::l)=lz m f (u.toNat:Int):=if_pos h1
   rw[eZ]
   generalize lz m f (u.toNat:Int)=z at h1⊢
   repeat (first|apply aj|(apply ar;rfl;(first|apply az|apply aD|apply dK)<;>first|rfl|(apply bN;first|assumption|omega)))
   refine bL rfl ?_
   repeat (first|apply aj|(apply ar;rfl;(first|apply az|apply aD)<;>rfl))
   refine aO (Or.inl rfl) Tryz.results138 (aC.tmp rfl) ?_
   exact⟨rfl,hT6,hB6,k6⟩
  have eZ:xD m f (u::l)=if u=13 then 10 else 0:=if_neg (fun h=>h h1)
  rw[eZ,h1]
  have h00:(0:Int)=0:=rfl
  repeat (first|apply aj|(apply ar;rfl;(first|apply az|apply aD|apply dK)<;>first|rfl|(apply bK;first|assumption|omega)))
  refine bG rfl ?_
  by_cases h13:u=13
  ·subst h13
   have e13:((13:UInt8).toNat:Int)=13:=rfl
   rw[if_pos rfl]
   repeat (first|apply aj|(apply ar;rfl;(first|apply az|apply bf|apply Bn|apply fF)<;>first|rfl|(apply Ar.mk;omega)|assumption|(apply bK;first|assumption|omega)|exact List.not_mem_nil))
   refine bL rfl ?_
   repeat (first|apply aj|(apply ar;rfl;apply aD<;>rfl))
   refine aO (Or.inl rfl) Tryz.results138 (aC.tmp rfl) ?_
   exact⟨rfl,hT6,hB6,k6⟩
  ·have e13:¬(u.toNat:Int)=13:=fun e=>h13 (by
    apply UInt8.toNat.inj
    show u.toNat=13
    omega)
   rw[if_neg h13]
   repeat (first|apply aj|(apply ar;rfl;(first|apply az|apply bf|apply Bn|apply fF)<;>first|rfl|(apply Ar.mk;omega)|assumption|(apply bN;first|assumption|omega)|exact List.not_mem_nil))
   refine bG rfl ?_
   repeat (first|apply aj|(apply ar;rfl;apply aD<;>rfl))
   refine aO (Or.inl rfl) Tryz.results138 (aC.tmp rfl) ?_
   exact⟨rfl,hT6,hB6,k6⟩
end
section
def rK(bk tb:Nat)(a:Value):List Value:=[.pointer (some ⟨bk,0,none⟩),.iface 74 (.pointer (some ⟨tb,0,none⟩)),a]
def DD(bk tb:Nat)(a:Value):Value:= .agg (rK bk tb a).toArray
def G8(bk tb:Nat)(a:Value)(ps:List Value):List Value:= .pointer (some ⟨bk,0,none⟩):: .iface 74 (.pointer (some ⟨tb,0,none⟩))::a::ps
theorem fU{w:World}{b bk tb:Nat}{a:Value}{ps:List Value}{T:TypeId}(h:aF w b (.cells (G8 bk tb a ps).toArray T)):Row w b 0 [.pointer (some ⟨bk,0,none⟩)]∧Row w b 1 [.iface 74 (.pointer (some ⟨tb,0,none⟩))]∧Row w b 2 [a]:=
 ⟨Row.of h [] (.iface 74 (.pointer (some ⟨tb,0,none⟩))::a::ps) rfl rfl,Row.of h [.pointer (some ⟨bk,0,none⟩)] (a::ps) rfl rfl,Row.of h [.pointer (some ⟨bk,0,none⟩),.iface 74 (.pointer (some ⟨tb,0,none⟩))] ps rfl rfl⟩
theorem QR(bk tb:Nat)(w:World):(Instr.build 116 #[(0,.pointer (some ⟨bk,0,none⟩)),(1,.iface 74 (.pointer (some ⟨tb,0,none⟩)))]).run Tryz.prog w= .ok (DD bk tb (.slice none 0 0)) w:=by kernel_rfl
theorem yr{w:World}{b bk tb:Nat}{a:Value}(h:aF w b (.cells (rK bk tb a).toArray 116)):Row w b 0 [.pointer (some ⟨bk,0,none⟩)]∧Row w b 1 [.iface 74 (.pointer (some ⟨tb,0,none⟩))]∧Row w b 2 [a]:=
 ⟨Row.of h [] [.iface 74 (.pointer (some ⟨tb,0,none⟩)),a] rfl rfl,Row.of h [.pointer (some ⟨bk,0,none⟩)] [a] rfl rfl,Row.of h [.pointer (some ⟨bk,0,none⟩),.iface 74 (.pointer (some ⟨tb,0,none⟩))] [] rfl rfl⟩
attribute [local irreducible] CG NG SG aK aI Row aF aE aM
theorem ri{w:World}{bk bm tb:Nat}{m:Bk}{t:Tl}{v:Value}(hB:bS w bk bm m)(hT:il w tb t):
  Calls Tryz.prog 71 #[DD bk tb v] w (fun e w'=>∃bk' bm' tb' m',e= .returned (DD bk' tb' (.slice none 0 0))∧bS w' bk' bm' m'∧m'.Perm m∧il w' tb' t∧w.heap.size≤bk'∧w.heap.size≤bm'∧w.heap.size≤tb'∧Kp [] w w'):=by
 refine bA Tryz.func71 rfl Tryz.ntmps71 rfl ?_
 repeat apply aj
 refine SG.box rfl rfl rfl (ag rfl) (fun b1 w1 hk1 hb1 hB1=>?_)
 have hB1:aF w1 b1 (.cells (rK bk tb v).toArray 116):=hB1
 refine SG.alloc rfl rfl rfl (fun b2 w2 hk2 hb2 hB2=>?_)
 have k2:=hk1.trans hk2
 have s1:=hk1.size
 have s2:=hk2.size
 obtain⟨r0,r1,-⟩:=yr (hB1.ay hk2)
 repeat apply aj
 refine CG.dM mixed 5 [0,1,3,4,2] [2] [] (fun _=>True) (by kernel_rfl) trivial (fun _ _ _ _=>trivial) ?_
 repeat (apply bZ;rfl;rfl;(first|apply bf|apply aW)<;>first|rfl|assumption|exact List.not_mem_nil)
 refine aI.kl (X:=Nat×Nat×{m':Bk//m'.Perm m}) (vs:=[.pointer (some ⟨bk,0,none⟩)]) (fun q=> .pointer (some ⟨q.1,0,none⟩)) (fun q W=>bS W q.1 q.2.1 q.2.2.1∧w2.heap.size≤q.1∧w2.heap.size≤q.2.1) rfl rfl rfl rfl (bz.of rfl) (fun q W W' hk h=>⟨h.1.ay hk,h.2⟩) (fun _ _ _ h=>h) (fun W hk _=>(ju ((hB.ay k2).ay hk)).mono (fun e W' hh=>?_)) (fun q=>?_)
 ·obtain⟨bt',bm',m',he,hB',hp,g1,g2,hk'⟩:=hh
  exact⟨(bt',bm',⟨m',hp⟩),he,⟨hB',Nat.le_trans hk.size g1,Nat.le_trans hk.size g2⟩,hk'⟩
 refine aI.tl (fun w3 hk3 hF _=>?_)
 obtain⟨-,hB3,g1,g2⟩:=hF
 have k3:=k2.trans hk3
 refine SG.uU (t:=74) (v:= .pointer (some ⟨tb,0,none⟩)) rfl rfl rfl (vs:=[]) (ag rfl) True.intro ((ja (hT.ay k3)).mono (fun e w4 hh=>?_))
 obtain⟨tb',he,htb',hT4,hk4⟩:=hh
 refine⟨_,he,?_⟩
 have s3:=hk3.size
 refine SG.val rfl rfl rfl rfl (aG rfl (QR q.1 tb')) ?_
 refine SG.aN (l:=rK q.1 tb' (.slice none 0 0)) rfl rfl (ag rfl) (ag rfl) ((hB2.ay hk3).ay hk4) rfl rfl rfl (fun w5 hk5 hB5=>?_)
 have r5:Row w5 b2 0 (rK q.1 tb' (.slice none 0 0)):=Row.all hB5 rfl
 have l2:=hB2.lt
 clear r0 r1
 repeat apply aj
 refine aO (Or.inl rfl) Tryz.results71 (aC.agg rfl rfl r5 rfl) ?_
 have n:∀{z:Nat},w2.heap.size≤z→z∉[b2]:=fun h=>bP (by omega)
 exact⟨q.1,q.2.1,tb',q.2.2.1,rfl,⟨(hB3.blk.ay hk4).kp hk5 (n g1),(hB3.map.ay hk4).kp hk5 (n g2)⟩,q.2.2.2,hT4.kp hk5 (n (by omega)),by omega,by omega,by omega,(k3.trans hk4).ai hk5 (aV (by omega))⟩
end
section
def C3(m:Bk)(t:Tx):Bool:=decide ((cg m t.frm).nonce=t.non)&&decide (t.fee≤(cg m t.frm).money)
attribute [local irreducible] CG NG SG aK aI Row aF aE aM
theorem xo{w:World}{bs bk bm tb:Nat}{m:Bk}{v:Value}(hs:aF w bs (.cells (rK bk tb v).toArray 116))(hB:bS w bk bm m)(x:Tm):
  dz Tryz.prog 81 #[.pointer (some ⟨bs,0,none⟩),eR x] w (.bool (C3 m x.t)):=by
 refine bJ Tryz.func81 rfl Tryz.ntmps81 rfl ?_
 repeat apply aj
 refine SG.box rfl rfl rfl (ag rfl) (fun b3 w1 hk1 hb3 hB3=>?_)
 have hB3:aF w1 b3 (.cells (bV x).toArray 52):=hB3
 obtain⟨-,q0,q1,q2,-⟩:=aZ hB3
 obtain⟨r0,-⟩:=yr (hs.ay hk1)
 repeat (first|apply aj|(apply ar;rfl;apply aD<;>rfl))
 refine CG.gZ mixed [0,1,2,3,4,5,6] [(7,8,5,.tmp 12)] (by kernel_rfl) (by kernel_rfl) ?_
 repeat (apply bZ;rfl;rfl;(first|apply az|apply bf|apply bj|apply aW|apply bM)<;>first|rfl|assumption|exact List.not_mem_nil|apply ah)
 refine aI.call rfl rfl rfl (vs:=[.pointer (some ⟨bk,0,none⟩),dv x.t.frm]) (bz.of rfl) (fun W hk _=>mW ((hB.ay hk1).ay hk) x.t.frm) ?_
 refine aI.one (fC.of (by rfl) rfl rfl rfl (ag rfl) (by exact aX _) (by rfl) (by exact nh _)) (fun b5 w2 hk2 hb5 hB5=>?_)
 have hB5:aF w2 b5 (.cells (acl (oo x.t.frm (cg m x.t.frm))).toArray 59):=hB5
 have e0:acl (oo x.t.frm (cg m x.t.frm))=dc x.t.frm++[.int .i64 (cg m x.t.frm).money,.int .i64 (cg m x.t.frm).nonce]:=rfl
 have p1:Row w2 b5 8 [.int .i64 (cg m x.t.frm).money]:=Row.of hB5 (dc x.t.frm) [.int .i64 (cg m x.t.frm).nonce] (by simp[e0]) (ah _)
 have p2:Row w2 b5 9 [.int .i64 (cg m x.t.frm).nonce]:=Row.of hB5 (dc x.t.frm++[.int .i64 (cg m x.t.frm).money]) [] (by simp[e0]) (by simp[ah])
 have q1:=q1.ay hk2
 have q2:=q2.ay hk2
 have k2:=hk1.trans hk2
 clear q0 r0
 unfold C3
 by_cases h1:(cg m x.t.frm).nonce=x.t.non
 rotate_left
 ·rw[decide_eq_false h1]
  repeat (first|apply aj|(apply ar;rfl;(first|apply az|apply aD|apply bf|apply aW|apply cu|apply fF)<;>first|rfl|assumption|(apply bN;first|assumption|omega)|exact List.not_mem_nil)|refine SG.skip rfl rfl ?_)
  refine aO (Or.inl rfl) Tryz.results81 (aC.tmp rfl) ?_
  exact⟨rfl,k2⟩
 rw[decide_eq_true h1]
 by_cases h2:x.t.fee≤(cg m x.t.frm).money
 ·rw[decide_eq_true h2]
  repeat (first|apply aj|(apply ar;rfl;(first|apply az|apply aD|apply bf|apply aW|apply cu|apply fF|apply jN)<;>first|rfl|assumption|(apply bK;first|assumption|omega)|exact List.not_mem_nil))
  refine aO (Or.inl rfl) Tryz.results81 (aC.tmp rfl) ?_
  exact⟨rfl,k2⟩
 ·rw[decide_eq_false h2]
  repeat (first|apply aj|(apply ar;rfl;(first|apply az|apply aD|apply bf|apply aW|apply cu|apply fF|apply jN)<;>first|rfl|assumption|(apply bK;first|assumption|omega)|(apply bN;first|assumption|omega)|exact List.not_mem_nil))
  refine aO (Or.inl rfl) Tryz.results81 (aC.tmp rfl) ?_
  exact⟨rfl,k2⟩
end
section
def sZ(m:Bk)(h:Int)(t:Tx):Int:=if t.kind=0 then(if dQ t.body≠0 then dQ t.body else lz m t.frm (iM t.body)) else xD m t.frm t.body
def od(m:Bk)(h:Int)(t:Tx):Bk:=if t.kind=0 then(if dQ t.body≠0 then m else lP m t.frm (jC t.body) (iM t.body)) else if xD m t.frm t.body=0 then Fv m t.frm t.body else m
def nf(a:Tl)(m:Bk)(h:Int)(t:Tx):Tl:=if t.kind=0 then a else if xD m t.frm t.body=0 then DT a h t.frm t.kind t.body else a
def Oh(m:Bk)(mk:Dg)(t:Tx):Bk:=lP (ou m t.frm t.non) t.frm mk t.fee
def SK(m:Bk)(t:Tx):Int:=if qN m t.frm t.non≠0 then qN m t.frm t.non else lz (ou m t.frm t.non) t.frm t.fee
end
section
structure fu(w:World)(T:TypeId)(ps:List Value)(bs bk bm tb:Nat)(m:Bk)(t:Tl)(v:Value):Prop where
 blk:aF w bs (.cells (G8 bk tb v ps).toArray T)
 book:bS w bk bm m
 app:il w tb t
theorem fu.ay{w w':World}{bs bk bm tb:Nat}{m:Bk}{t:Tl}{v:Value}{T:TypeId}{ps:List Value}(h:fu w T ps bs bk bm tb m t v)(hk:Kp [] w w'):fu w' T ps bs bk bm tb m t v:=⟨h.blk.ay hk,h.book.ay hk,h.app.ay hk⟩
theorem fu.CY{w w':World}{bs bk bm tb:Nat}{m m':Bk}{t:Tl}{v:Value}{T:TypeId}{ps:List Value}(h:fu w T ps bs bk bm tb m t v)(hk:Kp [bm] w w')(hB:bS w' bk bm m'):fu w' T ps bs bk bm tb m' t v:=⟨h.blk.kp hk (bP (fun e=>eB h.blk h.book.map e.symm)),hB,h.app.kp hk (bP (fun e=>eB h.app h.book.map e.symm))⟩
def Ho(w:World)(T:TypeId)(ps:List Value)(bs bk bm tb:Nat)(m:Bk)(t:Tl)(v:Value)(h:Int)(x:Tx)(e:Ending)(w':World):Prop:=
 ∃bk' bm' tb' m1,m1.Perm m∧e= .returned (.int .i64 (sZ m1 h x))∧fu w' T ps bs bk' bm' tb' (od m1 h x) (nf t m1 h x) v∧Kp [bs,bm] w w'∧(bk'=bk∧bm'=bm∧tb'=tb∨w.heap.size≤bk'∧w.heap.size≤bm'∧w.heap.size≤tb')
attribute [local irreducible] CG NG SG aK aI Row aF aE aM dQ jC iM lz lP
theorem ve{w:World}{n0 bs bk bm tb:Nat}{m:Bk}{t:Tl}{v:Value}{T:TypeId}{ps:List Value}(hs:fu w T ps bs bk bm tb m t v)(hg:Good m){x:Tm}(hx:x.In n0 w)(h:Int)(hk0:x.t.kind=0):
  Calls Tryz.prog 121 #[.pointer (some ⟨bs,0,none⟩),.int .i64 h,eR x] w (Ho w T ps bs bk bm tb m t v h x.t):=by
 refine ey Tryz.func121 rfl Tryz.ntmps121 rfl ?_
 have eZ:sZ m h x.t=if dQ x.t.body≠0 then dQ x.t.body else lz m x.t.frm (iM x.t.body):=by unfold sZ;rw[if_pos hk0]
 have eM:od m h x.t=if dQ x.t.body≠0 then m else lP m x.t.frm (jC x.t.body) (iM x.t.body):=by unfold od;rw[if_pos hk0]
 have eT:nf t m h x.t=t:=by unfold nf;rw[if_pos hk0]
 repeat apply aj
 refine SG.box rfl rfl rfl (ag rfl) (fun b5 w1 hk1 hb5 hB5=>?_)
 have hB5:aF w1 b5 (.cells (bV x).toArray 52):=hB5
 obtain⟨-,-,-,-,r3,-⟩:=aZ hB5
 rw[hk0] at r3
 have h00:(0:Int)=0:=rfl
 repeat (first|apply aj|(apply ar;rfl;(first|apply aD|apply bf|apply aW|apply fF)<;>first|rfl|assumption|(apply bK;first|assumption|omega)|exact List.not_mem_nil))
 refine bL rfl ?_
 clear r3
 obtain⟨r,-⟩:=aZ hB5
 repeat (first|apply aj|(apply ar;rfl;apply bj<;>first|rfl|assumption|exact List.not_mem_nil|apply au))
 refine SG.call rfl rfl rfl (vs:=[eR x]) (bz.of rfl) ((rb (hx.ay hk1) hk0).mono (fun e w2 hh=>?_))
 obtain⟨d,n,he,hk2,rfl,rfl⟩:=hh
 refine⟨_,he,?_⟩
 clear he r
 have k2:=hk1.trans hk2
 repeat (apply ar;rfl;(first|apply az|apply dA)<;>rfl)
 refine SG.alloc rfl rfl rfl (fun b7 w3 hk3 hb7 hB7=>?_)
 refine SG.aN (l:=dc (jC x.t.body)) rfl rfl (ag rfl) (ag rfl) hB7 (ah _) rfl (bu _) (fun w4 hk4 hB4=>?_)
 have k4:=k2.trans (hk3.ai hk4 (aV hb7))
 have q7:Row w4 b7 0 (dc (jC x.t.body)):=Row.all hB4 rfl
 by_cases hz:dQ x.t.body=0
 rotate_left
 ·rw[if_pos hz] at eZ eM
  repeat (first|apply aj|(apply ar;rfl;(first|apply az|apply aD|apply dK)<;>first|rfl|(apply bN;first|assumption|omega)))
  refine bL rfl ?_
  repeat (first|apply aj|(apply ar;rfl;(first|apply az|apply aD)<;>rfl))
  refine aO (Or.inl rfl) Tryz.results121 (aC.tmp rfl) ?_
  exact⟨bk,bm,tb,m,List.Perm.refl _,by rw[eZ],by rw[eM,eT];exact hs.ay k4,k4.any,Or.inl ⟨rfl,rfl,rfl⟩⟩
 rw[if_neg (fun h=>h hz)] at eZ eM
 rw[hz]
 have hB5:=(hB5.ay hk2).ay (hk3.ai hk4 (aV hb7))
 obtain⟨-,q0,-⟩:=aZ hB5
 have hs4:=hs.ay k4
 obtain⟨r0,-⟩:=fU hs4.blk
 repeat (first|apply aj|(apply ar;rfl;(first|apply az|apply aD|apply dK)<;>first|rfl|(apply bK;first|assumption|omega)))
 refine bG rfl ?_
 repeat apply aj
 refine CG.tail mixed 8 [0,1,2,3,4,5,6,7] (by kernel_rfl) ?_
 repeat (apply bZ;rfl;rfl;(first|apply az|apply bf|apply bj|apply aW|apply bM)<;>first|rfl|assumption|exact List.not_mem_nil|apply ah)
 refine aI.tl (fun w5 hk5 _ _=>?_)
 refine SG.call rfl rfl rfl (vs:=[.pointer (some ⟨bk,0,none⟩),dv x.t.frm,dv (jC x.t.body),.int .i64 (iM x.t.body)]) (bz.of rfl) ((lX (hs4.ay hk5).book hg x.t.frm (jC x.t.body) (iM x.t.body)).mono (fun e w6 hh=>?_))
 obtain⟨he,hB6,hk6⟩:=hh
 refine⟨_,he,?_⟩
 clear r0 q0 q7 he
 repeat (first|apply aj|(apply ar;rfl;apply aD<;>rfl))
 refine aO (Or.inl rfl) Tryz.results121 (aC.tmp rfl) ?_
 exact⟨bk,bm,tb,m,List.Perm.refl _,by rw[eZ],by rw[eM,eT];exact(hs4.ay hk5).CY hk6 hB6,(k4.trans hk5).any.trans (hk6.mono (fun z hz=>by rw[List.mem_singleton] at hz;rw[hz];simp)),Or.inl ⟨rfl,rfl,rfl⟩⟩
end
section
theorem DS{m1 m:Bk}(hb:∀k,cg m1 k=cg m k)(f:Dg)(l:List UInt8):xD m1 f l=xD m f l:=by
 cases l with
 |nil=>rfl
 |cons u l=>
  have e:lz m1 f (u.toNat:Int)=lz m f (u.toNat:Int):=by unfold lz;rw[hb]
  show(if lz m1 f (u.toNat:Int)≠0 then lz m1 f (u.toNat:Int) else if u=13 then 10 else 0)=_
  rw[e]
  rfl
attribute [local irreducible] CG NG SG aK aI Row aF aE aM dQ jC iM lz lP xD Fv DT
theorem sY{w:World}{n0 bs bk bm tb:Nat}{m:Bk}{t:Tl}{v:Value}{T:TypeId}{ps:List Value}(hs:fu w T ps bs bk bm tb m t v)(hg:Good m){x:Tm}(hx:x.In n0 w)(h:Int)(hk0:¬x.t.kind=0)(ht:t.n≤1000000):
  Calls Tryz.prog 121 #[.pointer (some ⟨bs,0,none⟩),.int .i64 h,eR x] w (Ho w T ps bs bk bm tb m t v h x.t):=by
 refine ey Tryz.func121 rfl Tryz.ntmps121 rfl ?_
 repeat apply aj
 refine SG.box rfl rfl rfl (ag rfl) (fun b5 w1 hk1 hb5 hB5=>?_)
 have hB5:aF w1 b5 (.cells (bV x).toArray 52):=hB5
 obtain⟨-,-,-,-,r3,-⟩:=aZ hB5
 repeat (first|apply aj|(apply ar;rfl;(first|apply aD|apply bf|apply aW|apply fF)<;>first|rfl|assumption|(apply bN;first|assumption|omega)|exact List.not_mem_nil))
 refine bG rfl ?_
 clear r3
 obtain⟨r0,r1,-⟩:=fU (hs.ay hk1).blk
 repeat apply aj
 refine CG.dM mixed 9 [0,1,2,3,5,6,7,8,4] [4] [] (fun _=>True) (by kernel_rfl) trivial (fun _ _ _ _=>trivial) ?_
 repeat (apply bZ;rfl;rfl;(first|apply az|apply bf|apply aW|apply bM)<;>first|rfl|assumption|exact List.not_mem_nil)
 refine aI.xj (t:=74) (v:= .pointer (some ⟨tb,0,none⟩)) (X:=Nat) (vs:=[]) (fun q=> .iface 74 (.pointer (some ⟨q,0,none⟩))) (fun q W=>w1.heap.size≤q∧il W q t) (fun _ _=>True) rfl rfl rfl rfl (ag rfl) True.intro (fun q W W' hk h=>⟨h.1,h.2.ay hk⟩) (fun _ _ _ _ _=>trivial) (fun _ _ _ h=>h) (fun W hk _ _=>(ja (((hs.ay hk1).app).ay hk)).mono (fun e W' hh=>?_)) (fun tb'=>?_)
 ·obtain⟨b',he,hb',hT',hk'⟩:=hh
  exact⟨b',he,⟨Nat.le_trans hk.size hb',hT'⟩,trivial,hk'⟩
 refine aI.tl (fun w2 hk2 hF _=>?_)
 obtain⟨-,htb,hT2⟩:=hF
 have k2:=hk1.trans hk2
 refine SG.call rfl rfl rfl (vs:=[.pointer (some ⟨bk,0,none⟩)]) (bz.of rfl) ((ju (hs.ay k2).book).mono (fun e w3 hh=>?_))
 obtain⟨bk',bm',m1,he,hB3,hp,gk,gm,hk3⟩:=hh
 refine⟨_,he,?_⟩
 clear r0 r1 he
 have k3:=k2.trans hk3
 have hT3:=hT2.ay hk3
 have hB5:=(hB5.ay hk2).ay hk3
 obtain⟨-,q0,-,-,q3,q4,-⟩:=aZ hB5
 have hx3:=hx.ay k3
 repeat (first|apply aj|(apply ar;rfl;apply aD<;>rfl))
 refine CG.dM mixed 13 [0,1,2,3,4,5,6,7,9,10,11,12,8] [8] [] (fun _=>True) (by kernel_rfl) trivial (fun _ _ _ _=>trivial) ?_
 repeat (apply bZ;rfl;rfl;(first|apply Jd|apply az|apply bf|apply bj|apply aW)<;>first|rfl|assumption|exact List.not_mem_nil|apply ah)
 refine aI.val rfl rfl rfl (D8 (f:=138) rfl inferInstance) ?_
 repeat (apply bZ;rfl;rfl;apply az<;>rfl)
 refine aI.kl (X:=Option Addr×Nat) (vs:=[x.b]) (fun q=> .slice q.1 x.t.body.length q.2) (fun q W=>Bs W q.1 q.2 x.t.body∧∀z off,q.1=some ⟨z,off,none⟩→w3.heap.size≤z) rfl rfl rfl rfl (bz.of rfl) (fun q W W' hk h=>⟨h.1.ay hk,h.2⟩) (fun _ _ _ h=>h) (fun W hk _=>(fV x.c1 (hx3.ay hk).b.sl (by have:=hx.l1;omega)).mono (fun e W' hh=>?_)) (fun q=>?_)
 ·obtain⟨v',he,ho,hk'⟩:=hh
  obtain⟨a',c',rfl,hS⟩:=Bs.own ho
  exact⟨(a',c'),he,⟨hS,fun z off e=>Nat.le_trans hk.size (fN ho z off e)⟩,hk'⟩
 refine aI.tl (fun w4 hk4 hF _=>?_)
 obtain⟨-,hS4,hge⟩:=hF
 have lT3:=hT3.lt
 have hbal:∀k,cg m1 k=cg m k:=fun k=>by
  unfold cg
  rw[jz hp hB3.map.nodup]
 have hg1:Good m1:=fun k=>by rw[hbal];exact hg k
 refine SG.uU (t:=74) (v:= .pointer (some ⟨tb',0,none⟩)) rfl rfl rfl (vs:=[.int .i64 h,dv x.t.frm,.int .i64 x.t.kind,.slice q.1 x.t.body.length q.2,.pointer (some ⟨bk',0,none⟩)]) (ag rfl) (bz.of rfl) ((yM (hT3.ay hk4) (hB3.ay hk4) hg1 ht hS4 hx.l1 (fun z off e=>by have:=hge z off e;omega) h x.t.kind x.t.frm).mono (fun e w5 hh=>?_))
 obtain⟨he,hT5,hB5',hk5⟩:=hh
 refine⟨_,he,?_⟩
 have k4:=k3.trans hk4
 have lbs:=hs.blk.lt
 have lbk:=hs.book.blk.lt
 have lbm:=hs.book.map.lt
 have ltb:=hs.app.lt
 have s1:=hk1.size
 have s2:=k2.size
 have s4:=k4.size
 have n5:∀{z:Nat},z<w.heap.size→z∉[tb',bm']:=fun h=>fG (by omega) (by omega)
 have hs5:fu w5 T ps bs bk bm tb m t v:=⟨(hs.blk.ay k4).kp hk5 (n5 lbs),⟨(hs.book.blk.ay k4).kp hk5 (n5 lbk),(hs.book.map.ay k4).kp hk5 (n5 lbm)⟩,(hs.app.ay k4).kp hk5 (n5 ltb)⟩
 have k5:Kp [] w w5:=k4.ai hk5 (gj (by omega) (by omega))
 have eZ:sZ m1 h x.t=xD m1 x.t.frm x.t.body:=by unfold sZ;rw[if_neg hk0]
 have eM:od m1 h x.t=if xD m1 x.t.frm x.t.body=0 then Fv m1 x.t.frm x.t.body else m1:=by unfold od;rw[if_neg hk0]
 clear q0 q3 q4
 by_cases hz:xD m1 x.t.frm x.t.body=0
 ·rw[if_pos hz] at eM
  have eT:nf t m1 h x.t=DT t h x.t.frm x.t.kind x.t.body:=by unfold nf;rw[if_neg hk0,if_pos hz]
  rw[hz]
  have h00:(0:Int)=0:=rfl
  have eM2:od m1 h x.t=Fv m1 x.t.frm x.t.body:=eM
  repeat (first|apply aj|(apply ar;rfl;(first|apply az|apply aD|apply fF)<;>first|rfl|(apply bK;first|assumption|omega)))
  refine bL rfl ?_
  repeat (first|apply aj|(apply ar;rfl;(first|apply az|apply aW|apply bM)<;>rfl))
  refine SG.cr [.pointer (some ⟨bk,0,none⟩)] [.iface 74 (.pointer (some ⟨tb,0,none⟩))] (v::ps) rfl rfl (ag rfl) (ag rfl) hs5.blk rfl rfl rfl rfl rfl (fun w6 hk6 hB6=>?_)
  repeat (apply ar;rfl;(first|apply aW|apply bM)<;>rfl)
  refine SG.cr [] [.pointer (some ⟨bk,0,none⟩)] (.iface 74 (.pointer (some ⟨tb',0,none⟩))::v::ps) rfl rfl (ag rfl) (ag rfl) hB6 rfl rfl rfl rfl rfl (fun w7 hk7 hB7=>?_)
  repeat (first|apply aj|(apply ar;rfl;(first|apply az|apply aD)<;>rfl))
  refine aO (Or.inl rfl) Tryz.results121 (aC.tmp rfl) ?_
  have k67:Kp [bs] w5 w7:=hk6.trans hk7
  have nbs:∀{z:Nat},w.heap.size≤z→z∉[bs]:=fun h=>bP (by omega)
  exact⟨bk',bm',tb',m1,hp,by rw[eZ,hz],by rw[eM2,eT];exact⟨hB7,⟨hB5'.blk.kp k67 (nbs (by omega)),hB5'.map.kp k67 (nbs (by omega))⟩,hT5.kp k67 (nbs (by omega))⟩,k5.any.trans (k67.mono (fun z hz=>by rw[List.mem_singleton] at hz;rw[hz];simp)),Or.inr ⟨by omega,by omega,by omega⟩⟩
 ·have eb:=DS hbal x.t.frm x.t.body
  have eZ':sZ m h x.t=xD m1 x.t.frm x.t.body:=by unfold sZ;rw[if_neg hk0,eb]
  have eM':od m h x.t=m:=by unfold od;rw[if_neg hk0,if_neg (by rw[←eb];exact hz)]
  have eT':nf t m h x.t=t:=by unfold nf;rw[if_neg hk0,if_neg (by rw[←eb];exact hz)]
  repeat (first|apply aj|(apply ar;rfl;(first|apply az|apply aD|apply fF)<;>first|rfl|(apply bN;first|assumption|omega)))
  refine bG rfl ?_
  repeat (first|apply aj|(apply ar;rfl;(first|apply az|apply aD)<;>rfl))
  refine aO (Or.inl rfl) Tryz.results121 (aC.tmp rfl) ?_
  exact⟨bk,bm,tb,m,List.Perm.refl _,by rw[eZ'],by rw[eM',eT'];exact hs5,k5.any,Or.inl ⟨rfl,rfl,rfl⟩⟩
end
section
abbrev QS(w:World)(a:Option Addr)(l:List Ac):Prop:=Sl acl 10 w a l
theorem IG(w:World)(a0 a1 a2 a3 a4 a5 a6 a7:UInt8)(x y:Int):(Instr.buildSlice 63 1 #[(0,.agg #[bv a0,bv a1,bv a2,bv a3,bv a4,bv a5,bv a6,bv a7,Value.int .i64 x,Value.int .i64 y])]).run Tryz.prog w= .ok (.slice (some ⟨w.heap.size,0,none⟩) 1 1) {w with heap:=w.heap.push (.cells #[bv a0,bv a1,bv a2,bv a3,bv a4,bv a5,bv a6,bv a7,Value.int .i64 x,Value.int .i64 y] 59)}:=by kernel_rfl
theorem Px(e:Ac)(w:World):(Instr.buildSlice 63 1 #[(0,Fl e)]).run Tryz.prog w= .ok (.slice (some ⟨w.heap.size,0,none⟩) 1 1) {w with heap:=w.heap.push (.cells (acl e).toArray 59)}:=by
 obtain⟨⟨l,hl⟩,x,y⟩:=e
 match l,hl with
 |[a0,a1,a2,a3,a4,a5,a6,a7],_=>exact IG w a0 a1 a2 a3 a4 a5 a6 a7 x y
def oV(e:Ac):Prop:=e.money<0∨1125899906842624<e.money∨e.nonce<0∨1099511627776<e.nonce
instance(e:Ac):Decidable (oV e):=by unfold oV;infer_instance
def iN:List Dg→Int→List Ac→Int
 |_,s,[]=>if 1125899906842624<s then 22 else 0
 |ks,s,e::l=>if oV e then 2 else if e.key∈ks then 7 else iN (e.key::ks) (s+e.money) l
def j3(l:List Ac):Int:=if 1024<l.length then 8 else iN [] 0 l
def iD(m:Bk)(l:List Ac):Bk:=l.foldl (fun m e=>gJ m e.key ⟨e.money,e.nonce⟩) m
attribute [local irreducible] CG NG SG aK aI Row aF aE aM bE
theorem xm{w:World}{a:Option Addr}{l:List Ac}(c:Nat)(h:QS w a l)(hl:l.length≤100000):Calls Tryz.prog 34 #[.slice a l.length c] w (fun e w'=>Kp [] w w'∧
  ((j3 l≠0∧e= .returned (.tuple #[.pointer none,.int .i64 (j3 l)]))∨(j3 l=0∧∃bt bm,e= .returned (.tuple #[.pointer (some ⟨bt,0,none⟩),.int .i64 0])∧bS w' bt bm (iD [] l)∧w.heap.size≤bt∧w.heap.size≤bm))):=by
 refine bA Tryz.func34 rfl Tryz.ntmps34 rfl ?_
 by_cases h8:(1024:Int)<(l.length:Int)
 ·repeat (first|apply aj|(apply ar;rfl;(first|apply az|apply aD|apply dy|apply fW)<;>first|rfl|(apply bK;first|assumption|omega)))
  refine bL rfl ?_
  repeat (first|apply aj|(apply ar;rfl;apply aD<;>rfl))
  refine dJ (Or.inl rfl) Tryz.results34 (aC.tmp rfl) (aC.tmp rfl) ?_
  have:j3 l=8:=by unfold j3;rw[if_pos (by omega)]
  exact⟨Kp.refl _ _,Or.inl ⟨by rw[this];decide,by rw[this]⟩⟩
 have hE:j3 l=iN [] 0 l:=by unfold j3;rw[if_neg (by omega)]
 rw[hE]
 repeat (first|apply aj|(apply ar;rfl;(first|apply az|apply aD|apply dy|apply fW)<;>first|rfl|(apply bN;first|assumption|omega)))
 refine bG rfl ?_
 repeat apply aj
 refine SG.makeMap (dv (n:=8)) qV rfl rfl (fun bm w1 hk1 hbm hm=>?_)
 refine SG.val rfl rfl rfl rfl (aG rfl (fun w=>IV w bm)) ?_
 refine SG.box rfl rfl rfl (ag rfl) (fun bt w2 hk2 hbt hBt=>?_)
 repeat (first|apply aj|(apply ar;rfl;apply aD<;>rfl))
 refine SG.makeMap (dv (n:=8)) (fun _:Unit=>Value.bool true) rfl rfl (fun bs w3 hk3 hbs hms=>?_)
 repeat (first|apply aj|(apply ar;rfl;(first|apply az|apply aD|apply dy)<;>rfl))
 have hB3:bS w3 bt bm []:=⟨hBt.ay hk3,(hm.ay hk2).ay hk3⟩
 have e1:=hm.lt
 have e2:=hBt.lt
 have e3:=hms.lt
 have s1:=hk1.size
 have s2:=hk2.size
 refine CG.loop (X:=Nat×Int×List Dg×Bk×List (Dg×Unit)) (fun q=>[(2,.pointer none),(3,.int .i64 0),(4,.pointer (some ⟨bt,0,none⟩)),(5,.map (some bs)),(6,.int .i64 q.2.1),(16,.slice a l.length c),(17,.int .i64 l.length),(18,.int .i64 (q.1:Int))])
  (fun q w'=>q.1≤l.length∧Kp [] w w'∧w3.heap.size≤w'.heap.size∧bS w' bt bm q.2.2.2.1∧aE w' bs (dv (n:=8)) (fun _:Unit=>Value.bool true) q.2.2.2.2∧(∀k,aB q.2.2.2.2 k=none↔k∉q.2.2.1)∧iN q.2.2.1 q.2.1 (l.drop q.1)=iN [] 0 l∧iD q.2.2.2.1 (l.drop q.1)=iD [] l∧0≤q.2.1∧q.2.1≤(q.1:Int)*1125899906842624)
  (fun q=>l.length-q.1) (0,0,[],[],[]) ⟨Nat.zero_le _,(hk1.trans hk2).trans hk3,Nat.le_refl _,hB3,hms,fun k=>by simp[aB],rfl,rfl,Int.le_refl _,by simp⟩ (aS.of rfl) ?_
 rintro⟨i,s,ks,m,sn⟩ w4 ⟨hi,hk,hsz,hB,hS,hks,hgo,hpu,hs0,hs1⟩
 simp only at hi hB hS hks hgo hpu hs0 hs1
 refine CG.to [(2,.pointer none),(3,.int .i64 0),(4,.pointer (some ⟨bt,0,none⟩)),(5,.map (some bs)),(6,.int .i64 s),(16,.slice a l.length c),(17,.int .i64 l.length),(18,.int .i64 (i:Int))] (aS.of rfl) ?_
 by_cases hlt:i<l.length
 case neg=>
  have g1:¬(i:Int)<(l.length:Int):=by omega
  have ei:i=l.length:=by omega
  rw[ei,List.drop_length] at hgo hpu
  simp only[iN] at hgo
  repeat (first|apply aj|(apply ar;rfl;apply cG<;>first|rfl|(apply bN;first|assumption|omega)))
  refine bG rfl ?_
  by_cases g2:1125899906842624<s
  ·rw[if_pos g2] at hgo
   repeat (first|apply aj|(apply ar;rfl;(first|apply az|apply fW)<;>first|rfl|(apply bK;first|assumption|omega)))
   refine bL rfl ?_
   repeat (first|apply aj|(apply ar;rfl;apply aD<;>rfl))
   refine dJ (Or.inl rfl) Tryz.results34 (aC.tmp rfl) (aC.tmp rfl) ?_
   exact⟨hk,Or.inl ⟨by rw[←hgo];decide,by rw[←hgo]⟩⟩
  ·rw[if_neg g2] at hgo
   repeat (first|apply aj|(apply ar;rfl;(first|apply az|apply fW)<;>first|rfl|(apply bN;first|assumption|omega)))
   refine bG rfl ?_
   repeat (first|apply aj|(apply ar;rfl;(first|apply az|apply aD)<;>rfl))
   refine dJ (Or.inl rfl) Tryz.results34 (aC.tmp rfl) (aC.tmp rfl) ?_
   refine⟨hk,Or.inr ⟨hgo.symm,bt,bm,rfl,?_,by omega,by omega⟩⟩
   have:m=iD [] l:=hpu
   rw[←this]
   exact hB
 have g1:(i:Int)<(l.length:Int):=by omega
 obtain⟨ba,oa,rfl,hr⟩:=(h.ay hk).at hlt
 obtain⟨x,hx⟩:∃x,x=l[i]:=⟨_,rfl⟩
 rw[←hx] at hr
 have hdrop:l.drop i=x::l.drop (i+1):=by rw[hx];exact List.drop_eq_getElem_cons hlt
 rw[hdrop] at hgo hpu
 simp only[iN] at hgo
 repeat (first|apply aj|(apply ar;rfl;apply cG<;>first|rfl|(apply bK;first|assumption|omega)))
 refine bL rfl ?_
 repeat (first|apply aj|(apply ar;rfl;(first|apply bj|apply fv)<;>first|rfl|(apply Ar.mk;omega)|assumption|exact List.not_mem_nil|apply aX))
 refine SG.alloc rfl rfl rfl (fun b8 w5 hk5 hb8 hB8=>?_)
 refine SG.aN (old:=acl ⟨zd,0,0⟩) (l:=acl x) rfl rfl (ag rfl) (ag rfl) hB8 (aX _) (aX _) (nh _) (fun w6 hk6 hB8=>?_)
 have s4:=hk.size
 have s5:=hk5.size
 have k46:Kp [] w4 w6:=hk5.ai hk6 (aV (by omega))
 have hB6:=hB.ay k46
 have hS6:=hS.ay k46
 have hk:=hk.trans k46
 have s6:=k46.size
 obtain⟨q0,q1,q2,q3⟩:=te hB8
 clear q3
 by_cases hbad:oV x
 ·rw[if_pos hbad] at hgo
  have hcase:x.money<0∨(¬x.money<0∧1125899906842624<x.money)∨(¬x.money<0∧¬1125899906842624<x.money∧x.nonce<0)∨(¬x.money<0∧¬1125899906842624<x.money∧¬x.nonce<0∧1099511627776<x.nonce):=by
   unfold oV at hbad
   omega
  rcases hcase with g2|⟨g2,g3⟩|⟨g2,g3,g4⟩|⟨g2,g3,g4,g5⟩
  all_goals
   repeat (first|apply aj|(apply ar;rfl;(first|apply az|apply bf|apply aW|apply cu|apply cG|apply fW)<;>first|rfl|assumption|(apply bK;first|assumption|omega)|(apply bN;first|assumption|omega)|exact List.not_mem_nil)|refine SG.skip rfl rfl ?_)
   refine bL rfl ?_
   repeat (first|apply aj|(apply ar;rfl;apply aD<;>rfl))
   refine dJ (Or.inl rfl) Tryz.results34 (aC.tmp rfl) (aC.tmp rfl) ?_
   exact⟨hk,Or.inl ⟨by rw[←hgo];decide,by rw[←hgo]⟩⟩
 rw[if_neg hbad] at hgo
 have hcase:¬x.money<0∧¬1125899906842624<x.money∧¬x.nonce<0∧¬1099511627776<x.nonce:=by
  unfold oV at hbad
  omega
 obtain⟨g2,g3,g4,g5⟩:=hcase
 repeat (first|apply aj|(apply ar;rfl;(first|apply az|apply bf|apply aW|apply cu|apply cG|apply fW)<;>first|rfl|assumption|(apply bN;first|assumption|omega)|exact List.not_mem_nil))
 refine bG rfl ?_
 cases hal:aB sn x.key with
 |some u=>
  have:x.key∈ks:=by
   apply Classical.byContradiction
   intro hn
   rw[(hks x.key).2 hn] at hal
   cases hal
  rw[if_pos this] at hgo
  repeat (first|apply aj|(apply ar;rfl;(first|apply az|apply bj|apply aW|apply qu)<;>first|rfl|assumption|exact List.not_mem_nil|apply ah|exact kX (by assumption)|fail))
  refine bL rfl ?_
  repeat (first|apply aj|(apply ar;rfl;apply aD<;>rfl))
  refine dJ (Or.inl rfl) Tryz.results34 (aC.tmp rfl) (aC.tmp rfl) ?_
  exact⟨hk,Or.inl ⟨by rw[←hgo];decide,by rw[←hgo]⟩⟩
 |none=>
  have hnk:=(hks x.key).1 hal
  rw[if_neg hnk] at hgo
  repeat (first|apply aj|(apply ar;rfl;(first|apply az|apply bj|apply aW|apply qu)<;>first|rfl|assumption|exact List.not_mem_nil|apply ah|exact tv (by assumption)|fail))
  refine bG rfl ?_
  repeat (first|apply aj|(apply ar;rfl;(first|apply az|apply bj|apply aW)<;>first|rfl|assumption|exact List.not_mem_nil|apply ah))
  refine SG.mapUpdate (enc:=dv (n:=8)) (V:=fun _:Unit=>Value.bool true) (kx:=x.key) (vy:=()) rfl rfl (ag rfl) (ag rfl) rfl hS6 gr.key (fun w7 hk7 hS7=>?_)
  have hB7:=hB6.kp hk7 (bP (by omega)) (bP (by omega))
  have hB8:=hB8.kp hk7 (bP (by omega))
  obtain⟨q0,q1,q2,q3⟩:=te hB8
  clear q3
  repeat (first|apply aj|(apply ar;rfl;(first|apply az|apply bf|apply bj|apply aW)<;>first|rfl|assumption|exact List.not_mem_nil|apply ah))
  refine SG.val rfl rfl rfl rfl (aG (v:=qV ⟨x.money,x.nonce⟩) rfl (fun w=>by kernel_rfl)) ?_
  refine SG.call rfl rfl rfl (by repeat' (first|exact True.intro|exact ag rfl|refine And.intro ?_ ?_)) ((kM hB7 x.key ⟨x.money,x.nonce⟩ (by unfold Pu.Fit;simp only;omega)).mono (fun e w8 hh=>?_))
  obtain⟨he8,h8,hk8⟩:=hh
  refine⟨_,he8,?_⟩
  obtain⟨q0,q1,q2,q3⟩:=te (hB8.kp hk8 (bP (by omega)))
  clear q3
  have s7:=hk7.size
  have s8:=hk8.size
  repeat (first|apply aj|(apply ar;rfl;(first|apply az|apply aD|apply bf|apply aW|apply dG)<;>first|rfl|(apply Ar.mk;omega)|assumption|exact List.not_mem_nil))
  refine NG.round (i+1,s+x.money,x.key::ks,gJ m x.key ⟨x.money,x.nonce⟩,cF sn x.key ()) (aS.of rfl) ⟨hlt,(hk.ai hk7 (aV (by omega))).ai hk8 (aV (by omega)),by omega,h8,hS7.kp hk8 (bP (by omega)),fun k=>?_,hgo,hpu,by simp only;omega,by simp only;omega⟩ (by simp only;omega)
  rw[bR]
  by_cases e:x.key=k
  ·simp[e]
  ·rw[if_neg e,hks k]
   simp[Ne.symm e]
end
section
open Go.Proofs Go.Shelf Go.Sort
def cf(x y:Ac):Int:=Lib.compareBytes x.key.1 y.key.1
attribute [local irreducible] CG NG SG aK aI Row aF aE aM bE
end
section
open Go.Proofs Go.Shelf
def HO:Go.Shelf.Ren:=⟨fun|6=>61|15=>114|14=>113|28=>156|29=>157|20=>148|21=>149|22=>150|23=>151|24=>152|25=>153|26=>154|27=>155|46=>174|47=>175|48=>176|49=>177|50=>178|57=>194|n=>n,fun|22=>63|24=>59|25=>139|3=>3|39=>208|0=>0|53=>259|55=>183|4=>4|46=>253|45=>252|50=>90|5=>5|9=>9|66=>273|70=>277|76=>298|77=>299|n=>n,fun n=>n⟩
end
section
open Go.Proofs Go.Shelf Go.Sort
abbrev cb:=Lib.compareBytes
instance:Inhabited Ac:=⟨⟨zd,0,0⟩⟩
def Uw(p:Dg×Pu):Ac:=oo p.1 p.2
def UD(l:List Ac):Prop:=l.Pairwise (fun x y=>ltOf cf y x=false)
attribute [local irreducible] CG NG SG aK aI Row aF aE aM bE
end
section
theorem tc(m:Bk)(k x:Dg):aB (m.filter (fun q=>decide (q.1≠k))) x=if k=x then none else aB m x:=by
 induction m with
 |nil=>simp[aB]
 |cons p m ih=>
  obtain⟨a,y⟩:=p
  by_cases h:a=k
  ·rw[List.filter_cons_of_neg (by simp[h]),ih]
   by_cases e:k=x
   ·simp[e]
   ·rw[if_neg e,if_neg e]
    show _=if a=x then some y else aB m x
    rw[if_neg (by rw[h];exact e)]
  ·rw[List.filter_cons_of_pos (by simp[h])]
   show(if a=x then some y else aB (m.filter _) x)=if k=x then none else if a=x then some y else aB m x
   rw[ih]
   by_cases e:k=x
   ·subst e;simp[h]
   ·simp[e]
theorem nc(m:Bk)(k x:Dg)(p:Pu):cg (gJ m k p) x=if k=x then p else cg m x:=by
 unfold gJ
 by_cases h:p=pz
 ·rw[if_pos h]
  unfold cg
  rw[tc]
  by_cases e:k=x
  ·simp[e,h]
  ·simp[e]
 ·rw[if_neg h]
  unfold cg
  rw[bR]
  by_cases e:k=x
  ·simp[e]
  ·simp[e]
theorem mK{m:Bk}{k:Dg}{p:Pu}{q:Dg×Pu}(h:q∈cF m k p):q=(k,p)∨q∈m:=by
 induction m with
 |nil=>simp[cF] at h;exact Or.inl h
 |cons a m ih=>
  obtain⟨x,y⟩:=a
  unfold cF at h
  by_cases e:x=k
  ·rw[if_pos e] at h
   rcases List.mem_cons.1 h with h|h
   ·exact Or.inl (by rw[h,e])
   ·exact Or.inr (by simp[h])
  ·rw[if_neg e] at h
   rcases List.mem_cons.1 h with h|h
   ·exact Or.inr (by simp[h])
   ·rcases ih h with h|h
    ·exact Or.inl h
    ·exact Or.inr (by simp[h])
theorem AV(m:Bk)(k:Dg)(p:Pu):tot (cF m k p)=tot m-(cg m k).money+p.money:=by
 induction m with
 |nil=>simp[cF,tot,cg,aB,pz]
 |cons a m ih=>
  obtain⟨x,y⟩:=a
  unfold cF cg aB
  by_cases e:x=k
  ·rw[if_pos e,if_pos e,du,du]
   simp
   omega
  ·rw[if_neg e,if_neg e,du,du,ih]
   show y.money+(tot m-((aB m k).getD pz).money+p.money)=y.money+tot m-((aB m k).getD pz).money+p.money
   omega
theorem vE(m:Bk)(hn:(m.map (·.1)).Nodup)(k:Dg):tot (m.filter (fun q=>decide (q.1≠k)))=tot m-(cg m k).money:=by
 induction m with
 |nil=>simp[tot,cg,aB,pz]
 |cons a m ih=>
  obtain⟨x,y⟩:=a
  rw[List.map_cons,List.nodup_cons] at hn
  by_cases e:x=k
  ·rw[List.filter_cons_of_neg (by simp[e]),du,ih hn.2]
   have h0:aB m k=none:=by
    rw[dV]
    intro q hq he
    exact hn.1 (List.mem_map.2 ⟨q,hq,by rw[he,e]⟩)
   unfold cg
   rw[h0]
   simp[aB,e,pz]
   omega
  ·rw[List.filter_cons_of_pos (by simp[e]),du,du,ih hn.2]
   unfold cg
   simp only[aB,if_neg e]
   omega
theorem DO(m:Bk)(hn:(m.map (·.1)).Nodup)(k:Dg)(p:Pu):tot (gJ m k p)=tot m-(cg m k).money+p.money:=by
 unfold gJ
 by_cases h:p=pz
 ·rw[if_pos h,vE m hn,h]
  simp[pz]
 ·rw[if_neg h,AV]
theorem zx{m:Bk}{k:Dg}{p:Pu}(hn:(m.map (·.1)).Nodup):((cF m k p).map (·.1)).Nodup:=by
 induction m with
 |nil=>simp[cF]
 |cons a m ih=>
  obtain⟨x,y⟩:=a
  unfold cF
  by_cases e:x=k
  ·rw[if_pos e]
   subst e
   simpa using hn
  ·rw[if_neg e,List.map_cons,List.nodup_cons]
   rw[List.map_cons,List.nodup_cons] at hn
   refine⟨fun hm=>?_,ih hn.2⟩
   obtain⟨q,hq,he⟩:=List.mem_map.1 hm
   rcases mK hq with h|h
   ·subst h
    exact e he.symm
   ·exact hn.1 (List.mem_map.2 ⟨q,h,he⟩)
theorem uw(m:Bk)(k:Dg)(p:Pu):(cF m k p).length≤m.length+1:=by
 induction m with
 |nil=>simp[cF]
 |cons a m ih=>
  obtain⟨x,y⟩:=a
  unfold cF
  by_cases e:x=k
  ·rw[if_pos e];simp
  ·rw[if_neg e];simp;exact ih
structure Ok(T N:Int)(m:Bk):Prop where
 nd:(m.map (·.1)).Nodup
 nz:∀p∈m,p.2≠pz
 mon:∀p∈m,0≤p.2.money
 non:∀p∈m,0≤p.2.nonce∧p.2.nonce≤N
 tot:tot m=T
theorem sC{m:Bk}{k:Dg}{p:Pu}(h:aB m k=some p):(k,p)∈m:=by
 induction m with
 |nil=>simp[aB] at h
 |cons a m ih=>
  obtain⟨x,y⟩:=a
  unfold aB at h
  by_cases e:x=k
  ·rw[if_pos e] at h
   simp only[Option.some.injEq] at h
   subst e
   subst h
   simp
  ·rw[if_neg e] at h
   exact List.mem_cons_of_mem _ (ih h)
theorem F2{m:Bk}(h:∀p∈m,0≤p.2.money){q:Dg×Pu}(hq:q∈m):q.2.money≤tot m:=by
 induction m with
 |nil=>cases hq
 |cons a m ih=>
  rw[du]
  have h0:=h a (by simp)
  have h1:=AU (m:=m) (fun p hp=>h p (by simp[hp]))
  rcases List.mem_cons.1 hq with rfl|hq
  ·omega
  ·have:=ih (fun p hp=>h p (by simp[hp])) hq
   omega
theorem Ok.t0{T N:Int}{m:Bk}(h:Ok T N m):0≤T:=by rw[←h.tot];exact AU h.mon
theorem Ok.bnd{T N:Int}{m:Bk}(h:Ok T N m)(hN:0≤N)(k:Dg):0≤(cg m k).money∧(cg m k).money≤T∧0≤(cg m k).nonce∧(cg m k).nonce≤N:=by
 have ht:=h.t0
 unfold cg
 cases e:aB m k with
 |none=>simp[pz];exact⟨ht,hN⟩
 |some p=>
  have hm:=sC e
  have h1:=h.mon _ hm
  have h2:=h.non _ hm
  have h3:=F2 h.mon hm
  rw[h.tot] at h3
  exact⟨h1,h3,h2⟩
theorem Ok.uD{T N:Int}{m:Bk}(h:Ok T N m)(hN:0≤N)(hT:T≤2000000000000000000)(hN':N≤2000000000000000000):Good m:=fun k=>by
 have:=h.bnd hN k
 omega
theorem Ok.put{T N N':Int}{m:Bk}(h:Ok T N m)(hN:N≤N')(k:Dg)(p:Pu)(h1:0≤p.money)(h2:0≤p.nonce∧p.nonce≤N'):Ok (T-(cg m k).money+p.money) N' (gJ m k p):=by
 refine⟨?_,?_,?_,?_,by rw[DO m h.nd,h.tot]⟩
 all_goals unfold gJ
 all_goals by_cases e:p=pz
 ·rw[if_pos e]
  exact h.nd.sublist (List.filter_sublist.map _)
 ·rw[if_neg e]
  exact zx h.nd
 ·rw[if_pos e]
  exact fun q hq=>h.nz q (List.mem_filter.1 hq).1
 ·rw[if_neg e]
  intro q hq
  rcases mK hq with rfl|hq
  ·exact e
  ·exact h.nz q hq
 ·rw[if_pos e]
  exact fun q hq=>h.mon q (List.mem_filter.1 hq).1
 ·rw[if_neg e]
  intro q hq
  rcases mK hq with rfl|hq
  ·exact h1
  ·exact h.mon q hq
 ·rw[if_pos e]
  intro q hq
  have:=h.non q (List.mem_filter.1 hq).1
  omega
 ·rw[if_neg e]
  intro q hq
  rcases mK hq with rfl|hq
  ·exact h2
  ·have:=h.non q hq
   omega
theorem jl(m:Bk)(k:Dg)(p:Pu):(gJ m k p).length≤m.length+1:=by
 unfold gJ
 by_cases e:p=pz
 ·rw[if_pos e]
  have:=List.length_filter_le (fun q:Dg×Pu=>decide (q.1≠k)) m
  omega
 ·rw[if_neg e]
  exact uw m k p
theorem BT{m:Bk}{f:Dg}{n:Int}(h:lz m f n=0):0≤n∧n≤1125899906842624∧n≤(cg m f).money:=by
 unfold lz at h
 split at h
 ·cases h
 ·split at h
  ·cases h
  ·omega
theorem Ok.move{T N:Int}{m:Bk}(h:Ok T N m)(hN:0≤N)(f t:Dg)(n:Int):Ok T N (lP m f t n):=by
 unfold lP
 by_cases e:lz m f n=0∧f≠t
 ·rw[if_pos e]
  obtain⟨a1,a2,a3⟩:=BT e.1
  have hf:=h.bnd hN f
  have ht:=h.bnd hN t
  have h1:=h.put (Int.le_refl N) f ⟨(cg m f).money-n,(cg m f).nonce⟩ (by simp only;omega) ⟨hf.2.2.1,hf.2.2.2⟩
  have h2:=h1.put (Int.le_refl N) t ⟨(cg m t).money+n,(cg m t).nonce⟩ (by simp only;omega) ⟨ht.2.2.1,ht.2.2.2⟩
  rw[nc,if_neg e.2] at h2
  simp only at h2
  have:T-(cg m f).money+((cg m f).money-n)-(cg m t).money+((cg m t).money+n)=T:=by omega
  rw[this] at h2
  exact h2
 ·rw[if_neg e]
  exact h
theorem uv(m:Bk)(f t:Dg)(n:Int):(lP m f t n).length≤m.length+2:=by
 unfold lP
 split
 ·have h1:=jl m f ⟨(cg m f).money-n,(cg m f).nonce⟩
  have h2:=jl (gJ m f ⟨(cg m f).money-n,(cg m f).nonce⟩) t ⟨(cg m t).money+n,(cg m t).nonce⟩
  omega
 ·omega
theorem wG(m:Bk)(k:Dg)(n:Int):(ou m k n).length≤m.length+2:=by
 unfold ou
 split
 ·have h1:=jl m k ⟨(cg m k).money,(cg m k).nonce+1⟩
  omega
 ·omega
theorem zn{α:Type}[DecidableEq α]:∀{l l':List α},l.Nodup→(∀x∈l,x∈l')→l'.length≤l.length→∀x∈l',x∈l:=by
 intro l
 induction l with
 |nil=>
  intro l' _ _ h x hx
  cases l' with
  |nil=>cases hx
  |cons y l'=>simp at h
 |cons a l ih=>
  intro l' hn hs hl x hx
  rw[List.nodup_cons] at hn
  have ha:=hs a (by simp)
  by_cases e:x=a
  ·simp[e]
  ·refine List.mem_cons_of_mem _ (ih (l':=l'.erase a) hn.2 (fun y hy=>?_) ?_ x ((List.mem_erase_of_ne e).2 hx))
   ·have hya:y≠a:=fun h=>hn.1 (by rw[←h];exact hy)
    exact(List.mem_erase_of_ne hya).2 (hs y (by simp[hy]))
   ·rw[List.length_erase_of_mem ha]
    simp at hl
    omega
theorem AR{m m':Bk}(hp:m.Perm m'):tot m=tot m':=by
 induction hp with
 |nil=>rfl
 |cons x _ ih=>rw[du,du,ih]
 |swap x y l=>rw[du,du,du,du];omega
 |trans _ _ a b=>exact a.trans b
theorem Ba{m m':Bk}{T N T' N':Int}(h:Ok T N m)(h':Ok T' N' m'):jS m m'=true↔∀k,cg m k=cg m' k:=by
 have key:∀{m:Bk} {T N:Int},Ok T N m→∀k,k∈m.map (·.1)↔cg m k≠pz:=by
  intro m T N h k
  constructor
  ·intro hk
   obtain⟨p,hp,rfl⟩:=List.mem_map.1 hk
   rw[pg h.nd hp]
   exact h.nz p hp
  ·intro hk
   apply Classical.byContradiction
   intro hn
   apply hk
   unfold cg
   have:aB m k=none:=by
    rw[dV]
    exact fun p hp e=>hn (List.mem_map.2 ⟨p,hp,e⟩)
   rw[this]
   rfl
 constructor
 ·intro hs
  simp only[jS,Bool.and_eq_true,decide_eq_true_eq,List.all_eq_true] at hs
  obtain⟨hl,ha⟩:=hs
  have hsub:∀k∈m.map (·.1),k∈m'.map (·.1):=fun k hk=>by
   obtain⟨p,hp,rfl⟩:=List.mem_map.1 hk
   rw[key h',ha p hp]
   exact h.nz p hp
  have hsup:∀k∈m'.map (·.1),k∈m.map (·.1):=zn h.nd hsub (by simp;omega)
  intro k
  by_cases hk:k∈m.map (·.1)
  ·obtain⟨p,hp,rfl⟩:=List.mem_map.1 hk
   rw[ha p hp,pg h.nd hp]
  ·have h1:cg m k=pz:=Classical.byContradiction (fun hn=>hk ((key h k).2 hn))
   have h2:cg m' k=pz:=Classical.byContradiction (fun hn=>hk (hsup k ((key h' k).2 hn)))
   rw[h1,h2]
 ·intro hb
  simp only[jS,Bool.and_eq_true,decide_eq_true_eq,List.all_eq_true]
  refine⟨?_,fun p hp=>by rw[←hb,pg h.nd hp]⟩
  have hperm:(m.map (·.1)).Perm (m'.map (·.1)):=by
   rw[List.perm_ext_iff_of_nodup h.nd h'.nd]
   intro k
   rw[key h,key h',hb]
  simpa using hperm.length_eq
theorem Ok.perm{T N:Int}{m m':Bk}(h:Ok T N m)(hp:m'.Perm m):Ok T N m'∧∀k,cg m' k=cg m k:=by
 refine⟨⟨(hp.map _).nodup_iff.2 h.nd,fun p hp'=>h.nz p (hp.mem_iff.1 hp'),fun p hp'=>h.mon p (hp.mem_iff.1 hp'),fun p hp'=>h.non p (hp.mem_iff.1 hp'),?_⟩,fun k=>?_⟩
 ·rw[←h.tot]
  exact AR hp
 ·unfold cg
  rw[jz hp ((hp.map _).nodup_iff.2 h.nd)]
end
section
abbrev Fb:=Dg→Pu
def I8(f:Fb)(k:Dg)(p:Pu):Fb:=fun x=>if k=x then p else f x
def FC(f:Fb)(a:Dg)(n:Int):Int:=if n<0∨1125899906842624<n then 2 else if(f a).money<n then 21 else 0
def Gr(f:Fb)(a b:Dg)(n:Int):Fb:=if FC f a n=0∧a≠b then I8 (I8 f a ⟨(f a).money-n,(f a).nonce⟩) b ⟨(f b).money+n,(f b).nonce⟩ else f
def Dq(f:Fb)(k:Dg)(n:Int):Int:=if n<(f k).nonce then 17 else if(f k).nonce<n then 20 else if 1099511627776≤n then 2 else 0
def AN(f:Fb)(k:Dg)(n:Int):Fb:=if Dq f k n=0 then I8 f k ⟨(f k).money,(f k).nonce+1⟩ else f
def I9(f:Fb)(a:Dg)(l:List UInt8):Int:=match l with
 |[]=>3
 |u::_=>if FC f a (u.toNat:Int)≠0 then FC f a (u.toNat:Int) else if u=13 then 10 else 0
def PX(f:Fb)(a:Dg)(l:List UInt8):Fb:=match l with
 |[]=>f
 |u::_=>Gr f a sG (u.toNat:Int)
def lY(f:Fb)(t:Tx):Int:=if t.kind=0 then(if dQ t.body≠0 then dQ t.body else FC f t.frm (iM t.body)) else I9 f t.frm t.body
def qh(f:Fb)(t:Tx):Fb:=if t.kind=0 then(if dQ t.body≠0 then f else Gr f t.frm (jC t.body) (iM t.body)) else if I9 f t.frm t.body=0 then PX f t.frm t.body else f
def oW(a:Tl)(f:Fb)(h:Int)(t:Tx):Tl:=if t.kind=0 then a else if I9 f t.frm t.body=0 then DT a h t.frm t.kind t.body else a
def fq(f:Fb)(t:Tx):Int:=if Dq f t.frm t.non≠0 then Dq f t.frm t.non else FC (AN f t.frm t.non) t.frm t.fee
def jk(f:Fb)(mk:Dg)(t:Tx):Fb:=Gr (AN f t.frm t.non) t.frm mk t.fee
theorem wy(m:Bk)(k:Dg)(p:Pu):cg (gJ m k p)=I8 (cg m) k p:=funext (fun x=>nc m k x p)
theorem Gs(m:Bk)(a b:Dg)(n:Int):cg (lP m a b n)=Gr (cg m) a b n:=by
 unfold lP Gr
 show cg (if lz m a n=0∧a≠b then _ else m)=if lz m a n=0∧a≠b then _ else _
 split
 ·rw[wy,wy]
 ·rfl
theorem Jp(m:Bk)(k:Dg)(n:Int):cg (ou m k n)=AN (cg m) k n:=by
 unfold ou AN
 show cg (if qN m k n=0 then _ else m)=if qN m k n=0 then _ else _
 split
 ·rw[wy]
 ·rfl
theorem F5(m:Bk)(a:Dg)(l:List UInt8):xD m a l=I9 (cg m) a l:=by cases l<;>rfl
theorem NY(m:Bk)(a:Dg)(l:List UInt8):cg (Fv m a l)=PX (cg m) a l:=by
 cases l
 ·rfl
 ·exact Gs _ _ _ _
theorem I0(m:Bk)(h:Int)(t:Tx):sZ m h t=lY (cg m) t:=by
 unfold sZ lY
 rw[F5]
 rfl
theorem I2(m:Bk)(h:Int)(t:Tx):cg (od m h t)=qh (cg m) t:=by
 unfold od qh
 rw[F5]
 split
 ·split
  ·rfl
  ·exact Gs _ _ _ _
 ·split
  ·exact NY _ _ _
  ·rfl
theorem I1(a:Tl)(m:Bk)(h:Int)(t:Tx):nf a m h t=oW a (cg m) h t:=by
 unfold nf oW
 rw[F5]
structure jM(T:Int)(n:Nat)(m:Bk)(f:Fb):Prop where
 ok:Ok T 1099511627776 m
 len:m.length≤n
 eq:cg m=f
theorem jM.uD{T:Int}{n:Nat}{m:Bk}{f:Fb}(h:jM T n m f)(hT:T≤1000000000):Good m:=h.ok.uD (by omega) (by omega) (by omega)
theorem jM.perm{T:Int}{n:Nat}{m m':Bk}{f:Fb}(h:jM T n m f)(hp:m'.Perm m):jM T n m' f:=⟨(h.ok.perm hp).1,by rw[hp.length_eq];exact h.len,(funext (h.ok.perm hp).2).trans h.eq⟩
theorem jM.mono{T:Int}{n n':Nat}{m:Bk}{f:Fb}(h:jM T n m f)(hn:n≤n'):jM T n' m f:=⟨h.ok,Nat.le_trans h.len hn,h.eq⟩
theorem AO{m:Bk}{k:Dg}{n:Int}(h:qN m k n=0):(cg m k).nonce=n∧n<1099511627776:=by
 unfold qN at h
 repeat' split at h
 all_goals first|(cases h;done)|omega
theorem jM.use{T:Int}{n:Nat}{m:Bk}{f:Fb}(h:jM T n m f)(k:Dg)(i:Int):jM T (n+2) (ou m k i) (AN f k i):=by
 refine⟨?_,Nat.le_trans (wG m k i) (Nat.add_le_add_right h.len 2),by rw[Jp,h.eq]⟩
 have hk:=h.ok.bnd (by omega) k
 unfold ou
 by_cases e:qN m k i=0
 ·rw[if_pos e]
  obtain⟨e1,e2⟩:=AO e
  have h1:=h.ok.put (Int.le_refl _) k ⟨(cg m k).money,(cg m k).nonce+1⟩ hk.1 ⟨by simp only;omega,by simp only;omega⟩
  simp only at h1
  have:T-(cg m k).money+(cg m k).money=T:=by omega
  rw[this] at h1
  exact h1
 ·rw[if_neg e]
  exact h.ok
theorem jM.move{T:Int}{n:Nat}{m:Bk}{f:Fb}(h:jM T n m f)(a b:Dg)(i:Int):jM T (n+2) (lP m a b i) (Gr f a b i):=
 ⟨h.ok.move (by omega) a b i,Nat.le_trans (uv m a b i) (Nat.add_le_add_right h.len 2),by rw[Gs,h.eq]⟩
theorem jM.SL{T:Int}{n:Nat}{m:Bk}{f:Fb}(h:jM T n m f)(mk:Dg)(t:Tx):jM T (n+4) (Oh m mk t) (jk f mk t):=(h.use t.frm t.non).move t.frm mk t.fee
theorem jM.ask{T:Int}{n:Nat}{m:Bk}{f:Fb}(h:jM T n m f)(i:Int)(t:Tx):jM T (n+2) (od m i t) (qh f t):=by
 have key:∀{m':Bk},m'=od m i t→(m'=m∨∃b j,m'=lP m t.frm b j)→jM T (n+2) m' (qh f t):=fun{m'} e hh=>by
  have ef:cg m'=qh f t:=by rw[e,I2,h.eq]
  rcases hh with rfl|⟨b,j,rfl⟩
  ·exact⟨h.ok,Nat.le_trans h.len (Nat.le_add_right _ _),ef⟩
  ·have:=h.move t.frm b j
   exact⟨this.ok,this.len,ef⟩
 refine key rfl ?_
 unfold od
 split
 ·split
  ·exact Or.inl rfl
  ·exact Or.inr ⟨_,_,rfl⟩
 ·split
  ·unfold Fv
   split
   ·exact Or.inl rfl
   ·exact Or.inr ⟨_,_,rfl⟩
  ·exact Or.inl rfl
theorem Hh(a:Tl)(f:Fb)(h:Int)(t:Tx):(oW a f h t).n≤a.n+1:=by
 unfold oW
 split
 ·omega
 ·split
  ·unfold DT
   split
   ·omega
   ·exact Nat.le_refl _
  ·omega
end
section
def Je(Ts:List TypeId)(A:List Nat)(b:Nat):Obj→Prop
 | .cells _ T _=>T∈Ts
 | .map _ _=>b∈A
 |_=>True
def dt(n:Nat)(Ts:List TypeId)(A:List Nat)(w:World)(S:List Nat):Prop:=
 ∀b∈S,n≤b∧(w.heap.size≤b∨∃o,w.heap[b]?=some o∧Je Ts A b o)
def Kt(n:Nat)(Ts:List TypeId)(A:List Nat)(w w':World):Prop:=∃S,Kp S w w'∧dt n Ts A w S
theorem dt.nil{n:Nat}{Ts:List TypeId}{A:List Nat}{w:World}:dt n Ts A w []:=fun _ h=>by cases h
theorem dt.app{n:Nat}{Ts:List TypeId}{A:List Nat}{w:World}{S S':List Nat}(h:dt n Ts A w S)(h':dt n Ts A w S'):dt n Ts A w (S++S'):=fun b hb=>(List.mem_append.1 hb).elim (h b) (h' b)
theorem dt.obj{n:Nat}{Ts:List TypeId}{A:List Nat}{w:World}{b:Nat}{o:Obj}(hn:n≤b)(h:aF w b o)(hT:Je Ts A b o):dt n Ts A w [b]:=fun z hz=>by
 rw[List.mem_singleton] at hz
 subst hz
 exact⟨hn,Or.inr ⟨o,h,hT⟩⟩
theorem dt.cells{n:Nat}{Ts:List TypeId}{A:List Nat}{w:World}{b:Nat}{cs:Array Value}{T:TypeId}(hn:n≤b)(h:aF w b (.cells cs T))(hT:T∈Ts):dt n Ts A w [b]:=dt.obj hn h hT
theorem dt.map{n:Nat}{Ts:List TypeId}{A:List Nat}{w:World}{b:Nat}{κ ν:Type}{enc:κ→Value}{V:ν→Value}{m:List (κ×ν)}(hn:n≤b)(h:aE w b enc V m)(hA:b∈A):dt n Ts A w [b]:=by
 obtain⟨es,c,hb⟩:=h.blk
 exact dt.obj hn hb hA
theorem dt.own{n m sz base:Nat}{Ts:List TypeId}{A:List Nat}{w:World}{T:TypeId}{v:Value}{xs:List Value}(ho:w.ownsRow base T sz v m xs)(hn:n≤base)(hT:T∈Ts):dt n Ts A w (aP v):=fun b hb=>by
 have hb':=aH hb
 refine⟨Nat.le_trans hn (cp ho b hb'),Or.inr ?_⟩
 rcases ho.2 with⟨rfl,_⟩|⟨g,cap,cur,rfl,_,hg,_⟩
 ·cases hb'
 ·simp only[Value.ownBlock,Option.some.injEq] at hb'
  subst hb'
  exact⟨_,hg,hT⟩
theorem dt.no{n:Nat}{Ts:List TypeId}{A:List Nat}{w:World}{S:List Nat}(h:dt n Ts A w S){b:Nat}{o:Obj}(hb:aF w b o)(ho:¬Je Ts A b o):b∉S:=fun hm=>by
 rcases(h b hm).2 with g|⟨o',g,g'⟩
 ·have:=hb.lt
  omega
 ·rw[aF.uniq hb g] at ho
  exact ho g'
theorem dt.not{n:Nat}{Ts:List TypeId}{A:List Nat}{w:World}{S:List Nat}(h:dt n Ts A w S){T:TypeId}(hT:T∉Ts):dX T n w S:=fun b hb=>⟨(h b hb).1,fun cs f e=>h.no e hT hb⟩
theorem dt.blk{n:Nat}{Ts:List TypeId}{A:List Nat}{w w':World}{S:List Nat}(h:dt n Ts A w S)(hk:Kp S w w'){b:Nat}{cs:Array Value}{T:TypeId}(hB:aF w b (.cells cs T))(hT:T∉Ts):aF w' b (.cells cs T):=hB.kp hk (h.no hB hT)
theorem dt.wD{n:Nat}{Ts:List TypeId}{A:List Nat}{w w':World}{S:List Nat}(h:dt n Ts A w S)(hk:Kp S w w'){κ ν:Type}{b:Nat}{enc:κ→Value}{V:ν→Value}{m:List (κ×ν)}(hM:aE w b enc V m)(hA:b∉A):aE w' b enc V m:=by
 obtain⟨es,c,hb⟩:=hM.blk
 exact hM.kp hk (h.no hb hA)
end
section
section
variable {P:Program} {L:Env} {ty:TypeId} {pos:String} {af:Array Edge} {g:Option (Nat×Bool)} {S:List Nat} {w0:World} {ops:List Oper} {gh:List Nat} {K:Env→(World→Prop)→(World→Prop)→Prop} {j:Nat} {ord:List Nat} {F R0:World→Prop}
theorem aI.C7{base:Nat}{t e:TypeId}{i:TypeInfo}[u:Ut P t (.slice e)][f:dp P e i]{z:Value}{d:Nat}{s x:Operand}{v:Value}{nn:Nat}{xs:List Value}{b off m c:Nat}{news:List Value}
  (ho:ops[j]?=some ⟨some d,.call {callee:= .builtin .append,args:= #[s,x],argTypes:= #[t,t]},ty,pos,af,g⟩) (hw:want ops L ⟨some d,.call {callee:= .builtin .append,args:= #[s,x],argTypes:= #[t,t]},ty,pos,af,g⟩=some true) (hg:gh.elem j=true) (hk:(known L s&&known L x)=true)
  (hs:bB L s=v) (hx:bB L x= .slice (some ⟨b,off,none⟩) m c) (hz:i.zero=some z) (hzs:Nat.beq z.cells.size i.size=true) (hsz:Nat.blt 0 i.size=true) (hr:∀w,Kp S w0 w→F w→Row w b off news) (hl:news.length=m*i.size) (h1:bF news=true)
  (h63:nn+m≤maxLen) (hbytes:(nn+m)*i.bytes≤140737488355328) (hbase:base≤w0.heap.size) (hS:∀b∈aP v,b∈S) (hFo:∀w w',w.ownsRow base e i.size v nn xs→Kp (aP v) w w'→R0 w→F w→F w')
  (hR1:cm [] R0) (hR0:∀w w',w.ownsRow base e i.size v nn xs→Kp (aP v) w w'→R0 w→R0 w')
  (h:∀v',aI P S w0 ops gh K ord ((d,v')::L) (fun w=>F w∧∀g,v'.ownBlock=some g→v.ownBlock=some g∨w0.heap.size≤g) (fun w=>R0 w∧w.ownsRow base e i.size v' (nn+m) (xs++news))):
  aI P S w0 ops gh K (j::ord) L F (fun w=>R0 w∧w.ownsRow base e i.size v nn xs):=by
 refine aI.j7 (X:=Value) (fun v'=>v') (fun v' _=>∀g,v'.ownBlock=some g→v.ownBlock=some g∨w0.heap.size≤g) (fun v' w=>R0 w∧w.ownsRow base e i.size v' (nn+m) (xs++news)) ho hw hg (by simpa[Op.operands,Call.operands] using hk) (fun _ _ _ _ h=>h) (fun v' w w' hk h=>⟨hR1 _ _ hk h.1,aT h.2 hk⟩) (fun w hk1 hF hown=>?_) h
 obtain⟨hR,hown⟩:=hown
 have hrow:=hr w hk1 hF
 have hb:base≤w.heap.size:=Nat.le_trans hbase hk1.size
 obtain⟨v',w',h2,h3,h4⟩:=fb (P:=P) (ty:=ty) (d:= .bool) (c:=c) (u:=u) (f:=f) hz (Nat.eq_of_beq_eq_true hzs) (by simpa[Nat.blt_eq] using hsz) hown hl hrow h1 h63 hbytes hb
 have hwh:=jx (P:=P) (ty:=ty) (c:=c) (u:=u) (f:=f) hz hown hl hrow h1 h63 hbytes h2
 unfold bh
 have:(execOp (bB L) ⟨some d,.call {callee:= .builtin .append,args:= #[s,x],argTypes:= #[t,t]},ty,pos,af,g⟩).run P w= .ok (.value v') w':=by
  simp only[execOp,resolve,invoke,builtin,Sem.run_bind,Sem.run_pure,Result.andThen_ok,List.map_toArray,List.map_cons,List.map_nil,hs,hx,h2]
 rw[this]
 refine⟨v',rfl,⟨hFo _ _ hown h4 hR hF,fun g hg=>?_⟩,⟨hR0 _ _ hown h4 hR,h3⟩,hk1.trans (h4.mono hS)⟩
 rcases hwh g hg with h|h
 ·exact Or.inl h
 ·exact Or.inr (by rw[h];exact hk1.size)
theorem aI.G2{R:World→Prop}{X:Type}{d:Nat}{f:FuncId}[bQ P f]{args:List Operand}{vs:List Value}{tys:Array TypeId}(val:X→Value)(F' R':X→World→Prop)
  (ho:ops[j]?=some ⟨some d,.call ⟨.value (.func f),args.toArray,tys⟩,ty,pos,af,g⟩) (hw:want ops L ⟨some d,.call ⟨.value (.func f),args.toArray,tys⟩,ty,pos,af,g⟩=some true) (hg:gh.elem j=true) (hk:(Op.call ⟨.value (.func f),args.toArray,tys⟩).operands.toList.all (known L)=true)
  (he:bz L args vs) (hF:∀x,cm [] (F' x)) (hR:∀x,cm [] (R' x)) (hc:∀w,Kp S w0 w→F w→R w→Calls P f vs.toArray w (fun e w'=>∃x,e= .returned (val x)∧(F w'∧F' x w')∧R' x w'∧Kp S w w'))
  (hd:∀x,aI P S w0 ops gh K ord ((d,val x)::L) (fun w=>F w∧F' x w) (R' x)):aI P S w0 ops gh K (j::ord) L F R:=
 aI.j7 val F' R' ho hw hg hk hF hR (fun w h1 h2 h3=>fj (by rw[he.arr];exact(hc w h1 h2 h3).mono (fun e w' ⟨x,g1,g2,g3,g4⟩=>⟨val x,g1,x,rfl,g2,g3,h1.trans g4⟩))) hd
theorem aI.G4{R:World→Prop}{d:Nat}{T E:TypeId}{b:Nat}{parts:List (Nat×Operand)}{vs:List (Nat×Value)}{cs:Array Value}
  (ho:ops[j]?=some ⟨some d,.buildSlice T b parts.toArray,ty,pos,af,g⟩) (hw:want ops L ⟨some d,.buildSlice T b parts.toArray,ty,pos,af,g⟩=some true) (hg:gh.elem j=true) (hk:(Op.buildSlice T b parts.toArray).operands.toList.all (known L)=true)
  (he:(parts.map fun p=>(p.1,bB L p.2))=vs) (hrun:∀w:World,(Instr.buildSlice T b vs.toArray).run P w= .ok (.slice (some ⟨w.heap.size,0,none⟩) b b) {w with heap:=w.heap.push (.cells cs E)}) (hFs:cm [] F) (hRs:cm [] R)
  (h:∀bn,aI P S w0 ops gh K ord ((d,.slice (some ⟨bn,0,none⟩) b b)::L) (fun w=>F w∧(w0.heap.size≤bn∧aF w bn (.cells cs E))) R):aI P S w0 ops gh K (j::ord) L F R:=by
 refine aI.j7 (X:=Nat) (fun bn=> .slice (some ⟨bn,0,none⟩) b b) (fun bn w=>w0.heap.size≤bn∧aF w bn (.cells cs E)) (fun _=>R) ho hw hg hk (fun bn w w' hk h=>⟨h.1,h.2.ay hk⟩) (fun _=>hRs) (fun w hk1 hF hR=>?_) h
 unfold bh
 have e:(parts.toArray.map fun(p:Nat×Operand)=>(p.1,bB L p.2))=vs.toArray:=by simp[he]
 have:(execOp (bB L) ⟨some d,.buildSlice T b parts.toArray,ty,pos,af,g⟩).run P w= .ok (.value (.slice (some ⟨w.heap.size,0,none⟩) b b)) {w with heap:=w.heap.push (.cells cs E)}:=by
  simp only[execOp,e,Sem.run_bind,hrun w,Result.andThen,Sem.run_pure]
 rw[this]
 have hp:=Kp.push w (.cells cs E) rfl
 exact⟨w.heap.size,rfl,⟨hFs _ _ hp hF,hk1.size,aF.push w _⟩,hRs _ _ hp hR,hk1.trans hp.any⟩
theorem SB{d:Nat}{T:TypeId}{x:Operand}[c:cR P T]{b off:Nat}{v:Value}(hx:ro L x=some (.pointer (some ⟨b,off,none⟩)))(hr:∀w,F w→Row w b off [v]):aK P S w0 F L ⟨some d,.load T x,ty,pos,af,g⟩ v:=fun w _ hF=>
 bf (S:=[]) (w0:=w) (F:=fun _=>True) hx (hr w hF) List.not_mem_nil w (Kp.refl _ _) trivial
end
end
section
def oM(f:Fb)(mk:Dg)(t:Tx):Fb:=if fq f t=0 then qh (jk f mk t) t else AN f t.frm t.non
def dot(a:Tl)(f:Fb)(h:Int)(mk:Dg)(t:Tx):Tl:=if fq f t=0 then oW a (jk f mk t) h t else a
def mc(es:List Int)(f:Fb)(mk:Dg)(t:Tx):List Int:=if fq f t=0 then es++[lY (jk f mk t) t] else es
def TR(w:World)(base:Nat)(T:TypeId)(ps:List Value)(bs bm:Nat)(f:Fb)(t:Tl)(v:Value)(es:List Int)(h:Int)(mk:Dg)(x:Tx)(tot:Int)(n:Nat)(e:Ending)(w':World):Prop:=
 ∃bk' bm' tb' v' m',e= .returned (.int .i64 (fq f x))∧fu w' T ps bs bk' bm' tb' m' (dot t f h mk x) v'∧jM tot (n+6) m' (oM f mk x)∧w'.ownsRow base 36 1 v' (mc es f mk x).length (bO tt (mc es f mk x))∧Kp (bs::bm::aP v) w w'∧(bm'=bm∨w.heap.size≤bm')∧(∀g,v'.ownBlock=some g→v.ownBlock=some g∨w.heap.size≤g)
theorem Pv(n:Int)(w:World):(Instr.buildSlice 114 1 #[(0,.int .i64 n)]).run Tryz.prog w= .ok (.slice (some ⟨w.heap.size,0,none⟩) 1 1) {w with heap:=w.heap.push (.cells #[.int .i64 n] 36)}:=by kernel_rfl
theorem gF{w:World}{base k sz:Nat}{T:TypeId}{v:Value}{xs:List Value}(h:w.ownsRow base T sz v k xs):∃a c,v= .slice a k c:=by
 rcases h.2 with⟨rfl,h0⟩|⟨g',cap,cur,rfl,_⟩
 ·have:k=0:=h0
  subst this
  exact⟨_,_,rfl⟩
 ·exact⟨_,_,rfl⟩
theorem kF{κ ν:Type}{enc:κ→Value}{V:ν→Value}{m:List (κ×ν)}{w:World}{base k sz b:Nat}{T:TypeId}{v:Value}{xs:List Value}(ho:w.ownsRow base T sz v k xs)(hm:aE w b enc V m):∀g,v.ownBlock=some g→g∉[b]:=fun g hg=>bP (fun e=>by
 rcases ho.2 with⟨rfl,_⟩|⟨g',cap,cur,rfl,_,hg',_⟩
 ·cases hg
 ·simp only[Value.ownBlock,Option.some.injEq] at hg
  exact eB hg' hm (hg.trans e).symm)
theorem fu.gd{w w':World}{bs bk bm tb base k sz:Nat}{m:Bk}{t:Tl}{v v':Value}{T:TypeId}{ps xs:List Value}(h:fu w T ps bs bk bm tb m t v)(ho:w.ownsRow base 36 sz v' k xs)(hT:T≠36)(hk:Kp (aP v') w w'):fu w' T ps bs bk bm tb m t v:=by
 have key:∀{b:Nat} {cs:Array Value} {T':TypeId},T'≠36→aF w b (.cells cs T')→b∉aP v':=fun hT' hB hm=>(dX.own ho (Nat.le_refl _) (fun e=>hT' e.symm) _ hm).2 _ _ hB
 exact⟨h.blk.kp hk (key hT h.blk),⟨h.book.blk.kp hk (key (by decide) h.book.blk),h.book.map.kp hk (fun hm=>kF ho h.book.map _ (aH hm) (List.mem_singleton.2 rfl))⟩,h.app.kp hk (key (by decide) h.app)⟩
theorem C6{w:World}{n0 bs bk bm tb:Nat}{m:Bk}{t:Tl}{v:Value}{T:TypeId}{ps:List Value}{f:Fb}{tot:Int}{n:Nat}(hs:fu w T ps bs bk bm tb m t v)(hb:jM tot n m f)(ht:tot≤1000000000){x:Tm}(hx:x.In n0 w)(h:Int)(htn:t.n≤1000000):
  Calls Tryz.prog 121 #[.pointer (some ⟨bs,0,none⟩),.int .i64 h,eR x] w (fun e w'=>∃bk' bm' tb' m',e= .returned (.int .i64 (lY f x.t))∧fu w' T ps bs bk' bm' tb' m' (oW t f h x.t) v∧jM tot (n+2) m' (qh f x.t)∧Kp [bs,bm] w w'∧(bm'=bm∨w.heap.size≤bm')):=by
 have key:∀{e:Ending} {w':World},Ho w T ps bs bk bm tb m t v h x.t e w'→∃bk' bm' tb' m',e= .returned (.int .i64 (lY f x.t))∧fu w' T ps bs bk' bm' tb' m' (oW t f h x.t) v∧jM tot (n+2) m' (qh f x.t)∧Kp [bs,bm] w w'∧(bm'=bm∨w.heap.size≤bm'):=fun{e w'} hh=>by
  obtain⟨bk',bm',tb',m1,hp,he,hs',hk,hc⟩:=hh
  have h1:=hb.perm hp
  refine⟨bk',bm',tb',_,by rw[he,I0,h1.eq],by rw[←h1.eq,←I1];exact hs',h1.ask h x.t,hk,?_⟩
  rcases hc with hc|hc
  ·exact Or.inl hc.2.1
  ·exact Or.inr hc.2.1
 by_cases hk:x.t.kind=0
 ·exact(ve hs (hb.uD ht) hx h hk).mono (fun _ _=>key)
 ·exact(sY hs (hb.uD ht) hx h hk htn).mono (fun _ _=>key)
theorem Gh{f:Fb}{x:Tx}(h:Dq f x.frm x.non≠0):fq f x=Dq f x.frm x.non:=by unfold fq;rw[if_pos h]
theorem HZ{f:Fb}{x:Tx}(h:Dq f x.frm x.non=0):fq f x=FC (AN f x.frm x.non) x.frm x.fee:=by unfold fq;rw[if_neg (fun g=>g h)]
theorem fu.Dz{w w':World}{bs bk bm tb:Nat}{m:Bk}{t:Tl}{v:Value}{T:TypeId}{ps:List Value}(h:fu w T ps bs bk bm tb m t v)(v':Value){ps':List Value}(hk:Kp [bs] w w')(hB:aF w' bs (.cells (G8 bk tb v' ps').toArray T))(h1:T≠136)(h2:T≠76):fu w' T ps' bs bk bm tb m t v':=by
 have ne:∀{b:Nat} {cs:Array Value} {T':TypeId},T≠T'→aF w b (.cells cs T')→b∉[bs]:=fun hT' hB'=>bP (fun e=>by
  subst e
  have:=h.blk.uniq hB'
  simp only[Obj.cells.injEq] at this
  exact hT' this.2.1)
 exact⟨hB,⟨h.book.blk.kp hk (ne h1 h.book.blk),h.book.map.kp hk (bP (fun e=>eB h.blk h.book.map e))⟩,h.app.kp hk (ne h2 h.app)⟩
attribute [local irreducible] CG NG SG aK aI Row aF aE aM fq jk lY qh oW Dq AN FC Gr qN ou lz lP
theorem yl{w:World}{n0 base bs bk bm tb:Nat}{m:Bk}{t:Tl}{v:Value}{T:TypeId}{ps:List Value}{f:Fb}{tot:Int}{n:Nat}{es:List Int}(hs:fu w T ps bs bk bm tb m t v)(hb:jM tot n m f)(ht:tot≤1000000000)(ho:w.ownsRow base 36 1 v es.length (bO tt es))(hbase:base≤w.heap.size)(hn0:n0≤bm)(hel:es.length≤1000000)(hT:T≠36)(hT1:T≠136)(hT2:T≠76){x:Tm}(hx:x.In n0 w)(h:Int)(mk:Dg)(htn:t.n≤1000000):
  Calls Tryz.prog 73 #[.pointer (some ⟨bs,0,none⟩),.int .i64 h,dv mk,eR x] w (TR w base T ps bs bm f t v es h mk x.t tot n):=by
 refine nV Tryz.func73 rfl Tryz.ntmps73 rfl ?_
 have hlm:=hs.book.map.lt
 repeat apply aj
 refine SG.box rfl rfl rfl (ag rfl) (fun b6 w1 hk1 hb6 hB6=>?_)
 have hB6:aF w1 b6 (.cells (dc mk).toArray 47):=hB6
 refine SG.box rfl rfl rfl (ag rfl) (fun b7 w2 hk2 hb7 hB7=>?_)
 have hB7:aF w2 b7 (.cells (bV x).toArray 52):=hB7
 have k2:=hk1.trans hk2
 have q6:Row w2 b6 0 (dc mk):=Row.all (hB6.ay hk2) rfl
 obtain⟨q,q0,q1,q2,q3,q4,q5⟩:=aZ hB7
 obtain⟨r0,-,r2⟩:=fU (hs.ay k2).blk
 repeat (first|apply aj|(apply ar;rfl;apply aD<;>rfl))
 refine CG.tail mixed 8 [0,1,2,3,4,5,6,7] (by kernel_rfl) ?_
 repeat (apply bZ;rfl;rfl;(first|apply az|apply bf|apply bj|apply aW|apply bM)<;>first|rfl|assumption|exact List.not_mem_nil|apply ah)
 refine aI.tl (fun w3 hk3 _ _=>?_)
 have k3:=k2.trans hk3
 have hs3:=hs.ay k3
 refine SG.call rfl rfl rfl (vs:=[.pointer (some ⟨bk,0,none⟩),dv x.t.frm,.int .i64 x.t.non]) (bz.of rfl) ((zT hs3.book (hb.uD ht) x.t.frm x.t.non).mono (fun e w4 hh=>?_))
 obtain⟨he,hB4,hk4⟩:=hh
 have eu:qN m x.t.frm x.t.non=Dq f x.t.frm x.t.non:=by rw[←hb.eq];unfold qN Dq;rfl
 rw[eu] at he
 refine⟨_,he,?_⟩
 clear he q r0 q0 q1 q2 q3 q4 q5 r2 q6
 have hs4:fu w4 T ps bs bk bm tb (ou m x.t.frm x.t.non) t v:=hs3.CY hk4 hB4
 have hb4:jM tot (n+2) (ou m x.t.frm x.t.non) (AN f x.t.frm x.t.non):=hb.use x.t.frm x.t.non
 have k4:Kp (bs::bm::aP v) w w4:=k3.any.trans (hk4.mono (fun z hz=>by rw[List.mem_singleton] at hz;rw[hz];simp))
 have hO4:=kF ho hs.book.map
 have ho4:=bW (aT ho k3) hk4 hO4
 have hB7:=(hB7.ay hk3).kp hk4 (bP (by have:=hk1.size;omega))
 have q6:Row w4 b6 0 (dc mk):=Row.all (((hB6.ay hk2).ay hk3).kp hk4 (bP (by omega))) rfl
 by_cases hz:Dq f x.t.frm x.t.non=0
 rotate_left
 ·have ep:=Gh hz
  have e1:oM f mk x.t=AN f x.t.frm x.t.non:=by unfold oM;rw[if_neg (by rw[ep];exact hz)]
  have e2:dot t f h mk x.t=t:=by unfold dot;rw[if_neg (by rw[ep];exact hz)]
  have e3:mc es f mk x.t=es:=by unfold mc;rw[if_neg (by rw[ep];exact hz)]
  repeat (first|apply aj|(apply ar;rfl;(first|apply az|apply aD|apply dK)<;>first|rfl|(apply bN;first|assumption|omega)))
  refine bL rfl ?_
  repeat (first|apply aj|(apply ar;rfl;(first|apply az|apply aD)<;>rfl))
  refine aO (Or.inl rfl) Tryz.results73 (aC.tmp rfl) ?_
  exact⟨bk,bm,tb,v,_,by rw[ep],by rw[e2];exact hs4,by rw[e1];exact hb4.mono (by omega),by rw[e3];exact ho4,k4,Or.inl rfl,fun _ hg=>Or.inl hg⟩
 have ep:=HZ hz
 rw[hz]
 obtain⟨q,q0,q1,q2,q3,q4,q5⟩:=aZ hB7
 obtain⟨r0,-,r2⟩:=fU hs4.blk
 repeat (first|apply aj|(apply ar;rfl;(first|apply az|apply aD|apply dK)<;>first|rfl|(apply bK;first|assumption|omega)))
 refine bG rfl ?_
 repeat apply aj
 refine CG.tail mixed 9 [0,1,2,3,4,5,6,7,8] (by kernel_rfl) ?_
 repeat (apply bZ;rfl;rfl;(first|apply az|apply bf|apply bj|apply aW|apply bM)<;>first|rfl|assumption|exact List.not_mem_nil|apply ah)
 refine aI.tl (fun w5 hk5 _ _=>?_)
 have hs5:=hs4.ay hk5
 refine SG.call rfl rfl rfl (vs:=[.pointer (some ⟨bk,0,none⟩),dv x.t.frm,dv mk,.int .i64 x.t.fee]) (bz.of rfl) ((lX hs5.book (hb4.uD ht) x.t.frm mk x.t.fee).mono (fun e w6 hh=>?_))
 obtain⟨he,hB6',hk6⟩:=hh
 have eu:lz (ou m x.t.frm x.t.non) x.t.frm x.t.fee=fq f x.t:=by rw[ep,←hb4.eq];unfold lz FC;rfl
 rw[eu] at he
 refine⟨_,he,?_⟩
 clear he q r0 q0 q1 q2 q3 q4 q5 r2
 have hs6:fu w6 T ps bs bk bm tb (lP (ou m x.t.frm x.t.non) x.t.frm mk x.t.fee) t v:=hs5.CY hk6 hB6'
 have ho6:=bW (aT ho4 hk5) hk6 hO4
 have k6:Kp (bs::bm::aP v) w w6:=(k4.trans hk5.any).trans (hk6.mono (fun z hz=>by rw[List.mem_singleton] at hz;rw[hz];simp))
 have hb6:jM tot (n+4) (lP (ou m x.t.frm x.t.non) x.t.frm mk x.t.fee) (jk f mk x.t):=hb.SL mk x.t
 by_cases hz2:fq f x.t=0
 rotate_left
 ·have e0:lP (ou m x.t.frm x.t.non) x.t.frm mk x.t.fee=ou m x.t.frm x.t.non:=by unfold lP;rw[if_neg (fun g=>hz2 (eu.symm.trans g.1))]
  have e1:oM f mk x.t=AN f x.t.frm x.t.non:=by unfold oM;rw[if_neg hz2]
  have e2:dot t f h mk x.t=t:=by unfold dot;rw[if_neg hz2]
  have e3:mc es f mk x.t=es:=by unfold mc;rw[if_neg hz2]
  rw[e0] at hs6
  repeat (first|apply aj|(apply ar;rfl;(first|apply az|apply aD|apply dK)<;>first|rfl|(apply bN;first|assumption|omega)))
  refine bL rfl ?_
  repeat (first|apply aj|(apply ar;rfl;(first|apply az|apply aD)<;>rfl))
  refine aO (Or.inl rfl) Tryz.results73 (aC.tmp rfl) ?_
  exact⟨bk,bm,tb,v,_,rfl,by rw[e2];exact hs6,by rw[e1];exact hb4.mono (by omega),by rw[e3];exact ho6,k6,Or.inl rfl,fun _ hg=>Or.inl hg⟩
 have e1:oM f mk x.t=qh (jk f mk x.t) x.t:=by unfold oM;rw[if_pos hz2]
 have e2:dot t f h mk x.t=oW t (jk f mk x.t) h x.t:=by unfold dot;rw[if_pos hz2]
 have e3:mc es f mk x.t=es++[lY (jk f mk x.t) x.t]:=by unfold mc;rw[if_pos hz2]
 have hx6:x.In n0 w6:=(((hx.ay k3).gd hk4 (hs3.book.map.Er hn0)).ay hk5).gd hk6 (hs5.book.map.Er hn0)
 have hB7:=(hB7.ay hk5).kp hk6 (bP (by have:=hk1.size;omega))
 have q:=(aZ hB7).1
 obtain⟨-,-,r2⟩:=fU hs6.blk
 rw[hz2]
 repeat (first|apply aj|(apply ar;rfl;(first|apply az|apply aD|apply dK)<;>first|rfl|(apply bK;first|assumption|omega)))
 refine bG rfl ?_
 repeat apply aj
 have s6:=k6.size
 have hSl:∀z∈bs::bm::aP v,z<w6.heap.size:=fun z hz=>by
  rcases List.mem_cons.1 hz with rfl|hz
  ·exact hs6.blk.lt
  rcases List.mem_cons.1 hz with rfl|hz
  ·exact hs6.book.map.lt
  ·exact cD ho6 z (aH hz)
 have nb7:b7∉bs::bm::aP v:=fun hm=>by
  rcases List.mem_cons.1 hm with e|hm
  ·have:=hs.blk.lt;have:=hk1.size;omega
  rcases List.mem_cons.1 hm with e|hm
  ·have:=hk1.size;omega
  ·have:=cD ho b7 (aH hm);have:=hk1.size;omega
 refine CG.HI mixed 11 [0,1,2,3,4,5,6,7,8,9,10] [8,9,10] (bs::bm::aP v) (fun w=>Row w bs 2 [v]) (fun w=>(fu w T ps bs bk bm tb (lP (ou m x.t.frm x.t.non) x.t.frm mk x.t.fee) t v∧x.In n0 w)∧w.ownsRow base 36 1 v es.length (bO tt es)) (by kernel_rfl) r2 (fun _ _ hk h=>h.ay hk) ⟨⟨hs6,hx6⟩,ho6⟩ (fun _ _ hk h=>⟨⟨h.1.1.ay hk,h.1.2.ay hk⟩,aT h.2 hk⟩) ?_
 clear r2
 iterate 4 (refine aI.val rfl rfl rfl (by first|((first|apply az|apply aW|apply bM)<;>(exact rfl))|fail) ?_)
 refine aI.val rfl rfl rfl (SB rfl (fun _ hF=>hF)) ?_
 iterate 2 (refine aI.val rfl rfl rfl (by first|(apply az<;>(exact rfl))|fail) ?_)
 refine aI.val rfl rfl rfl (bj rfl q nb7 (au _)) ?_
 refine aI.G2 (vs:=[.pointer (some ⟨bs,0,none⟩),.int .i64 h,eR x]) (X:=Nat×Nat×Nat×Bk) (fun _=> .int .i64 (lY (jk f mk x.t) x.t)) (fun q _=>jM tot (n+6) q.2.2.2 (qh (jk f mk x.t) x.t)∧(q.2.1=bm∨w.heap.size≤q.2.1)) (fun q W=>fu W T ps bs q.1 q.2.1 q.2.2.1 q.2.2.2 (oW t (jk f mk x.t) h x.t) v∧W.ownsRow base 36 1 v es.length (bO tt es)) rfl rfl rfl rfl (bz.of rfl) (fun _ _ _ _ h=>h) (fun _ _ _ hk h=>⟨h.1.ay hk,aT h.2 hk⟩) (fun W hk hF hR=>?_) (fun q=>?_)
 ·refine(C6 hR.1.1 hb6 ht hR.1.2 h htn).mono (fun e W' hh=>?_)
  obtain⟨bk',bm',tb',m',he,hs',hb',hk',hc⟩:=hh
  have hbW:=hR.1.1.blk
  exact⟨(bk',bm',tb',m'),he,⟨(fU hs'.blk).2.2,hb',hc.elim Or.inl (fun g=>Or.inr (Nat.le_trans s6 (Nat.le_trans hk.size g)))⟩,⟨hs',bW hR.2 hk' (fun g hg=>fG (fun e=>by subst e;exact(cK hR.2 hT hbW g hg) (List.mem_singleton.2 rfl)) (fun e=>by subst e;exact kF hR.2 hR.1.1.book.map g hg (List.mem_singleton.2 rfl)))⟩,hk'.mono (fun z hz=>by rcases List.mem_cons.1 hz with rfl|hz;simp;rw[List.mem_singleton] at hz;rw[hz];simp)⟩
 obtain⟨bk',bm',tb',m'⟩:=q
 refine aI.G4 (cs:= #[.int .i64 (lY (jk f mk x.t) x.t)]) (E:=36) rfl rfl rfl rfl rfl (fun W=>Pv _ W) (fun W W' hk h=>⟨h.1.ay hk,h.2⟩) (fun _ _ hk h=>⟨h.1.ay hk,aT h.2 hk⟩) (fun bn=>?_)
 apply aI.C7 (P:=Tryz.prog) (t:=114) (base:=base) (e:=36) (i:=Tryz.t36) (f:=ty.i36) (v:=v) (nn:=es.length) (xs:=bO tt es) (b:=bn) (off:=0) (m:=1) (c:=1) (news:=[.int .i64 (lY (jk f mk x.t) x.t)])
 iterate 4 exact rfl
 iterate 2 exact ag rfl
 iterate 3 exact rfl
 ·exact fun W hk hF=>Row.all hF.2.2 rfl
 ·exact rfl
 ·exact rfl
 ·simp only[maxLen];omega
 ·show(es.length+1)*8≤_;omega
 ·omega
 ·exact fun _ h=>by simp[h]
 ·exact fun W W' hoW hk hR hF=>⟨⟨(fU (hR.gd hoW hT hk).blk).2.2,hF.1.2⟩,hF.2.1,hF.2.2.kp hk (fun hm=>by have:=cD ho6 _ (aH hm);omega)⟩
 ·exact fun W W' hk h=>h.ay hk
 ·exact fun W W' hoW hk hR=>hR.gd hoW hT hk
 intro v7
 refine aI.tl (fun w7 hk7 hF hR=>?_)
 obtain⟨⟨⟨-,hb7',hc7⟩,hbn,hBn⟩,hv7⟩:=hF
 obtain⟨hs7,ho7⟩:=hR
 have eel:(es++[lY (jk f mk x.t) x.t]).length=es.length+1:=by rw[List.length_append];rfl
 have ho7:w7.ownsRow base 36 1 v7 (es++[lY (jk f mk x.t) x.t]).length (bO tt (es++[lY (jk f mk x.t) x.t])):=by
  rw[eel,dx,gp]
  exact ho7
 obtain⟨a7,c7,rfl⟩:=gF ho7
 repeat (apply ar;rfl;(first|apply aW|apply bM)<;>rfl)
 refine SG.cr [.pointer (some ⟨bk',0,none⟩),.iface 74 (.pointer (some ⟨tb',0,none⟩))] [v] ps rfl rfl (ag rfl) (ag rfl) hs7.blk rfl rfl rfl rfl rfl (fun w8 hk8 hB8=>?_)
 have hs8:=hs7.Dz _ hk8 hB8 hT1 hT2
 repeat (first|apply aj|(apply ar;rfl;apply aD<;>rfl))
 refine aO (Or.inl rfl) Tryz.results73 (aC.tmp rfl) ?_
 refine⟨bk',bm',tb',_,m',by rw[hz2],by rw[e2];exact hs8,by rw[e1];exact hb7',by rw[e3];exact bW ho7 hk8 (cK ho7 hT hs7.blk),(k6.trans hk7).trans (hk8.mono (fun z hz=>by rw[List.mem_singleton] at hz;rw[hz];simp)),hc7,fun g hg=>?_⟩
 rcases hv7 g hg with e|e
 ·exact Or.inl e
 ·exact Or.inr (by omega)
end
section
structure Bd where
 fork:Int
 leave:Int
 sleep:Int
def iT(b:Bd):List Value:=[.int .i64 b.fork,.int .i64 b.leave,.int .i64 b.sleep]
structure Nm where
 bk:Nat
 bm:Nat
 tb:Nat
 f:Fb
 t:Tl
 ae:Option Addr
 ce:Nat
 es:List Int
 x:Bm
 an:Option Addr
 cn:Nat
def Nm.sx(q:Nm):List Dg:=q.x.xs.map (fun x=>aR x.t)
def Om(q:Nm):List Value:=G8 q.bk q.tb (.slice q.ae q.es.length q.ce) (dq q.x++[.slice q.an q.x.xs.length q.cn])
def xV(q:Nm):Nat:=1000+400*q.x.ht.toNat
structure iV(w:World)(n:Nat)(A:List Nat)(tot:Int)(b:Nat)(q:Nm):Prop where
 blk:aF w b (.cells (Om q).toArray 118)
 book:∃m,bS w q.bk q.bm m∧jM tot (xV q) m q.f
 nA:q.bm∉A
 nb:n≤q.bm
 app:il w q.tb q.t
 ans:Sl tt 1 w q.ae q.es
 anT:Tg 36 n w q.ae q.es
 x:q.x.In n w
 nam:Sl dc 8 w q.an q.sx
 naT:Tg 47 n w q.an q.sx
 el:q.es.length=q.x.xs.length
def IM:List TypeId:=[118,136,76,36,47,5]
def CT:List TypeId:=[200,214,216]
theorem Tm.In.rI{n:Nat}{Ts:List TypeId}{A S:List Nat}{w w':World}{x:Tm}(h:x.In n w)(hk:Kp S w w')(hS:dt n Ts A w S)(hT:5∉Ts):x.In n w':=h.gd hk (hS.not hT)
theorem Bm.In.mn{n:Nat}{Ts:List TypeId}{A S:List Nat}{w w':World}{x:Bm}(h:x.In n w)(hk:Kp S w w')(hS:dt n Ts A w S)(hT:5∉Ts)(hT2:52∉Ts):x.In n w':=
 ⟨⟨(h.tx.sl.Al h.tx.tg hk (hS.not hT2)).1,(h.tx.sl.Al h.tx.tg hk (hS.not hT2)).2,fun y hy=>(h.tx.ins y hy).rI hk hS hT⟩,h.len⟩
theorem iV.kp{w w':World}{n:Nat}{Ts:List TypeId}{A A' S:List Nat}{tot:Int}{b:Nat}{q:Nm}(h:iV w n A tot b q)(hk:Kp S w w')(hS:dt n Ts A' w S)(hA:∀z∈A',z∈A)(hT:∀T∈IM,T∉Ts)(hx:q.x.In n w'):iV w' n A tot b q:=by
 obtain⟨m,hb,hi⟩:=h.book
 have t:∀{T:TypeId},T∈IM→dX T n w S:=fun hm=>hS.not (hT _ hm)
 exact⟨hS.blk hk h.blk (hT _ (by decide)),⟨m,⟨hS.blk hk hb.blk (hT _ (by decide)),hS.wD hk hb.map (fun g=>h.nA (hA _ g))⟩,hi⟩,h.nA,h.nb,hS.blk hk h.app (hT _ (by decide)),(h.ans.Al h.anT hk (t (by decide))).1,(h.ans.Al h.anT hk (t (by decide))).2,hx,(h.nam.Al h.naT hk (t (by decide))).1,(h.nam.Al h.naT hk (t (by decide))).2,h.el⟩
theorem iV.ay{w w':World}{n:Nat}{A:List Nat}{tot:Int}{b:Nat}{q:Nm}(h:iV w n A tot b q)(hk:Kp [] w w'):iV w' n A tot b q:=h.kp (Ts:=[]) (A':=[]) hk dt.nil (fun _ h=>by cases h) (fun _ _ h=>by cases h) (h.x.ay hk)
theorem eY{w:World}{b:Nat}{q:Nm}{T:TypeId}(h:aF w b (.cells (Om q).toArray T)):Row w b 0 (rK q.bk q.tb (.slice q.ae q.es.length q.ce))∧Row w b 2 [.slice q.ae q.es.length q.ce]∧Row w b 3 (dq q.x)∧Row w b 11 [.int .i64 q.x.ht]∧Row w b 20 [.slice q.x.a q.x.xs.length q.x.c]∧Row w b 21 [.slice q.an q.x.xs.length q.cn]∧Row w b 0 [.pointer (some ⟨q.bk,0,none⟩)]∧Row w b 1 [.iface 74 (.pointer (some ⟨q.tb,0,none⟩))]:=by
 have e:Om q=rK q.bk q.tb (.slice q.ae q.es.length q.ce)++(dq q.x++[.slice q.an q.x.xs.length q.cn]):=rfl
 have h1:=Row.of h [] (dq q.x++[.slice q.an q.x.xs.length q.cn]) (by rw[e,List.nil_append]) rfl
 have h3:=Row.of h (rK q.bk q.tb (.slice q.ae q.es.length q.ce)) [.slice q.an q.x.xs.length q.cn] (l:=dq q.x) (by rw[e]) rfl
 have h6:=Row.of h (rK q.bk q.tb (.slice q.ae q.es.length q.ce)++dq q.x) [] (l:=[.slice q.an q.x.xs.length q.cn]) (by rw[e,List.append_assoc,List.append_nil]) (by rw[List.length_append,aJ])
 obtain⟨-,h4,-,h5⟩:=nZ h3
 obtain⟨g0,g1,g2⟩:=fU h
 exact⟨h1,g2,h3,h4,h5,h6,g0,g1⟩
structure Cm where
 cb:Nat
 tb:Nat
 tm:Nat
 pb:Nat
 nm:Nat
 vb:Nat
 pv:Value
 bd:Bd
 first:Dg
 tr:Tr
 ps:List Em
 ns:List (Dg×Nat×Nm)
def Jn(c:Cm):List Value:=iT c.bd++(.iface 40 (.pointer (some ⟨c.vb,0,none⟩))::(dc c.first++[.pointer (some ⟨c.tb,0,none⟩),.pointer (some ⟨c.pb,0,none⟩),.map (some c.nm)]))
abbrev Du(q:Nat×Nm):Value:= .pointer (some ⟨q.1,0,none⟩)
structure cL(w:World)(n:Nat)(A:List Nat)(tot:Int)(c:Cm):Prop where
 blk:aF w c.cb (.cells (Jn c).toArray 127)
 tree:cj w c.tb c.tm c.tr
 pool:Pl w n c.pb c.pv 256 c.ps
 map:aE w c.nm (dv (n:=8)) Du c.ns
 nd:∀p∈c.ns,iV w n A tot p.2.1 p.2.2
 tA:c.tm∈A
 nA:c.nm∈A
 ne:c.tm≠c.nm
 tn:n≤c.tm
 nn:n≤c.nm
 bn:n≤c.tb
 w0:n≤w.heap.size
theorem cL.ay{w w':World}{n:Nat}{A:List Nat}{tot:Int}{c:Cm}(h:cL w n A tot c)(hk:Kp [] w w'):cL w' n A tot c:=
 ⟨h.blk.ay hk,h.tree.ay hk,h.pool.ay hk,h.map.ay hk,fun p hp=>(h.nd p hp).ay hk,h.tA,h.nA,h.ne,h.tn,h.nn,h.bn,Nat.le_trans h.w0 hk.size⟩
theorem cM{w:World}{n:Nat}{A:List Nat}{tot:Int}{c:Cm}(h:cL w n A tot c):Row w c.cb 0 (iT c.bd)∧Row w c.cb 0 [.int .i64 c.bd.fork]∧Row w c.cb 3 [.iface 40 (.pointer (some ⟨c.vb,0,none⟩))]∧Row w c.cb 4 (dc c.first)∧Row w c.cb 12 [.pointer (some ⟨c.tb,0,none⟩)]∧Row w c.cb 13 [.pointer (some ⟨c.pb,0,none⟩)]∧Row w c.cb 14 [.map (some c.nm)]:=by
 have h:=h.blk
 have l8:(dc c.first).length=8:=ah _
 refine⟨Row.of h [] (.iface 40 (.pointer (some ⟨c.vb,0,none⟩))::(dc c.first++[.pointer (some ⟨c.tb,0,none⟩),.pointer (some ⟨c.pb,0,none⟩),.map (some c.nm)])) rfl rfl,Row.of h [] (.int .i64 c.bd.leave:: .int .i64 c.bd.sleep:: .iface 40 (.pointer (some ⟨c.vb,0,none⟩))::(dc c.first++[.pointer (some ⟨c.tb,0,none⟩),.pointer (some ⟨c.pb,0,none⟩),.map (some c.nm)])) rfl rfl,Row.of h (iT c.bd) (dc c.first++[.pointer (some ⟨c.tb,0,none⟩),.pointer (some ⟨c.pb,0,none⟩),.map (some c.nm)]) rfl rfl,Row.of h (iT c.bd++[.iface 40 (.pointer (some ⟨c.vb,0,none⟩))]) [.pointer (some ⟨c.tb,0,none⟩),.pointer (some ⟨c.pb,0,none⟩),.map (some c.nm)] rfl rfl,?_,?_,?_⟩
 ·exact Row.of h (iT c.bd++(.iface 40 (.pointer (some ⟨c.vb,0,none⟩))::dc c.first)) [.pointer (some ⟨c.pb,0,none⟩),.map (some c.nm)] (by simp[Jn]) (by simp[iT,l8])
 ·exact Row.of h (iT c.bd++(.iface 40 (.pointer (some ⟨c.vb,0,none⟩))::(dc c.first++[.pointer (some ⟨c.tb,0,none⟩)]))) [.map (some c.nm)] (by simp[Jn]) (by simp[iT,l8])
 ·exact Row.of h (iT c.bd++(.iface 40 (.pointer (some ⟨c.vb,0,none⟩))::(dc c.first++[.pointer (some ⟨c.tb,0,none⟩),.pointer (some ⟨c.pb,0,none⟩)]))) [] (by simp[Jn]) (by simp[iT,l8])
end
section
def Am(b:Bd):Value:= .agg (iT b).toArray
def E8(b:Bd)(j:Nat):Int:=[b.fork,b.leave,b.sleep].getD j 0
def zV(z:Int):Prop:=z<0∨1024<z
instance(z:Int):Decidable (zV z):=by unfold zV;infer_instance
def yu(b:Bd):Int:=if zV b.fork∨zV b.leave∨zV b.sleep then 2 else 0
theorem Hd(b:Bd){j:Nat}(h:j<3):(iT b)[j]?=some (.int .i64 (E8 b j)):=by
 match j,h with
 |0,_=>rfl
 |1,_=>rfl
 |2,_=>rfl
theorem E6{b:Bd}{j:Nat}(h:j<3)(hb:zV (E8 b j)):yu b=2:=by
 unfold yu
 match j,h with
 |0,_=>exact if_pos (Or.inl hb)
 |1,_=>exact if_pos (Or.inr (Or.inl hb))
 |2,_=>exact if_pos (Or.inr (Or.inr hb))
theorem Hb{b:Bd}(h:∀j,j<3→¬zV (E8 b j)):yu b=0:=if_neg (fun g=>by
 rcases g with g|g|g
 ·exact h 0 (by omega) g
 ·exact h 1 (by omega) g
 ·exact h 2 (by omega) g)
theorem PL(b:Bd)(w:World):(Instr.build 165 #[(0,.int .i64 b.fork),(1,.int .i64 b.leave),(2,.int .i64 b.sleep)]).run Tryz.prog w= .ok (.agg (iT b).toArray) w:=by kernel_rfl
attribute [local irreducible] CG NG SG aK aI Row aF aE aM
theorem xp(b:Bd)(w:World):dz Tryz.prog 35 #[Am b] w (.int .i64 (yu b)):=by
 refine bA Tryz.func35 rfl Tryz.ntmps35 rfl ?_
 repeat apply aj
 refine SG.box rfl rfl rfl (ag rfl) (fun b1 w1 hk1 hb1 hB1=>?_)
 have hB1:aF w1 b1 (.cells (iT b).toArray 31):=hB1
 have r0:Row w1 b1 0 [.int .i64 b.fork]:=Row.of hB1 [] [.int .i64 b.leave,.int .i64 b.sleep] rfl rfl
 have r1:Row w1 b1 1 [.int .i64 b.leave]:=Row.of hB1 [.int .i64 b.fork] [.int .i64 b.sleep] rfl rfl
 have r2:Row w1 b1 2 [.int .i64 b.sleep]:=Row.of hB1 [.int .i64 b.fork,.int .i64 b.leave] [] rfl rfl
 repeat (first|apply aj|(apply ar;rfl;(first|apply aD|apply bf|apply aW)<;>first|rfl|assumption|exact List.not_mem_nil))
 refine SG.val rfl rfl rfl rfl (aG rfl (PL b)) ?_
 repeat (first|apply aj|(apply ar;rfl;apply az<;>rfl))
 refine CG.loop (X:=Nat) (fun q=>[(11,.agg (iT b).toArray),(12,.int .i64 (q:Int))])
  (fun q w'=>q≤3∧w'=w1∧∀j,j<q→¬zV (E8 b j)) (fun q=>3-q) 0 ⟨by omega,rfl,fun j h=>by omega⟩ (aS.of rfl) ?_
 rintro i w3 ⟨hi,rfl,hok⟩
 refine CG.to [(11,.agg (iT b).toArray),(12,.int .i64 (i:Int))] (aS.of rfl) ?_
 clear r0 r1 r2
 by_cases hlt:i<3
 ·have g1:(i:Int)<3:=by omega
  have hat:=Hd b hlt
  repeat (first|apply aj|(apply ar;rfl;apply cG<;>first|rfl|(apply bK;first|assumption|omega)))
  refine bL rfl ?_
  by_cases hz:zV (E8 b i)
  ·have hbad:=E6 hlt hz
   unfold zV at hz
   by_cases h1:E8 b i<0
   ·repeat (first|apply aj|(apply ar;rfl;(first|apply HX|apply az|apply aD|apply cu|apply cG)<;>first|rfl|(apply Ar.mk;omega)|assumption|(apply bK;first|assumption|omega))|refine SG.skip rfl rfl ?_)
    refine bL rfl ?_
    repeat (first|apply aj|(apply ar;rfl;apply aD<;>rfl))
    refine aO (Or.inl rfl) Tryz.results35 (aC.tmp rfl) ?_
    exact⟨by rw[hbad],hk1⟩
   ·have h2:1024<E8 b i:=by omega
    repeat (first|apply aj|(apply ar;rfl;(first|apply HX|apply az|apply aD|apply cu|apply cG|apply fW)<;>first|rfl|(apply Ar.mk;omega)|assumption|(apply bK;first|assumption|omega)|(apply bN;first|assumption|omega)))
    refine bL rfl ?_
    repeat (first|apply aj|(apply ar;rfl;apply aD<;>rfl))
    refine aO (Or.inl rfl) Tryz.results35 (aC.tmp rfl) ?_
    exact⟨by rw[hbad],hk1⟩
  ·have h1:¬E8 b i<0:=fun h=>hz (Or.inl h)
   have h2:¬1024<E8 b i:=fun h=>hz (Or.inr h)
   repeat (first|apply aj|(apply ar;rfl;(first|apply HX|apply az|apply aD|apply cu|apply cG|apply fW)<;>first|rfl|(apply Ar.mk;omega)|assumption|(apply bN;first|assumption|omega)))
   refine bG rfl ?_
   repeat (first|apply aj|(apply ar;rfl;(first|apply az|apply dG)<;>first|rfl|(apply Ar.mk;omega)))
   refine NG.round (i+1) (aS.of rfl) ⟨by omega,rfl,fun j hj=>?_⟩ (by omega)
   by_cases e:j=i
   ·rw[e];exact hz
   ·exact hok j (by omega)
 ·have g1:¬(i:Int)<3:=by omega
  repeat (first|apply aj|(apply ar;rfl;apply cG<;>first|rfl|(apply bN;first|assumption|omega)))
  refine bG rfl ?_
  repeat (first|apply aj|(apply ar;rfl;apply aD<;>rfl))
  refine aO (Or.inl rfl) Tryz.results35 (aC.tmp rfl) ?_
  exact⟨by rw[Hb (fun j hj=>hok j (by omega))],hk1⟩
theorem jR{w:World}{n:Nat}{A:List Nat}{tot:Int}{c:Cm}(h:cL w n A tot c){q:Nat×Nm}(hq:aB c.ns c.tr.tip=some q):dz Tryz.prog 53 #[.pointer (some ⟨c.cb,0,none⟩)] w (Du q):=by
 refine bA Tryz.func53 rfl Tryz.ntmps53 rfl ?_
 obtain⟨-,-,-,-,r3,-,r5⟩:=cM h
 have hM:=h.map
 repeat (first|apply aj|(apply ar;rfl;apply aD<;>rfl))
 refine CG.tail mixed 9 [0,1,2,3,4,5,6,7,8] (by kernel_rfl) ?_
 repeat (apply bZ;rfl;rfl;(first|apply az|apply bf|apply aW|apply bM)<;>first|rfl|assumption|exact List.not_mem_nil)
 refine aI.call rfl rfl rfl (vs:=[.pointer (some ⟨c.tb,0,none⟩)]) (bz.of rfl) (fun W hk _=>kH (h.tree.ay hk)) ?_
 refine aI.tl (fun w1 hk1 _ _=>?_)
 have hM:=hM.ay hk1
 repeat (first|apply aj|(apply ar;rfl;(first|apply aD|apply qu)<;>first|rfl|assumption|exact List.not_mem_nil|exact kX (by assumption)|fail))
 refine aO (Or.inl rfl) Tryz.results53 (aC.tmp rfl) ?_
 exact⟨rfl,hk1⟩
end
section
theorem C9{κ ν:Type}[DecidableEq κ]{m:List (κ×ν)}{k:κ}{v:ν}(h:aB m k=some v):(k,v)∈m:=by
 induction m with
 |nil=>simp[aB] at h
 |cons p m ih=>
  obtain⟨a,y⟩:=p
  unfold aB at h
  by_cases e:a=k
  ·rw[if_pos e] at h
   simp only[Option.some.injEq] at h
   rw[e,h]
   exact List.mem_cons_self
  ·rw[if_neg e] at h
   exact List.mem_cons_of_mem _ (ih h)
theorem cL.Ak{w:World}{n:Nat}{A:List Nat}{tot:Int}{c:Cm}(h:cL w n A tot c){d:Dg}{q:Nat×Nm}(hq:aB c.ns d=some q):iV w n A tot q.1 q.2:=h.nd _ (C9 hq)
def pQ(l:List Dg)(d:Dg):Int:=if l.findIdx (fun x=>decide (x=d))<l.length then(l.findIdx (fun x=>decide (x=d)):Int) else-1
theorem Ce{l:List Dg}{d:Dg}(h:∀j (hj:j<l.length),l[j]≠d):pQ l d= -1:=if_neg (fun g=>by
 have:=List.findIdx_getElem (w:=g)
 simp only[decide_eq_true_eq] at this
 exact h _ g this)
theorem GI{l:List Dg}{d:Dg}{i:Nat}(hi:i<l.length)(he:l[i]=d)(h:∀j (hj:j<i),l[j]≠d):pQ l d=(i:Int):=by
 have:l.findIdx (fun x=>decide (x=d))=i:=(List.findIdx_eq hi).2 ⟨by simp[he],fun j hj=>by simp[h j hj]⟩
 unfold pQ
 rw[this,if_pos hi]
attribute [local irreducible] CG NG SG aK aI Row aF aE aM aR
theorem zP{w:World}{n:Nat}{A:List Nat}{tot:Int}{c:Cm}(h:cL w n A tot c){q:Nat×Nm}(hq:aB c.ns c.tr.tip=some q):Calls Tryz.prog 30 #[.pointer (some ⟨c.cb,0,none⟩)] w (fun e w'=>∃y:Bm,y.b=q.2.x.b∧e= .returned (iH y)∧y.In 0 w'∧Kp [] w w'):=by
 refine bA Tryz.func30 rfl Tryz.ntmps30 rfl ?_
 repeat apply aj
 refine SG.alloc rfl rfl rfl (fun b2 w1 hk1 hb2 hB2=>?_)
 repeat (first|apply aj|(apply ar;rfl;(first|apply iC|apply az)<;>rfl))
 refine bG rfl ?_
 repeat (first|apply aj|(apply ar;rfl;apply az<;>rfl))
 refine SG.ret rfl rfl rfl (vs:=[.pointer (some ⟨c.cb,0,none⟩)]) (bz.of rfl) (jR (h.ay hk1) hq) (fun w2 hk2=>?_)
 have k2:=hk1.trans hk2
 obtain⟨-,-,r,-⟩:=eY ((h.Ak hq).ay k2).blk
 repeat (apply ar;rfl;(first|apply bj|apply aW|apply bM)<;>first|rfl|assumption|exact List.not_mem_nil|apply aJ)
 refine SG.call rfl rfl rfl (vs:=[iH q.2.x]) (bz.of rfl) ((lC ((h.Ak hq).ay k2).x).mono (fun e w3 hh=>?_))
 obtain⟨y,hy,rfl,hY,hk3,-⟩:=hh
 refine⟨_,rfl,?_⟩
 refine SG.aN (l:=dq y) rfl rfl (ag rfl) (ag rfl) ((hB2.ay hk2).ay hk3) (aJ _) rfl (dU _) (fun w4 hk4 hB4=>?_)
 have hr:Row w4 b2 0 (dq y):=Row.all hB4 rfl
 have hO:dh 0 w3 [b2]:=qG ((hB2.ay hk2).ay hk3) (by decide)
 repeat apply aj
 refine aO (Or.inl rfl) Tryz.results30 (aC.agg rfl rfl hr (aJ _)) ?_
 exact⟨y,hy,rfl,⟨hY.tx.kp hk4 hO (dX.cons (Nat.zero_le _) (dX.cells ((hB2.ay hk2).ay hk3) (by decide)) dX.nil),hY.len⟩,(k2.trans hk3).ai hk4 (aV hb2)⟩
theorem uQ{w:World}{n:Nat}{A:List Nat}{tot:Int}{c:Cm}(h:cL w n A tot c){q:Nat×Nm}(hq:aB c.ns c.tr.tip=some q):Calls Tryz.prog 15 #[.pointer (some ⟨c.cb,0,none⟩)] w (fun e w'=>∃bt bm m,e= .returned (.pointer (some ⟨bt,0,none⟩))∧bS w' bt bm m∧jM tot (xV q.2) m q.2.f∧w.heap.size≤bt∧w.heap.size≤bm∧Kp [] w w'):=by
 refine bA Tryz.func15 rfl Tryz.ntmps15 rfl ?_
 repeat (first|apply aj|(apply ar;rfl;(first|apply iC|apply az|apply aD)<;>rfl))
 refine bG rfl ?_
 repeat (first|apply aj|(apply ar;rfl;apply az<;>rfl))
 refine SG.ret rfl rfl rfl (vs:=[.pointer (some ⟨c.cb,0,none⟩)]) (bz.of rfl) (jR h hq) (fun w1 hk1=>?_)
 have hN:=(h.Ak hq).ay hk1
 obtain⟨-,-,-,-,-,-,r,-⟩:=eY hN.blk
 obtain⟨m,hm,hi⟩:=hN.book
 repeat (apply ar;rfl;(first|apply bf|apply aW|apply bM)<;>first|rfl|assumption|exact List.not_mem_nil)
 refine SG.call rfl rfl rfl (vs:=[.pointer (some ⟨q.2.bk,0,none⟩)]) (bz.of rfl) ((ju hm).mono (fun e w3 hh=>?_))
 obtain⟨bt',bm',m',rfl,hB,hp,g1,g2,hk3⟩:=hh
 refine⟨_,rfl,?_⟩
 have s1:=hk1.size
 repeat (first|apply aj|(apply ar;rfl;apply aD<;>rfl))
 refine aO (Or.inl rfl) Tryz.results15 (aC.tmp rfl) ?_
 exact⟨bt',bm',m',rfl,hB,hi.perm hp,by omega,by omega,hk1.trans hk3⟩
theorem wP{w:World}{a:Option Addr}{cc:Nat}{l:List Dg}(hS:Sl dc 8 w a l)(hl:l.length≤1000000)(d:Dg):dz Tryz.prog 58 #[.slice a l.length cc,dv d] w (.int .i64 (pQ l d)):=by
 refine bJ Tryz.func58 rfl Tryz.ntmps58 rfl ?_
 repeat apply aj
 refine SG.box rfl rfl rfl (ag rfl) (fun b3 w1 hk1 hb3 hB3=>?_)
 have hB3:aF w1 b3 (.cells (dc d).toArray 47):=hB3
 have r3:Row w1 b3 0 (dc d):=Row.all hB3 rfl
 repeat (first|apply aj|(apply ar;rfl;(first|apply az|apply aD|apply dy)<;>rfl))
 refine CG.loop (X:=Nat) (fun q=>[(0,.slice a l.length cc),(3,.pointer (some ⟨b3,0,none⟩)),(7,.int .i64 (l.length:Int)),(8,.int .i64 (q:Int))])
  (fun q w'=>q≤l.length∧Kp [] w1 w'∧∀j (hj:j<l.length),j<q→l[j]≠d) (fun q=>l.length-q) 0 ⟨Nat.zero_le _,Kp.refl _ _,fun j _ h=>by omega⟩ (aS.of rfl) ?_
 rintro i w3 ⟨hi,hk3,hok⟩
 refine CG.to [(0,.slice a l.length cc),(3,.pointer (some ⟨b3,0,none⟩)),(7,.int .i64 (l.length:Int)),(8,.int .i64 (i:Int))] (aS.of rfl) ?_
 have r3:=r3.ay hk3
 have k3:=hk1.trans hk3
 by_cases hlt:i<l.length
 ·have g1:(i:Int)<(l.length:Int):=by omega
  obtain⟨ba,off,rfl,hrow⟩:=(hS.ay k3).at hlt
  repeat (first|apply aj|(apply ar;rfl;apply cG<;>first|rfl|(apply bK;first|assumption|omega)))
  refine bL rfl ?_
  by_cases he:l[i]=d
  ·have he':d=l[i]:=he.symm
   repeat (first|apply aj|(apply ar;rfl;(first|apply az|apply aD)<;>rfl))
   refine CG.tail mixed 5 [0,1,2,3,4] (by kernel_rfl) ?_
   repeat (apply bZ;rfl;rfl;(first|apply az|apply bj|apply fv)<;>first|rfl|(apply Ar.mk;omega)|assumption|exact List.not_mem_nil|apply ah)
   refine aI.tl (fun w4 hk4 _ _=>?_)
   repeat (first|apply aj|(apply ar;rfl;apply zf<;>first|rfl|(apply bK;first|assumption|omega)))
   refine bL rfl ?_
   repeat (first|apply aj|(apply ar;rfl;(first|apply az|apply aD)<;>rfl))
   refine aO (Or.inl rfl) Tryz.results58 (aC.tmp rfl) ?_
   exact⟨by rw[GI hlt he (fun j hj=>hok j (by omega) hj)],k3.trans hk4⟩
  ·have he':¬d=l[i]:=fun e=>he e.symm
   repeat (first|apply aj|(apply ar;rfl;(first|apply az|apply aD)<;>rfl))
   refine CG.tail mixed 5 [0,1,2,3,4] (by kernel_rfl) ?_
   repeat (apply bZ;rfl;rfl;(first|apply az|apply bj|apply fv)<;>first|rfl|(apply Ar.mk;omega)|assumption|exact List.not_mem_nil|apply ah)
   refine aI.tl (fun w4 hk4 _ _=>?_)
   repeat (first|apply aj|(apply ar;rfl;apply zf<;>first|rfl|(apply bN;first|assumption|omega)))
   refine bG rfl ?_
   repeat (first|apply aj|(apply ar;rfl;(first|apply az|apply dG)<;>first|rfl|(apply Ar.mk;omega)))
   refine NG.round (i+1) (aS.of rfl) ⟨hlt,hk3.trans hk4,fun j hj hlt'=>?_⟩ (by omega)
   by_cases e:j=i
   ·subst e;exact he
   ·exact hok j hj (by omega)
 ·have g1:¬(i:Int)<(l.length:Int):=by omega
  repeat (first|apply aj|(apply ar;rfl;apply cG<;>first|rfl|(apply bN;first|assumption|omega)))
  refine bG rfl ?_
  repeat (first|apply aj|(apply ar;rfl;apply aD<;>rfl))
  refine aO (Or.inl rfl) Tryz.results58 (aC.tmp rfl) ?_
  exact⟨by rw[Ce (fun j hj=>hok j hj (by omega))],k3⟩
end
section
def jF(ns:List (Dg×Nat×Nm))(d:Dg):List Dg→Option (Int×Int)
 |[]=>none
 |i::l=>match aB ns i with
  |some q=>if 0≤pQ q.2.sx d then some (q.2.x.ht,q.2.es.getD (pQ q.2.sx d).toNat 0) else jF ns d l
  |none=>jF ns d l
def EV(p:Int×Int):List Value:=[.int .i64 p.1,.int .i64 p.2]
theorem TD(a b:Int)(w:World):(Instr.build 54 #[(0,.int .i64 a),(1,.int .i64 b)]).run Tryz.prog w= .ok (.agg (EV (a,b)).toArray) w:=by kernel_rfl
theorem PG(w:World):(Instr.build 54 #[]).run Tryz.prog w= .ok (.agg (EV (0,0)).toArray) w:=by kernel_rfl
theorem GH{l:List Dg}{d:Dg}(h:0≤pQ l d):(pQ l d).toNat<l.length∧pQ l d=((pQ l d).toNat:Int):=by
 unfold pQ at*
 split at h
 ·rename_i g
  rw[if_pos g]
  exact⟨by simpa using g,rfl⟩
 ·omega
attribute [local irreducible] CG NG SG aK aI Row aF aE aM aR pQ
theorem uP{w:World}{n:Nat}{a:Option Addr}{c:Nat}{xs:List Tm}(hX:l4 w n a xs)(hl:xs.length≤1000000):kt Tryz.prog 47 dc 8 84 #[.slice a xs.length c] w (xs.map (fun x=>aR x.t)):=by
 refine bA Tryz.func84 rfl Tryz.ntmps84 rfl ?_
 have hS:=hX.sl
 have hI:=hX.ins
 clear hX
 repeat (first|apply aj|(apply ar;rfl;(first|apply az|apply aD|apply dy)<;>rfl))
 refine CG.loop (X:=Nat×Value) (fun q=>[(3,q.2),(6,.slice a xs.length c),(7,.int .i64 (xs.length:Int)),(8,.int .i64 (q.1:Int))])
  (fun q w'=>q.1≤xs.length∧Kp [] w w'∧w'.ownsRow w.heap.size 47 8 q.2 q.1 (bO dc ((xs.map (fun x=>aR x.t)).take q.1)))
  (fun q=>xs.length-q.1) (0,.slice none 0 0) ⟨Nat.zero_le _,Kp.refl _ _,dR⟩ (aS.of rfl) ?_
 rintro⟨i,v⟩ w3 ⟨hi,k3,ho3⟩
 simp only at hi ho3
 refine CG.to [(3,v),(6,.slice a xs.length c),(7,.int .i64 (xs.length:Int)),(8,.int .i64 (i:Int))] (aS.of rfl) ?_
 by_cases hlt:i<xs.length
 ·have g1:(i:Int)<(xs.length:Int):=by omega
  obtain⟨ba,off,rfl,hrow⟩:=(hS.ay k3).at hlt
  repeat (first|apply aj|(apply ar;rfl;apply cG<;>first|rfl|(apply bK;first|assumption|omega)))
  refine bL rfl ?_
  repeat (first|apply aj|(apply ar;rfl;(first|apply bj|apply fv)<;>first|rfl|(apply Ar.mk;omega)|assumption|exact List.not_mem_nil|apply au))
  refine SG.alloc rfl rfl rfl (fun b5 w5 hk5 hb5 hB5=>?_)
  refine SG.aN (l:=bV xs[i]) rfl rfl (ag rfl) (ag rfl) hB5 (au _) rfl (cC _) (fun w6 hk6 hB6=>?_)
  have k36:=hk5.ai hk6 (aV hb5)
  obtain⟨q2,-⟩:=aZ hB6
  clear hrow
  repeat (first|apply aj|(apply ar;rfl;(first|apply az|apply bj)<;>first|rfl|assumption|exact List.not_mem_nil|apply au))
  refine SG.ret rfl rfl rfl (vs:=[eR xs[i]]) (bz.of rfl) (iP ((hI _ (List.getElem_mem hlt)).ay (k3.trans k36))) (fun w6' hk6'=>?_)
  have k36:=k36.trans hk6'
  refine SG.buildSlice rfl rfl rfl rfl (E3 _) (fun b7 w7 hk7 hb7 hB7=>?_)
  have s3:=k3.size
  have s36:=k36.size
  have s7:=hk7.size
  have k37:=k36.trans hk7
  have ho7:=aT ho3 k37
  have e7:((xs.map (fun x=>aR x.t)).take i).length=i:=by rw[List.length_take,List.length_map];omega
  have ho7:=xQ e7.symm ho7
  refine SG.kr (enc:=dc) (xs:=(xs.map (fun x=>aR x.t)).take i) (ys:=[aR xs[i].t]) (base:=w.heap.size) rfl rfl rfl (ag rfl) (ag rfl) rfl rfl rfl rfl ah bu ho7 (iA (enc:=dc) (sz:=8) (x:=aR xs[i].t) ah hB7) (by rw[e7];simp only[maxLen,List.length_singleton];omega) (by rw[e7];show(i+1)*8≤_;omega) (by omega) (fun v8 w8 hk8 ho8 hv8=>?_)
  rw[←take_one (fun x:Tm=>aR x.t) hlt] at ho8
  have e8:((xs.map (fun x=>aR x.t)).take (i+1)).length=i+1:=by rw[List.length_take,List.length_map];omega
  rw[e8] at ho8
  repeat (first|apply aj|(apply ar;rfl;(first|apply az|apply aD|apply dG)<;>first|rfl|(apply Ar.mk;omega)))
  refine NG.round (i+1,v8) (aS.of rfl) ⟨hlt,(k3.trans k37).ai hk8 (eO ho7 (Nat.le_refl _)),ho8⟩ (by simp only;omega)
 ·have g1:¬(i:Int)<(xs.length:Int):=by omega
  have e8:i=xs.length:=by omega
  subst e8
  rw[List.take_of_length_le (by rw[List.length_map];exact Nat.le_refl _)] at ho3
  repeat (first|apply aj|(apply ar;rfl;apply cG<;>first|rfl|(apply bN;first|assumption|omega)))
  refine bG rfl ?_
  repeat (first|apply aj|(apply ar;rfl;(first|apply az|apply aD)<;>rfl))
  refine aO (Or.inl rfl) Tryz.results84 (aC.tmp rfl) ?_
  exact⟨v,rfl,by rw[List.length_map];exact ho3,k3⟩
theorem vu{w:World}{n:Nat}{A:List Nat}{tot:Int}{c:Cm}(h:cL w n A tot c)(hI:dF 256 (c.ps.map Em.en)):kt Tryz.prog 47 dc 8 39 #[.pointer (some ⟨c.cb,0,none⟩)] w ((jZ (c.ps.map Em.en)).map (fun e=>aR e.t)):=by
 refine bA Tryz.func39 rfl Tryz.ntmps39 rfl ?_
 obtain⟨-,-,-,-,-,r,-⟩:=cM h
 repeat (first|apply aj|(apply ar;rfl;(first|apply iC|apply az|apply aD)<;>rfl))
 refine bG rfl ?_
 repeat (first|apply aj|(apply ar;rfl;(first|apply az|apply bf|apply aW|apply bM)<;>first|rfl|assumption|exact List.not_mem_nil))
 refine SG.call rfl rfl rfl (vs:=[.pointer (some ⟨c.pb,0,none⟩)]) (bz.of rfl) ((Da h.pool hI (by omega)).mono (fun e w1 hh=>?_))
 obtain⟨v1,xs,rfl,hk1,hX,hm⟩:=hh
 obtain⟨a1,c1,rfl,hc1,hT⟩:=hX.Sp (n:=w1.heap.size)
 have hlx:xs.length≤256:=by
  have e1:xs.length=(jZ (c.ps.map Em.en)).length:=by have:=congrArg List.length hm;simpa using this
  have e2:=hI.len
  rw[e1,oE]
  omega
 refine⟨_,rfl,?_⟩
 refine SG.call rfl rfl rfl (vs:=[.slice a1 xs.length c1]) (bz.of rfl) ((uP hT (by omega)).mono (fun e w2 hh=>?_))
 obtain⟨v2,rfl,ho,hk2⟩:=hh
 refine⟨_,rfl,?_⟩
 have e2:xs.map (fun x=>aR x.t)=(jZ (c.ps.map Em.en)).map (fun e=>aR e.t):=by
  have:=congrArg (List.map aR) hm
  rw[List.map_map,List.map_map] at this
  exact this
 rw[e2] at ho
 clear r
 repeat (first|apply aj|(apply ar;rfl;apply aD<;>rfl))
 refine aO (Or.inl rfl) Tryz.results39 (aC.tmp rfl) ?_
 exact⟨v2,rfl,cX ho hk1.size,hk1.trans hk2⟩
theorem xh{w:World}{n:Nat}{A:List Nat}{tot:Int}{c:Cm}(h:cL w n A tot c)(wf:c.tr.WF)(hl:(c.tr.line c.tr.tip).length≤100000)(hq:∀d∈c.tr.line c.tr.tip,∃q,aB c.ns d=some q)(d:Dg):dz Tryz.prog 17 #[.pointer (some ⟨c.cb,0,none⟩),dv d] w
  (match jF c.ns d (c.tr.line c.tr.tip) with|some p=> .tuple #[.agg (EV p).toArray,.bool true]|none=> .tuple #[.agg (EV (0,0)).toArray,.bool false]):=by
 refine bJ Tryz.func17 rfl Tryz.ntmps17 rfl ?_
 repeat apply aj
 refine SG.box rfl rfl rfl (ag rfl) (fun b3 w1 hk1 hb3 hB3=>?_)
 have hB3:aF w1 b3 (.cells (dc d).toArray 47):=hB3
 have r3:Row w1 b3 0 (dc d):=Row.all hB3 rfl
 refine SG.alloc rfl rfl rfl (fun b4 w2 hk2 hb4 hB4=>?_)
 have k2:=hk1.trans hk2
 have r3:=r3.ay hk2
 have h2:=h.ay k2
 obtain⟨-,-,-,-,r5,-,r7⟩:=cM h2
 repeat (first|apply aj|(apply ar;rfl;(first|apply iC|apply az|apply aD)<;>rfl))
 refine bG rfl ?_
 repeat apply aj
 refine CG.draw mixed [0,1,2,3,4,5,6,7,8,11,9,10] [9] [] [] (fun _=>True) (by kernel_rfl) (by simp) (by simp) trivial (fun _ _ _ _=>trivial) (Or.inl rfl) ?_
 repeat (apply bZ;rfl;rfl;(first|apply az|apply bf|apply aW|apply bM)<;>first|rfl|assumption|exact List.not_mem_nil)
 refine aI.call rfl rfl rfl (vs:=[.pointer (some ⟨c.tb,0,none⟩)]) (bz.of rfl) (fun W hk _=>kH (h2.tree.ay hk)) ?_
 repeat (apply bZ;rfl;rfl;apply az<;>rfl)
 refine aI.CP (c.tr.line c.tr.tip) rfl rfl rfl rfl (vs:=[.pointer (some ⟨c.tb,0,none⟩),dv c.tr.tip]) (bz.of rfl) HN (fun W hk _=>wL (h2.tree.ay hk) wf c.tr.tip) (fun a cc=>?_)
 repeat (apply bZ;rfl;rfl;apply dy<;>rfl)
 refine aI.fin (fun w3 hk3 hF _=>?_)
 obtain⟨-,hSF⟩:=hF
 have k3:=k2.trans hk3
 have hS:=hSF.sl
 clear r5 r7 hSF
 obtain⟨l,hle⟩:∃l,l=c.tr.line c.tr.tip:=⟨_,rfl⟩
 rw[←hle] at hl hq hS⊢
 repeat apply aj
 refine CG.loop (X:=Nat) (fun q=>[(0,.pointer (some ⟨c.cb,0,none⟩)),(3,.pointer (some ⟨b3,0,none⟩)),(4,.pointer (some ⟨b4,0,none⟩)),(22,.slice a l.length cc),(23,.int .i64 (l.length:Int)),(24,.int .i64 (q:Int))])
  (fun q w'=>q≤l.length∧Kp [] w2 w'∧Sl dc 8 w' a l∧jF c.ns d l=jF c.ns d (l.drop q)) (fun q=>l.length-q) 0 ⟨Nat.zero_le _,hk3,hS,rfl⟩ (by rw[hle];(repeat' (first|exact True.intro|exact rfl|refine And.intro ?_ ?_))) ?_
 rintro i w4 ⟨hi,k4,hS4,hok⟩
 refine CG.to [(0,.pointer (some ⟨c.cb,0,none⟩)),(3,.pointer (some ⟨b3,0,none⟩)),(4,.pointer (some ⟨b4,0,none⟩)),(22,.slice a l.length cc),(23,.int .i64 (l.length:Int)),(24,.int .i64 (i:Int))] (aS.of rfl) ?_
 have k24:=k2.trans k4
 have hB44:=hB4.ay k4
 by_cases hlt:i<l.length
 ·have g1:(i:Int)<(l.length:Int):=by omega
  obtain⟨ba,off,rfl,hrow⟩:=hS4.at hlt
  obtain⟨q,hqa⟩:=hq _ (List.getElem_mem hlt)
  rw[List.drop_eq_getElem_cons hlt] at hok
  have hok:jF c.ns d l=if 0≤pQ q.2.sx d then some (q.2.x.ht,q.2.es.getD (pQ q.2.sx d).toNat 0) else jF c.ns d (l.drop (i+1)):=by
   rw[hok]
   simp only[jF,hqa]
  repeat (first|apply aj|(apply ar;rfl;apply cG<;>first|rfl|(apply bK;first|assumption|omega)))
  refine bL rfl ?_
  repeat (first|apply aj|(apply ar;rfl;(first|apply bj|apply fv)<;>first|rfl|(apply Ar.mk;omega)|assumption|exact List.not_mem_nil|apply ah))
  refine SG.alloc rfl rfl rfl (fun b5 w5 hk5 hb5 hB5=>?_)
  refine SG.aN (l:=dc l[i]) rfl rfl (ag rfl) (ag rfl) hB5 (ah _) rfl (bu _) (fun w6 hk6 hB6=>?_)
  have k46:=hk5.ai hk6 (aV hb5)
  have k6:=k24.trans k46
  have h6:=h.ay k6
  have r3:Row w6 b3 0 (dc d):=r3.ay (k4.trans k46)
  have q6:Row w6 b5 0 (dc l[i]):=Row.all hB6 rfl
  obtain⟨-,-,-,-,-,-,r7⟩:=cM h6
  have hM:=h6.map
  clear hrow
  repeat apply aj
  refine CG.tail mixed 5 [0,1,2,3,4] (by kernel_rfl) ?_
  repeat (apply bZ;rfl;rfl;(first|apply az|apply bf|apply bj|apply aW|apply bM)<;>first|rfl|assumption|exact List.not_mem_nil|apply ah)
  refine aI.tl (fun w7 hk7 _ _=>?_)
  have hM:=hM.ay hk7
  repeat (first|apply aj|(apply ar;rfl;(first|apply aD|apply qu)<;>first|rfl|assumption|exact List.not_mem_nil|exact kX (by assumption)|fail))
  have hN:=(h6.Ak hqa).ay hk7
  have r3:=r3.ay hk7
  obtain⟨-,t2,-,t4,-,t6,-⟩:=eY hN.blk
  clear r7 q6
  skip
  refine CG.tail mixed 5 [0,1,2,3,4] (by kernel_rfl) ?_
  repeat (apply bZ;rfl;rfl;(first|apply az|apply bf|apply bj|apply aW|apply bM)<;>first|rfl|assumption|exact List.not_mem_nil|apply ah)
  refine aI.tl (fun w8 hk8 _ _=>?_)
  have hN8:=hN.ay hk8
  have k8:=(k46.trans hk7).trans hk8
  have enl:q.2.x.xs.length=q.2.sx.length:=(List.length_map _).symm
  have hll:=hN.x.len
  refine SG.ret rfl rfl rfl (vs:=[.slice q.2.an q.2.x.xs.length q.2.cn,dv d]) (bz.of rfl) (by rw[enl];exact wP hN8.nam (by omega) d) (fun w9 hk9=>?_)
  have k9:=k8.trans hk9
  clear r3 t6
  by_cases h0:0≤pQ q.2.sx d
  ·rw[if_pos h0] at hok
   rw[hok]
   obtain⟨j1,j2⟩:=GH h0
   generalize (pQ q.2.sx d).toNat=j at*
   generalize pQ q.2.sx d=z at*
   subst j2
   have hje:j<q.2.es.length:=by rw[hN.el];omega
   obtain⟨ba,oa,hae,hrow⟩:=(hN8.ans.ay hk9).at hje
   have hge:q.2.es.getD j 0=q.2.es[j]:=by simp[List.getD_eq_getElem?_getD,hje]
   rw[hge]
   rw[hae] at t2
   have t2:=(t2.ay hk8).ay hk9
   have t4:=(t4.ay hk8).ay hk9
   have hrow:Row w9 ba (oa+j*1) [.int .i64 q.2.es[j]]:=hrow
   repeat (first|apply aj|(apply ar;rfl;(first|apply az|apply aD|apply jN)<;>first|rfl|(apply bK;first|assumption|omega)))
   refine bL rfl ?_
   repeat apply aj
   refine CG.tail mixed 13 [0,1,2,3,4,5,6,7,8,9,10,11,12] (by kernel_rfl) ?_
   repeat (apply bZ;rfl;rfl;(first|apply az|apply bf|apply aW|apply bM|apply fv)<;>first|rfl|(apply Ar.mk;omega)|assumption|exact List.not_mem_nil)
   refine aI.tl (fun w10 hk10 _ _=>?_)
   refine SG.val rfl rfl rfl rfl (aG rfl (TD q.2.x.ht q.2.es[j])) ?_
   refine SG.aN (l:=EV (q.2.x.ht,q.2.es[j])) rfl rfl (ag rfl) (ag rfl) ((hB44.ay k9).ay hk10) rfl rfl rfl (fun w11 hk11 hB11=>?_)
   have hr:Row w11 b4 0 (EV (q.2.x.ht,q.2.es[j])):=Row.all hB11 rfl
   clear t2 t4 hrow
   repeat (first|apply aj|(apply ar;rfl;apply aD<;>rfl))
   refine dJ (Or.inl rfl) Tryz.results17 (aC.agg rfl rfl hr rfl) (aC.tmp rfl) ?_
   exact⟨rfl,((k24.trans k9).trans hk10).ai hk11 (aV (by have:=hk1.size;omega))⟩
  ·rw[if_neg h0] at hok
   repeat (first|apply aj|(apply ar;rfl;(first|apply az|apply aD|apply jN)<;>first|rfl|(apply bN;first|assumption|omega)))
   refine bG rfl ?_
   repeat (first|apply aj|(apply ar;rfl;(first|apply az|apply dG)<;>first|rfl|(apply Ar.mk;omega)))
   refine NG.round (i+1) (aS.of rfl) ⟨hlt,k4.trans k9,hS4.ay k9,hok⟩ (by omega)
 ·have g1:¬(i:Int)<(l.length:Int):=by omega
  rw[List.drop_eq_nil_of_le (by omega)] at hok
  rw[hok]
  repeat (first|apply aj|(apply ar;rfl;apply cG<;>first|rfl|(apply bN;first|assumption|omega)))
  refine bG rfl ?_
  repeat apply aj
  refine SG.val rfl rfl rfl rfl (aG rfl PG) ?_
  refine SG.aN (l:=EV (0,0)) rfl rfl (ag rfl) (ag rfl) hB44 rfl rfl rfl (fun w5 hk5 hB5=>?_)
  have hr:Row w5 b4 0 (EV (0,0)):=Row.all hB5 rfl
  repeat (first|apply aj|(apply ar;rfl;apply aD<;>rfl))
  refine dJ (Or.inl rfl) Tryz.results17 (aC.agg rfl rfl hr rfl) (aC.tmp rfl) ?_
  exact⟨rfl,k24.ai hk5 (aV (by have:=hk1.size;omega))⟩
end
section
theorem dt.cons{n:Nat}{Ts:List TypeId}{A:List Nat}{w:World}{b:Nat}{S:List Nat}(h:dt n Ts A w [b])(h':dt n Ts A w S):dt n Ts A w (b::S):=h.app h'
theorem cL.nodes{w w':World}{n:Nat}{A:List Nat}{tot:Int}{c:Cm}{S:List Nat}(h:cL w n A tot c)(hk:Kp S w w')(hS:dt n CT A w S):∀p∈c.ns,iV w' n A tot p.2.1 p.2.2:=fun p hp=>
 (h.nd p hp).kp hk hS (fun _ hz=>hz) (by decide) ((h.nd p hp).x.mn hk hS (by decide) (by decide))
theorem Pl.rI{w:World}{n p:Nat}{v:Value}{room:Int}{ms:List Em}{A:List Nat}(h:Pl w n p v room ms):dt n CT A w (p::aP v):=(dt.cells h.bp h.blk (by decide)).cons (dt.own h.own (Nat.le_refl _) (by decide))
theorem Pl.H3{κ ν:Type}{enc:κ→Value}{V:ν→Value}{m:List (κ×ν)}{w:World}{n p b:Nat}{v:Value}{room:Int}{ms:List Em}(h:Pl w n p v room ms)(hm:aE w b enc V m):b∉p::aP v:=fun hz=>by
 rcases List.mem_cons.1 hz with e|hz
 ·exact eB h.blk hm e
 ·exact kF h.own hm _ (aH hz) (List.mem_singleton.2 rfl)
theorem Pl.H6{w:World}{n p b:Nat}{v:Value}{room:Int}{ms:List Em}{cs:Array Value}{T:TypeId}(h:Pl w n p v room ms)(hB:aF w b (.cells cs T))(h1:T≠214)(h2:T≠216):b∉p::aP v:=fun hz=>(h.BL (fun e=>h1 e.symm) (fun e=>h2 e.symm) _ hz).2 _ _ hB
theorem cL.FB{w w':World}{n:Nat}{A:List Nat}{tot:Int}{c:Cm}{pv':Value}{ps':List Em}(h:cL w n A tot c)(hk:Kp (c.pb::aP c.pv) w w')(hP:Pl w' n c.pb pv' 256 ps'):cL w' n A tot {c with pv:=pv',ps:=ps'}:=by
 have hS:dt n CT A w (c.pb::aP c.pv):=h.pool.rI
 exact⟨h.blk.kp hk (h.pool.H6 h.blk (by decide) (by decide)),h.tree.kp hk (h.pool.H6 h.tree.blk (by decide) (by decide)) (h.pool.H3 h.tree.map),hP,h.map.kp hk (h.pool.H3 h.map),h.nodes hk hS,h.tA,h.nA,h.ne,h.tn,h.nn,h.bn,Nat.le_trans h.w0 hk.size⟩
theorem dN{w:World}{base k sz n:Nat}{T:TypeId}{v:Value}{xs:List Value}{S:List Nat}(ho:w.ownsRow base T sz v k xs)(hS:dX T n w S):∀g,v.ownBlock=some g→g∉S:=fun g hg hm=>by
 rcases ho.2 with⟨rfl,_⟩|⟨g',cap,cur,rfl,_,hb,_⟩
 ·cases hg
 ·simp only[Value.ownBlock,Option.some.injEq] at hg
  subst hg
  exact(hS _ hm).2 _ _ hb
def LM:List TypeId:=127::(CT++IM)
theorem cL.P6{w w':World}{n:Nat}{A A':List Nat}{tot:Int}{c:Cm}{S:List Nat}{Ts:List TypeId}(h:cL w n A tot c)(hk:Kp S w w')(hS:dt n Ts A' w S)(hA:∀z∈A',z∈A∧z≠c.tm∧z≠c.nm)(hT:∀T∈LM,T∉Ts)(hx:∀p∈c.ns,p.2.2.x.In n w'):cL w' n A tot c:=by
 have t:∀{T:TypeId},T∈LM→dX T n w S:=fun hm=>hS.not (hT _ hm)
 exact⟨hS.blk hk h.blk (hT _ (by decide)),⟨hS.blk hk h.tree.blk (hT _ (by decide)),hS.wD hk h.tree.map (fun g=>(hA _ g).2.1 rfl)⟩,h.pool.kp hk (hS.no h.pool.blk (hT _ (by decide))) (dN h.pool.own (t (by decide))) (t (by decide)),hS.wD hk h.map (fun g=>(hA _ g).2.2 rfl),fun p hp=>(h.nd p hp).kp hk hS (fun z hz=>(hA z hz).1) (fun T hm=>hT T (List.mem_cons_of_mem _ (List.mem_append_right _ hm))) (hx p hp),h.tA,h.nA,h.ne,h.tn,h.nn,h.bn,Nat.le_trans h.w0 hk.size⟩
theorem cL.Ia{w w':World}{n:Nat}{A:List Nat}{tot:Int}{c:Cm}{S:List Nat}{Ts:List TypeId}(h:cL w n A tot c)(hk:Kp S w w')(hS:dt n Ts [] w S)(hT:∀T∈LM,T∉Ts)(hx:∀p∈c.ns,p.2.2.x.In n w'):cL w' n A tot c:=h.P6 hk hS (fun _ hz=>by cases hz) hT hx
open Classical in
noncomputable def lH(nb:eA)(q:Nm)(ps:List En)(t:Tx):Int:=if fl nb t≠0 then fl nb t else if t.non<(q.f t.frm).nonce then 17 else eW 256 ps q.x.ht t
open Classical in
noncomputable def rV(nb:eA)(q:Nm)(ps:List En)(t:Tx):List En:=if lH nb q ps t=0 then oX 256 ps q.x.ht t else ps
theorem Is{w:World}{L:Env}{d:Option Nat}{ty:TypeId}{pos:String}{af:Array Edge}{g:Option (Nat×Bool)}{S:List Nat}{F:World→Prop}{x:Operand}{k:Dg}{p:Pu}(hx:bB L x=Fl (oo k p)):aK Tryz.prog S w F L ⟨d,.field 59 x 2,ty,pos,af,g⟩ (.int .i64 p.nonce):=
 fX (dc k++[.int .i64 p.money]) [] hx rfl (by simp[acl,oo]) (by simp[ah])
attribute [local irreducible] CG NG SG aK aI Row aF aE aM aR fl eW oX
theorem oz{w:World}{n:Nat}{A:List Nat}{tot:Int}{c:Cm}(h:cL w n A tot c){base pm:Nat}{v:Value}{nb:eA}(hN:dm w base c.vb pm v nb)(hI:dF 256 (c.ps.map Em.en)){x:Tm}(hx:x.In n w){q:Nat×Nm}(hq:aB c.ns c.tr.tip=some q):
  Calls Tryz.prog 38 #[.pointer (some ⟨c.cb,0,none⟩),eR x] w (fun e w'=>e= .returned (.int .i64 (lH nb q.2 (c.ps.map Em.en) x.t))∧∃pv' ps',cL w' n A tot {c with pv:=pv',ps:=ps'}∧ps'.map Em.en=rV nb q.2 (c.ps.map Em.en) x.t∧Kp (c.pb::aP c.pv) w w'∧∀g,pv'.ownBlock=some g→c.pv.ownBlock=some g∨w.heap.size≤g):=by
 refine bJ Tryz.func38 rfl Tryz.ntmps38 rfl ?_
 have hno:∀{W:World} {z:Int},Kp [] w W→lH nb q.2 (c.ps.map Em.en) x.t=z→z≠0→(Ending.returned (.int .i64 z)= .returned (.int .i64 (lH nb q.2 (c.ps.map Em.en) x.t))∧∃pv' ps',cL W n A tot {c with pv:=pv',ps:=ps'}∧ps'.map Em.en=rV nb q.2 (c.ps.map Em.en) x.t∧Kp (c.pb::aP c.pv) w W∧∀g,pv'.ownBlock=some g→c.pv.ownBlock=some g∨w.heap.size≤g):=fun hk hz h0=>by
  refine⟨by rw[hz],c.pv,c.ps,h.ay hk,?_,hk.any,fun g hg=>Or.inl hg⟩
  unfold rV
  rw[hz,if_neg h0]
 repeat apply aj
 refine SG.box rfl rfl rfl (ag rfl) (fun b3 w1 hk1 hb3 hB3=>?_)
 have hB3:aF w1 b3 (.cells (bV x).toArray 52):=hB3
 obtain⟨r,-⟩:=aZ hB3
 obtain⟨-,-,t3,-⟩:=cM (h.ay hk1)
 repeat (first|apply aj|(apply ar;rfl;(first|apply iC|apply az|apply aD)<;>rfl))
 refine bG rfl ?_
 repeat apply aj
 refine CG.tail mixed 5 [0,1,2,3,4] (by kernel_rfl) ?_
 repeat (apply bZ;rfl;rfl;(first|apply az|apply bf|apply bj|apply aW|apply bM)<;>first|rfl|assumption|exact List.not_mem_nil|apply au)
 refine aI.tl (fun w2 hk2 _ _=>?_)
 have k2:=hk1.trans hk2
 refine SG.ret rfl rfl rfl (vs:=[eR x,.iface 40 (.pointer (some ⟨c.vb,0,none⟩))]) (bz.of rfl) (mj (hN.ay k2) (hx.ay k2)) (fun w3 hk3=>?_)
 have k3:=k2.trans hk3
 have hB3:=(hB3.ay hk2).ay hk3
 clear r t3
 by_cases hv:fl nb x.t=0
 rotate_left
 ·have ez:lH nb q.2 (c.ps.map Em.en) x.t=fl nb x.t:=by unfold lH;rw[if_pos hv]
  repeat (first|apply aj|(apply ar;rfl;(first|apply az|apply aD|apply dK)<;>first|rfl|(apply bN;first|assumption|omega)))
  refine bL rfl ?_
  repeat (first|apply aj|(apply ar;rfl;(first|apply az|apply aD)<;>rfl))
  refine aO (Or.inl rfl) Tryz.results38 (aC.tmp rfl) ?_
  exact hno k3 ez hv
 rw[hv]
 repeat (first|apply aj|(apply ar;rfl;(first|apply az|apply aD|apply dK)<;>first|rfl|(apply bK;first|assumption|omega)))
 refine bG rfl ?_
 repeat (first|apply aj|(apply ar;rfl;apply az<;>rfl))
 refine SG.ret rfl rfl rfl (vs:=[.pointer (some ⟨c.cb,0,none⟩)]) (bz.of rfl) (jR (h.ay k3) hq) (fun w4 hk4=>?_)
 have k4:=k3.trans hk4
 have hB3:=hB3.ay hk4
 have hQ:=(h.Ak hq).ay k4
 obtain⟨m,hm,hi⟩:=hQ.book
 obtain⟨-,q0,q1,-⟩:=aZ hB3
 obtain⟨-,-,-,-,-,-,t0,-⟩:=eY hQ.blk
 repeat (first|apply aj|(apply ar;rfl;apply aD<;>rfl))
 have hbo:∀W,Kp [] w4 W→dz Tryz.prog 19 #[.pointer (some ⟨q.2.bk,0,none⟩),dv x.t.frm] W (Fl (oo x.t.frm (q.2.f x.t.frm))):=fun W hk=>by
  rw[←hi.eq]
  exact mW (hm.ay hk) x.t.frm
 by_cases hn:x.t.non<(q.2.f x.t.frm).nonce
 ·have ez:lH nb q.2 (c.ps.map Em.en) x.t=17:=by unfold lH;rw[if_neg (fun g=>g hv),if_pos hn]
  refine CG.tail mixed 11 [0,1,2,3,4,5,6,7,8,9,10] (by kernel_rfl) ?_
  repeat (apply bZ;rfl;rfl;(first|apply az|apply bf|apply bj|apply aW|apply bM)<;>first|rfl|assumption|exact List.not_mem_nil|apply ah)
  refine aI.call rfl rfl rfl (vs:=[.pointer (some ⟨q.2.bk,0,none⟩),dv x.t.frm]) (bz.of rfl) (fun W hk _=>hbo W hk) ?_
  refine aI.val rfl rfl rfl (Is rfl) ?_
  refine aI.tl (fun w5 hk5 _ _=>?_)
  repeat (first|apply aj|(apply ar;rfl;apply cG<;>first|rfl|(apply bK;first|assumption|omega)))
  refine bL rfl ?_
  repeat (first|apply aj|(apply ar;rfl;apply aD<;>rfl))
  refine aO (Or.inl rfl) Tryz.results38 (aC.tmp rfl) ?_
  exact hno (k4.trans hk5) ez (by decide)
 have ez:lH nb q.2 (c.ps.map Em.en) x.t=eW 256 (c.ps.map Em.en) q.2.x.ht x.t:=by unfold lH;rw[if_neg (fun g=>g hv),if_neg hn]
 refine CG.tail mixed 11 [0,1,2,3,4,5,6,7,8,9,10] (by kernel_rfl) ?_
 repeat (apply bZ;rfl;rfl;(first|apply az|apply bf|apply bj|apply aW|apply bM)<;>first|rfl|assumption|exact List.not_mem_nil|apply ah)
 refine aI.call rfl rfl rfl (vs:=[.pointer (some ⟨q.2.bk,0,none⟩),dv x.t.frm]) (bz.of rfl) (fun W hk _=>hbo W hk) ?_
 refine aI.val rfl rfl rfl (Is rfl) ?_
 refine aI.tl (fun w5 hk5 _ _=>?_)
 clear q0 q1 t0
 have k5:=k4.trans hk5
 repeat (first|apply aj|(apply ar;rfl;apply cG<;>first|rfl|(apply bN;first|assumption|omega)))
 refine bG rfl ?_
 obtain⟨r,-⟩:=aZ (hB3.ay hk5)
 obtain⟨-,-,-,t1,-⟩:=eY (hQ.ay hk5).blk
 obtain⟨-,-,-,-,-,t4,-⟩:=cM (h.ay k5)
 repeat apply aj
 refine CG.tail mixed 10 [0,1,2,3,4,5,6,7,8,9] (by kernel_rfl) ?_
 repeat (apply bZ;rfl;rfl;(first|apply az|apply bf|apply bj|apply aW|apply bM)<;>first|rfl|assumption|exact List.not_mem_nil|apply au)
 refine aI.tl (fun w6 hk6 _ _=>?_)
 have k6:=k5.trans hk6
 refine SG.call rfl rfl rfl (vs:=[.pointer (some ⟨c.pb,0,none⟩),.int .i64 q.2.x.ht,eR x]) (bz.of rfl) ((vg (h.ay k6).pool (hx.ay k6) hI (by omega)).mono (fun e w7 hh=>?_))
 obtain⟨rfl,pv',ps',hP',hps,hk7,hg⟩:=hh
 refine⟨_,rfl,?_⟩
 clear r t1 t4
 repeat (first|apply aj|(apply ar;rfl;apply aD<;>rfl))
 refine aO (Or.inl rfl) Tryz.results38 (aC.tmp rfl) ?_
 refine⟨by rw[ez],pv',ps',(h.ay k6).FB hk7 hP',?_,k6.any.trans hk7,fun g hg'=>(hg g hg').elim Or.inl (fun e=>Or.inr (Nat.le_trans k6.size e))⟩
 rw[hps]
 unfold rV
 split
 ·rfl
 ·rename_i g
  unfold oX
  rw[if_neg (by rw[←ez];exact g)]
end
section
def kq(f:Fb)(t:Tx):Bool:=decide ((f t.frm).nonce=t.non)&&decide (t.fee≤(f t.frm).money)
def sB(mk:Dg):Fb→List Tx→List Tx→List Tx
 |_,acc,[]=>acc
 |f,acc,x::l=>if 64≤acc.length then acc else if kq f x then sB mk (oM f mk x) (if fq f x=0 then acc++[x] else acc) l else sB mk f acc l
noncomputable def A1(ps:List En)(ns:List Dg):List Tx:=(((jZ ps).filter (fun e=> !tw (jY ps ns) e)).take 1024).map (·.t)
theorem F4(ps:List En)(ns:List Dg):(((jZ ps).filter (fun e=> !tw (jY ps ns) e)).take (Int.toNat 1024)).map (·.t)=A1 ps ns:=rfl
theorem BU{mk:Dg}{f:Fb}{acc:List Tx}(h:64≤acc.length)(l:List Tx):sB mk f acc l=acc:=by
 cases l with
 |nil=>rfl
 |cons x l=>exact if_pos h
theorem Gt{mk:Dg}{f:Fb}{acc l:List Tx}{x:Tx}(h:¬64≤acc.length)(hb:kq f x=false):sB mk f acc (x::l)=sB mk f acc l:=by
 show(if 64≤acc.length then acc else if kq f x then _ else sB mk f acc l)=_
 rw[if_neg h,hb]
 rfl
theorem o7{mk:Dg}{f:Fb}{acc l:List Tx}{x:Tx}(h:¬64≤acc.length)(hb:kq f x=true):sB mk f acc (x::l)=sB mk (oM f mk x) (if fq f x=0 then acc++[x] else acc) l:=by
 show(if 64≤acc.length then acc else if kq f x then sB mk (oM f mk x) (if fq f x=0 then acc++[x] else acc) l else _)=_
 rw[if_neg h,hb]
 rfl
theorem aE.BL{κ ν:Type}{enc:κ→Value}{V:ν→Value}{m:List (κ×ν)}{w:World}{b:Nat}(h:aE w b enc V m)(T:TypeId):∀cs f,w.heap[b]?≠some (.cells cs T f):=fun cs f e=>by
 obtain⟨es,c,hb⟩:=h.blk
 have:=hb.symm.trans e
 cases this
def oO(p:Dg)(h:Int)(mk:Dg)(v:Value):List Value:=dc p++(.int .i64 h::(dc mk++[v]))
theorem mZ{w:World}{b:Nat}{p mk:Dg}{h:Int}{v:Value}{T:TypeId}(hB:aF w b (.cells (oO p h mk v).toArray T)):Row w b 0 (oO p h mk v)∧Row w b 8 [.int .i64 h]∧Row w b 17 [v]:=
 ⟨Row.all hB rfl,Row.of hB (dc p) (dc mk++[v]) (by simp[oO]) (ah _),Row.of hB (dc p++(.int .i64 h::dc mk)) [] (by simp[oO]) (by simp[ah])⟩
theorem PD(w:World)(a0 a1 a2 a3 a4 a5 a6 a7 b0 b1 b2 b3 b4 b5 b6 b7:UInt8)(h:Int):(Instr.build 50 #[(0,.agg #[bv a0,bv a1,bv a2,bv a3,bv a4,bv a5,bv a6,bv a7]),(1,.int .i64 h),(2,.agg #[bv b0,bv b1,bv b2,bv b3,bv b4,bv b5,bv b6,bv b7])]).run Tryz.prog w=
  .ok (.agg #[bv a0,bv a1,bv a2,bv a3,bv a4,bv a5,bv a6,bv a7,.int .i64 h,bv b0,bv b1,bv b2,bv b3,bv b4,bv b5,bv b6,bv b7,.slice none 0 0]) w:=by kernel_rfl
theorem QO(p mk:Dg)(h:Int)(w:World):(Instr.build 50 #[(0,dv p),(1,.int .i64 h),(2,dv mk)]).run Tryz.prog w= .ok (.agg (oO p h mk (.slice none 0 0)).toArray) w:=by
 obtain⟨la,ha⟩:=p
 obtain⟨lb,hb⟩:=mk
 match la,ha,lb,hb with
 |[a0,a1,a2,a3,a4,a5,a6,a7],_,[b0,b1,b2,b3,b4,b5,b6,b7],_=>exact PD w a0 a1 a2 a3 a4 a5 a6 a7 b0 b1 b2 b3 b4 b5 b6 b7 h
theorem PC(w:World):(Instr.build 50 #[]).run Tryz.prog w= .ok (iH hG) w:=by kernel_rfl
theorem Ha(m:Bk)(t:Tx):C3 m t=kq (cg m) t:=rfl
theorem EU(es:List Int)(f:Fb)(mk:Dg)(x:Tx):(mc es f mk x).length≤es.length+1:=by
 unfold mc
 split
 ·rw[List.length_append];exact Nat.le_refl _
 ·omega
theorem Cy(t:Tl)(f:Fb)(h:Int)(mk:Dg)(x:Tx):(dot t f h mk x).n≤t.n+1:=by
 unfold dot
 split
 ·exact Hh _ _ _ _
 ·omega
theorem iz(p mk:Dg)(h:Int)(v:Value):(oO p h mk v).length=18:=by simp[oO,ah]
theorem pf(p mk:Dg)(h:Int)(v:Value)(hv:jJ v=true):bF (oO p h mk v)=true:=by simp[oO,bF,dc,jJ] at*;exact hv
attribute [local irreducible] CG NG SG aK aI Row aF aE aM aR fl oM fq kq jZ
theorem zr{w:World}{n:Nat}{A:List Nat}{tot:Int}{c:Cm}(h:cL w n A tot c)(p mk:Dg)(hp:aB c.ns p=none)(lv:Value):
  dz Tryz.prog 36 #[.pointer (some ⟨c.cb,0,none⟩),dv p,dv mk,lv] w (.tuple #[iH hG,.int .i64 24]):=by
 refine nV Tryz.func36 rfl Tryz.ntmps36 rfl ?_
 repeat apply aj
 refine SG.box rfl rfl rfl (ag rfl) (fun b5 w1 hk1 hb5 hB5=>?_)
 have hB5:aF w1 b5 (.cells (dc p).toArray 47):=hB5
 refine SG.box rfl rfl rfl (ag rfl) (fun b6 w2 hk2 hb6 hB6=>?_)
 refine SG.alloc rfl rfl rfl (fun b8 w3 hk3 hb8 hB8=>?_)
 have k3:=(hk1.trans hk2).trans hk3
 have q5:Row w3 b5 0 (dc p):=Row.all ((hB5.ay hk2).ay hk3) rfl
 have h3:=h.ay k3
 obtain⟨-,-,-,-,-,-,r6⟩:=cM h3
 have hM:=h3.map
 repeat (first|apply aj|(apply ar;rfl;(first|apply iC|apply az|apply aD)<;>rfl))
 refine bG rfl ?_
 repeat apply aj
 refine CG.eQ mixed [0,1,2,3,4,5,6,7,8,9,10] [] (by kernel_rfl) ?_
 repeat (apply bZ;rfl;rfl;(first|apply az|apply aD|apply bf|apply bj|apply aW|apply bM|apply lL|apply dA)<;>first|rfl|assumption|exact List.not_mem_nil|apply ah|exact tv (by assumption)|fail)
 refine aI.fin (fun w4 hk4 _ _=>?_)
 repeat (first|apply aj|(apply ar;rfl;(first|apply az|apply fZ)<;>rfl))
 refine bL rfl ?_
 repeat apply aj
 refine SG.val rfl rfl rfl rfl (aG rfl PC) ?_
 refine SG.aN (l:=dq hG) rfl rfl (ag rfl) (ag rfl) (hB8.ay hk4) (aJ _) rfl (dU _) (fun w5 hk5 hB85=>?_)
 have hr:Row w5 b8 0 (dq hG):=Row.all hB85 rfl
 clear q5 r6
 repeat (first|apply aj|(apply ar;rfl;apply aD<;>rfl))
 refine dJ (Or.inl rfl) Tryz.results36 (aC.agg rfl rfl hr (aJ _)) (aC.tmp rfl) ?_
 exact⟨rfl,(k3.trans hk4).ai hk5 (aV (by have:=hk1.size;have:=hk2.size;omega))⟩
end
end Go.Proofs.YtpnjgjddabeapaaGreatDoor
