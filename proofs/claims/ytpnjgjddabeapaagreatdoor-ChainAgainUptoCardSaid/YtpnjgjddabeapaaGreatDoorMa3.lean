import Derived.Test.YtpnjgjddabeapaaGreatDoorMa2
namespace Go.Proofs.YtpnjgjddabeapaaGreatDoor
set_option linter.all false
set_option maxHeartbeats 400000000
section
open Go.Proofs
theorem IK(w:World)(a0 a1 a2 a3 a4 a5 a6 a7 c0 c1 c2 c3 c4 c5 c6 c7:UInt8)(n f k s:Int)(x1 x2:Option Addr)(m1 m2 d1 d2:Nat):
  (Instr.build 216 #[(0,.agg #[bv a0,bv a1,bv a2,bv a3,bv a4,bv a5,bv a6,bv a7,.int .i64 n,.int .i64 f,.int .i64 k,.slice x1 m1 d1,.slice x2 m2 d2]),(1,.agg #[bv c0,bv c1,bv c2,bv c3,bv c4,bv c5,bv c6,bv c7]),(2,.int .i64 s)]).run Tryz.prog w= .ok (.agg #[bv a0,bv a1,bv a2,bv a3,bv a4,bv a5,bv a6,bv a7,.int .i64 n,.int .i64 f,.int .i64 k,.slice x1 m1 d1,.slice x2 m2 d2,bv c0,bv c1,bv c2,bv c3,bv c4,bv c5,bv c6,bv c7,.int .i64 s]) w:=by kernel_rfl
theorem IL(w:World)(x:Tm)(d:Dg)(s:Int):(Instr.build 216 #[(0,eR x),(1,dv d),(2,.int .i64 s)]).run Tryz.prog w= .ok (.agg (bV x++(dc d++[Value.int .i64 s])).toArray) w:=by
 obtain⟨⟨⟨l,hl⟩,n,f,k,b,g⟩,a1,c1,a2,c2⟩:=x
 obtain⟨m,hm⟩:=d
 match l,hl,m,hm with
 |[x0,x1,x2,x3,x4,x5,x6,x7],_,[y0,y1,y2,y3,y4,y5,y6,y7],_=>exact IK w x0 x1 x2 x3 x4 x5 x6 x7 y0 y1 y2 y3 y4 y5 y6 y7 n f k s a1 a2 b.length g.length c1 c2
theorem G5(w:World)(a0 a1 a2 a3 a4 a5 a6 a7 c0 c1 c2 c3 c4 c5 c6 c7:UInt8)(n f k s:Int)(x1 x2:Option Addr)(m1 m2 c1' c2':Nat):
  (Instr.buildSlice 212 1 #[(0,.agg #[bv a0,bv a1,bv a2,bv a3,bv a4,bv a5,bv a6,bv a7,.int .i64 n,.int .i64 f,.int .i64 k,.slice x1 m1 c1',.slice x2 m2 c2',bv c0,bv c1,bv c2,bv c3,bv c4,bv c5,bv c6,bv c7,.int .i64 s])]).run Tryz.prog w= .ok (.slice (some ⟨w.heap.size,0,none⟩) 1 1) {w with heap:=w.heap.push (.cells #[bv a0,bv a1,bv a2,bv a3,bv a4,bv a5,bv a6,bv a7,.int .i64 n,.int .i64 f,.int .i64 k,.slice x1 m1 c1',.slice x2 m2 c2',bv c0,bv c1,bv c2,bv c3,bv c4,bv c5,bv c6,bv c7,.int .i64 s] 216)}:=by kernel_rfl
theorem CX(x:Tm)(d:Dg)(s:Int)(w:World):(Instr.buildSlice 212 1 #[(0,.agg (bV x++(dc d++[Value.int .i64 s])).toArray)]).run Tryz.prog w= .ok (.slice (some ⟨w.heap.size,0,none⟩) 1 1) {w with heap:=w.heap.push (.cells (bV x++(dc d++[Value.int .i64 s])).toArray 216)}:=by
 obtain⟨⟨⟨l,hl⟩,n,f,k,b,g⟩,a1,c1,a2,c2⟩:=x
 obtain⟨m,hm⟩:=d
 match l,hl,m,hm with
 |[x0,x1,x2,x3,x4,x5,x6,x7],_,[y0,y1,y2,y3,y4,y5,y6,y7],_=>exact G5 w x0 x1 x2 x3 x4 x5 x6 x7 y0 y1 y2 y3 y4 y5 y6 y7 n f k s a1 a2 b.length g.length c1 c2
section
variable {room h:Int} {l:List En} {t:Tx}
theorem vh(h1:h<0∨1099511627776<h):eW room l h t=2:=by
 unfold eW
 rw[if_pos h1]
theorem Df(h1:¬(h<0∨1099511627776<h))(h2:bg t≠0):eW room l h t=bg t:=by
 unfold eW
 rw[if_neg h1,if_pos h2]
theorem Ae(h1:¬(h<0∨1099511627776<h))(h2:bg t=0){o:En}(h3:l.find? (jD t.frm t.non)=some o)(h4:o.t=t):eW room l h t=7:=by
 unfold eW
 rw[if_neg h1,if_neg (fun k=>k h2),h3]
 exact if_pos h4
theorem Dd(h1:¬(h<0∨1099511627776<h))(h2:bg t=0){o:En}(h3:l.find? (jD t.frm t.non)=some o)(h4:o.t≠t)(h5:t.fee≤o.t.fee):eW room l h t=18:=by
 unfold eW
 rw[if_neg h1,if_neg (fun k=>k h2),h3]
 simp only
 rw[if_neg h4,if_pos h5]
theorem De(h1:¬(h<0∨1099511627776<h))(h2:bg t=0){o:En}(h3:l.find? (jD t.frm t.non)=some o)(h4:o.t≠t)(h5:¬t.fee≤o.t.fee):eW room l h t=0:=by
 unfold eW
 rw[if_neg h1,if_neg (fun k=>k h2),h3]
 simp only
 rw[if_neg h4,if_neg h5]
theorem Af(h1:¬(h<0∨1099511627776<h))(h2:bg t=0)(h3:l.find? (jD t.frm t.non)=none)(h4:room≤l.length):eW room l h t=8:=by
 unfold eW
 rw[if_neg h1,if_neg (fun k=>k h2),h3]
 exact if_pos h4
theorem Fk(h1:¬(h<0∨1099511627776<h))(h2:bg t=0)(h3:l.find? (jD t.frm t.non)=none)(h4:¬room≤l.length):eW room l h t=0:=by
 unfold eW
 rw[if_neg h1,if_neg (fun k=>k h2),h3]
 exact if_neg h4
end
theorem Ev{α β:Type}(f:α→β)(l:List α)(i:Nat):(p8 l i).map f=(l.map f).eraseIdx i:=by
 rw[p8,List.map_append,List.map_take,List.map_drop,List.eraseIdx_eq_take_drop_succ]
theorem B3{ms:List Em}{k:Dg}{n:Int}:gL (ms.map Em.en) k n=ms.findIdx (fun e=>jD k n e.en):=by
 unfold gL
 rw[List.findIdx_map]
 rfl
theorem Kp.st{S S':List Nat}{w w1 w2:World}(h:Kp S w w1)(h2:Kp S' w1 w2)(hs:∀z∈S',z∈S∨w.heap.size≤z):Kp S w w2:=h.ai h2 hs
attribute [local irreducible] CG NG SG aK aI Row aF aE aM aR bg
theorem vg{w:World}{base p:Nat}{v:Value}{room:Int}{ms:List Em}{h:Int}{x:Tm}(hP:Pl w base p v room ms)(hx:x.In base w)(hI:dF room (ms.map Em.en))(hr:room≤1024):
  Calls Tryz.prog 83 #[.pointer (some ⟨p,0,none⟩),.int .i64 h,eR x] w (fun e w'=>e= .returned (.int .i64 (eW room (ms.map Em.en) h x.t))∧∃v' ms',Pl w' base p v' room ms'∧ms'.map Em.en=oX room (ms.map Em.en) h x.t∧Kp (p::aP v) w w'∧(∀g,v'.ownBlock=some g→v.ownBlock=some g∨w.heap.size≤g)):=by
 refine ey Tryz.func83 rfl Tryz.ntmps83 rfl ?_
 have hno:∀{w':World} {z:Int},Kp [] w w'→eW room (ms.map Em.en) h x.t=z→z≠0→(Ending.returned (.int .i64 z)= .returned (.int .i64 (eW room (ms.map Em.en) h x.t))∧∃v' ms',Pl w' base p v' room ms'∧ms'.map Em.en=oX room (ms.map Em.en) h x.t∧Kp (p::aP v) w w'∧(∀g,v'.ownBlock=some g→v.ownBlock=some g∨w.heap.size≤g)):=fun hk hz hz0=>by
  refine⟨by rw[hz],v,ms,hP.ay hk,?_,hk.any,fun g hg=>Or.inl hg⟩
  unfold oX
  rw[if_neg (by rw[hz];exact hz0)]
 have hll:(ms.length:Int)≤1024:=by have:=hI.len;rw[List.length_map] at this;omega
 have hlp:=hP.blk.lt
 repeat apply aj
 refine SG.box rfl rfl rfl (ag rfl) (fun b5 w1 hk1 hb5 hB5=>?_)
 have hB5:aF w1 b5 (.cells (bV x).toArray 52):=hB5
 have lt5:=hB5.lt
 repeat (first|apply aj|(apply ar;rfl;(first|apply iC|apply az|apply aD)<;>rfl))
 refine bG rfl ?_
 by_cases h1:h<0
 ·have hz:eW room (ms.map Em.en) h x.t=2:=vh (Or.inl h1)
  repeat (first|apply aj|(apply ar;rfl;(first|apply az|apply cu|apply cG)<;>first|rfl|(apply bK;first|assumption|omega))|refine SG.skip rfl rfl ?_)
  refine bL rfl ?_
  repeat (first|apply aj|(apply ar;rfl;apply aD<;>rfl))
  refine aO (Or.inl rfl) Tryz.results83 (aC.tmp rfl) ?_
  exact hno hk1 hz (by decide)
 by_cases h2:1099511627776<h
 ·have hz:eW room (ms.map Em.en) h x.t=2:=vh (Or.inr h2)
  repeat (first|apply aj|(apply ar;rfl;(first|apply az|apply cu|apply cG|apply fW)<;>first|rfl|(apply bK;first|assumption|omega)|(apply bN;first|assumption|omega)))
  refine bL rfl ?_
  repeat (first|apply aj|(apply ar;rfl;apply aD<;>rfl))
  refine aO (Or.inl rfl) Tryz.results83 (aC.tmp rfl) ?_
  exact hno hk1 hz (by decide)
 repeat (first|apply aj|(apply ar;rfl;(first|apply az|apply cu|apply cG|apply fW)<;>first|rfl|(apply bN;first|assumption|omega)))
 refine bG rfl ?_
 have hh:¬(h<0∨1099511627776<h):=by omega
 clear h1 h2
 obtain⟨r0,-⟩:=aZ hB5
 repeat (first|apply aj|(apply ar;rfl;apply bj<;>first|rfl|assumption|exact List.not_mem_nil|apply au))
 refine SG.ret rfl rfl rfl (vs:=[eR x]) (bz.of rfl) (js (hx.ay hk1)) (fun w2 hk2=>?_)
 clear r0
 have k2:=hk1.trans hk2
 by_cases h3:bg x.t=0
 rotate_left
 ·have hz:=Df (room:=room) (l:=ms.map Em.en) hh h3
  generalize bg x.t=z at h3 hz
  repeat (first|apply aj|(apply ar;rfl;(first|apply az|apply aD|apply dK)<;>first|rfl|(apply bN;first|assumption|omega)))
  refine bL rfl ?_
  repeat (first|apply aj|(apply ar;rfl;(first|apply az|apply aD)<;>rfl))
  refine aO (Or.inl rfl) Tryz.results83 (aC.tmp rfl) ?_
  exact hno k2 hz h3
 rw[h3]
 have h00:(0:Int)=0:=rfl
 repeat (first|apply aj|(apply ar;rfl;(first|apply az|apply aD|apply dK)<;>first|rfl|(apply bK;first|assumption|omega)))
 refine bG rfl ?_
 have hB5:=hB5.ay hk2
 obtain⟨-,q0,q1,-⟩:=aZ hB5
 repeat (first|apply aj|(apply ar;rfl;(first|apply az|apply bf|apply bj|apply aW)<;>first|rfl|assumption|exact List.not_mem_nil|apply ah))
 refine SG.ret rfl rfl rfl (vs:=[.pointer (some ⟨p,0,none⟩),dv x.t.frm,.int .i64 x.t.non]) (bz.of rfl) (find_spec (hP.ay k2) (by omega) x.t.frm x.t.non) (fun w3 hk3=>?_)
 clear q0 q1
 have k3:=k2.trans hk3
 have hB5:=hB5.ay hk3
 repeat (apply ar;rfl;apply aD<;>rfl)
 refine SG.nil ?_
 refine NG.next ?_
 have hP3:=hP.ay k3
 have hbO:b5∉p::aP v:=fun hm=>by
  rcases List.mem_cons.1 hm with e|hm
  ·omega
  ·have:=cD hP.own b5 (aH hm)
   omega
 refine CG.iR (fun L w'=>aS [(0,.pointer (some ⟨p,0,none⟩)),(1,.int .i64 h),(5,.pointer (some ⟨b5,0,none⟩))] L∧∃v2 ms2,Pl w' base p v2 room ms2∧ms2.map Em.en=(ms.map Em.en).eraseIdx (gL (ms.map Em.en) x.t.frm x.t.non)∧Kp (p::aP v) w3 w'∧(∀g,v2.ownBlock=some g→v.ownBlock=some g)∧eW room (ms.map Em.en) h x.t=0∧ms2.length≤ms.length) ?_ ?_
 ·have hfi:=pU (l:=ms.map Em.en) (k:=x.t.frm) (n:=x.t.non)
  have hli:=B3 (ms:=ms) (k:=x.t.frm) (n:=x.t.non)
  by_cases hf:ms.findIdx (fun e=>jD x.t.frm x.t.non e.en)<ms.length
  ·rw[sL hf]
   generalize hi:ms.findIdx (fun e=>jD x.t.frm x.t.non e.en)=i at hf hli
   rw[hli,List.getElem?_eq_getElem (by simpa using hf),List.getElem_map] at hfi
   have gi:(0:Int)≤(i:Int):=by omega
   have gi2:¬(i:Int)<0:=by omega
   obtain⟨a,c,rfl,hc,hS⟩:=hP3.sl
   obtain⟨-,q1⟩:=hP3.rows
   obtain⟨b1,o1,rfl,hri⟩:=hS.at hf
   obtain⟨s0,-,-,-⟩:=eE hri
   have hxi:ms[i].x.In base w3:=hP3.ins _ (List.getElem_mem hf)
   repeat (first|apply aj|(apply ar;rfl;(first|apply az|apply jN)<;>first|rfl|(apply bK;first|assumption|omega)))
   refine bL rfl ?_
   repeat (first|apply aj|(apply ar;rfl;(first|apply az|apply bf|apply bj|apply aW|apply bM|apply fv)<;>first|rfl|(apply Ar.mk;omega)|assumption|exact List.not_mem_nil|apply au))
   refine SG.alloc rfl rfl rfl (fun b9 w4 hk4 hb9 hB9=>?_)
   refine SG.aN (l:=bV ms[i].x) rfl rfl (ag rfl) (ag rfl) hB9 (au _) rfl (cC _) (fun w5 hk5 hB9=>?_)
   have hB9:aF w5 b9 (.cells (bV ms[i].x).toArray 52):=hB9
   have k35:Kp [] w3 w5:=hk4.ai hk5 (aV (by omega))
   have hB5:=hB5.ay k35
   clear q1 hri s0
   obtain⟨t0,-⟩:=aZ hB9
   obtain⟨u0,-⟩:=aZ hB5
   repeat (first|apply aj|(apply ar;rfl;apply bj<;>first|rfl|assumption|exact List.not_mem_nil|apply au))
   refine SG.ret rfl rfl rfl (vs:=[eR ms[i].x,eR x]) (bz.of rfl) (pB (hxi.ay k35) ((hx.ay k3).ay k35)) (fun w6 hk6=>?_)
   clear t0 u0
   have k36:=k35.trans hk6
   have k6:=k3.trans k36
   by_cases hsame:ms[i].x.t=x.t
   ·have hz:=Ae (room:=room) hh h3 hfi hsame
    rw[vD hsame]
    repeat apply aj
    refine bL rfl ?_
    repeat (first|apply aj|(apply ar;rfl;apply aD<;>rfl))
    refine aO (Or.inl rfl) Tryz.results83 (aC.tmp rfl) ?_
    exact hno k6 hz (by decide)
   rw[rU hsame]
   repeat apply aj
   refine bG rfl ?_
   obtain⟨-,-,-,u2,-⟩:=aZ (hB5.ay hk6)
   obtain⟨-,-,-,t2,-⟩:=aZ (hB9.ay hk6)
   by_cases hfee:x.t.fee≤ms[i].x.t.fee
   ·have hz:=Dd (room:=room) hh h3 hfi hsame hfee
    repeat (first|apply aj|(apply ar;rfl;(first|apply bf|apply aW|apply Dt)<;>first|rfl|assumption|(apply bK;first|assumption|omega)|exact List.not_mem_nil))
    refine bL rfl ?_
    repeat (first|apply aj|(apply ar;rfl;apply aD<;>rfl))
    refine aO (Or.inl rfl) Tryz.results83 (aC.tmp rfl) ?_
    exact hno k6 hz (by decide)
   have hz:=De (room:=room) hh h3 hfi hsame hfee
   repeat (first|apply aj|(apply ar;rfl;(first|apply bf|apply aW|apply Dt)<;>first|rfl|assumption|(apply bN;first|assumption|omega)|exact List.not_mem_nil))
   refine bG rfl ?_
   clear u2 t2
   have hP6:=hP3.ay k36
   obtain⟨-,q1⟩:=hP6.rows
   repeat (first|apply aj|(apply ar;rfl;(first|apply az|apply bf|apply aW|apply bM|apply dG)<;>first|rfl|(apply Ar.mk;omega)|assumption|exact List.not_mem_nil))
   refine SG.call rfl rfl rfl (vs:=[.slice (some ⟨b1,o1,none⟩) ms.length c,.int .i64 (i:Int),.int .i64 ((i:Int)+1)]) (bz.of rfl) ((zK hP6.own (by omega) hf hP6.jw).mono (fun e w7 hh7=>?_))
   obtain⟨v7,he,hk7,ho7,hv7⟩:=hh7
   refine⟨_,he,?_⟩
   clear q1
   have hB7:=hP6.blk.kp hk7 hP6.np
   have hn7:∀b,v7.ownBlock=some b→b∉[p]:=cK ho7 (by decide) hB7
   obtain⟨a7,c7,rfl,-,-⟩:=Sl.own (l:=p8 ms i) aL ho7 rfl
   repeat (apply ar;rfl;(first|apply aW|apply bM)<;>rfl)
   refine SG.cr [.int .i64 room] [.slice (some ⟨b1,o1,none⟩) ms.length c] [] rfl rfl (ag rfl) (ag rfl) hB7 rfl rfl rfl rfl rfl (fun w8 hk8 hB8=>?_)
   have hP8:Pl w8 base p (.slice a7 (p8 ms i).length c7) room (p8 ms i):=by
    refine⟨hB8,bW ho7 hk8 hn7,fun e he=>?_,hP6.bp⟩
    have hm:e∈ms:=by
     rcases List.mem_append.1 he with h|h
     ·exact List.mem_of_mem_take h
     ·exact List.mem_of_mem_drop h
    refine(((hP6.ins e hm).gd hk7 (dh.own hP6.own (Nat.le_refl _) (by decide))).gd hk8 (dh.cons hP6.bp (dh.cells hB7 (by decide)) dh.nil))
   repeat apply aj
   refine NG.cut ⟨by(repeat' (first|exact True.intro|exact rfl|refine And.intro ?_ ?_)),_,_,hP8,by rw[hli];exact Ev _ _ _,((k36.any).trans (hk7.mono (fun z hz=>List.mem_cons_of_mem _ hz))).trans (hk8.mono (fun z hz=>by rw[List.mem_singleton] at hz;rw[hz];exact List.mem_cons_self)),hv7,hz,?_⟩
   unfold p8
   rw[List.length_append,List.length_take,List.length_drop]
   omega
  ·rw[sK hf]
   rw[hli,List.getElem?_eq_none (by rw[List.length_map];omega)] at hfi
   have gi:¬(0:Int)≤-1:=by omega
   obtain⟨a,c,rfl,hc,hS⟩:=hP3.sl
   obtain⟨q0,q1⟩:=hP3.rows
   repeat (first|apply aj|(apply ar;rfl;(first|apply az|apply jN)<;>first|rfl|(apply bN;first|assumption|omega)))
   refine bG rfl ?_
   repeat apply aj
   refine CG.tail mixed 9 [0,1,2,3,4,5,6,7,8] (by kernel_rfl) ?_
   repeat (apply bZ;rfl;rfl;(first|apply az|apply bf|apply aW|apply bM|apply dy)<;>first|rfl|assumption|exact List.not_mem_nil)
   refine aI.tl (fun w4 hk4 _ _=>?_)
   clear q0 q1
   by_cases hfull:room≤(ms.length:Int)
   ·have hz:=Af (room:=room) hh h3 hfi (by rw[List.length_map];exact hfull)
    repeat (first|apply aj|(apply ar;rfl;apply jN<;>first|rfl|(apply bK;first|assumption|omega)))
    refine bL rfl ?_
    repeat (first|apply aj|(apply ar;rfl;apply aD<;>rfl))
    refine aO (Or.inl rfl) Tryz.results83 (aC.tmp rfl) ?_
    exact hno (k3.trans hk4) hz (by decide)
   ·have hz:=Fk (room:=room) hh h3 hfi (by rw[List.length_map];exact hfull)
    repeat (first|apply aj|(apply ar;rfl;apply jN<;>first|rfl|(apply bN;first|assumption|omega)))
    refine bG rfl ?_
    repeat apply aj
    refine NG.cut ⟨by(repeat' (first|exact True.intro|exact rfl|refine And.intro ?_ ?_)),_,_,hP3.ay hk4,?_,hk4.any,fun _ h=>h,hz,Nat.le_refl _⟩
    rw[hli,List.eraseIdx_of_length_le (by rw[List.length_map];omega)]
 rintro L w4 ⟨hLL,v2,ms2,hP4,hms,hk4,hv2,hz,hl2⟩
 refine CG.to _ hLL ?_
 clear hLL L hno
 have k4:Kp (p::aP v) w w4:=k3.any.trans hk4
 have hB5:=hB5.kp hk4 hbO
 have hx4:x.In base w4:=(hx.ay k3).gd hk4 hP3.Hu
 obtain⟨u0,-⟩:=aZ hB5
 obtain⟨-,q1⟩:=hP4.rows
 have hl1:=hx.l1
 have hsz:=hP4.jw
 have hSl:∀z∈aP v2,z<w4.heap.size:=fun z hz=>cD hP4.own z (aH hz)
 have hO:=dh.own hP4.own (Nat.le_refl _) (by decide)
 have nbp:p∉aP v2:=hP4.np
 have nb5:b5∉aP v2:=fun hm=>by
  have:=cD hP.own b5 (hv2 b5 (aH hm))
  omega
 obtain⟨a2,c2,rfl,-,-⟩:=hP4.sl
 obtain⟨F',hF'⟩:∃F':{y:Tm//y.t=x.t}→World→Prop,F'=fun y W=>y.1.In base W∧(∀b off,y.1.a1=some ⟨b,off,none⟩→w4.heap.size≤b)∧(∀b off,y.1.a2=some ⟨b,off,none⟩→w4.heap.size≤b):=⟨_,rfl⟩
 have hst:∀y,cm (aP (.slice a2 ms2.length c2)) (F' y):=fun y W W' hk h=>by
  rw[hF'] at h⊢
  obtain⟨h1,h2,h3⟩:=h
  have n1:∀b off,y.1.a1=some ⟨b,off,none⟩→b∉aP (.slice a2 ms2.length c2):=fun b off e hm=>by have:=h2 b off e;have:=hSl b hm;omega
  have n2:∀b off,y.1.a2=some ⟨b,off,none⟩→b∉aP (.slice a2 ms2.length c2):=fun b off e hm=>by have:=h3 b off e;have:=hSl b hm;omega
  exact⟨⟨h1.b.kp hk n1,h1.s.kp hk n2,h1.t1.kp hk (fun _=>n1),h1.t2.kp hk (fun _=>n2),h1.l1,h1.l2⟩,h2,h3⟩
 repeat apply aj
 refine CG.dM mixed 13 [0,1,2,3,4,5,7,8,9,6,10,11,12] [6,11,12] (aP (.slice a2 ms2.length c2)) (fun w=>w.ownsRow base 216 22 (.slice a2 ms2.length c2) ms2.length (bO ec ms2)) (by kernel_rfl) hP4.own (fun _ _ hk h=>aT h hk) ?_
 repeat (apply bZ;rfl;rfl;(first|apply az|apply bf|apply bj|apply aW|apply bM)<;>first|rfl|assumption|apply au)
 refine aI.call rfl rfl rfl (vs:=[eR x]) (bz.of rfl) (fun W hk _=>iP (hx4.gd hk hO)) ?_
 repeat (apply bZ;rfl;rfl;apply az<;>rfl)
 refine aI.CQ (X:={y:Tm//y.t=x.t}) (vs:=[eR x]) (fun y=>eR y.1) F' (fun _ W=>W.ownsRow base 216 22 (.slice a2 ms2.length c2) ms2.length (bO ec ms2)) rfl rfl rfl rfl (bz.of rfl) hst (fun _ _ _ hk h=>aT h hk) (fun _ _ _ h=>h) (fun W hk _ hR=>(fO (hx4.gd hk hO)).mono (fun e W' hh=>?_)) (fun y=>?_)
 ·obtain⟨y,hy,he,hin,hky,g1,g2⟩:=hh
  refine⟨⟨y,hy⟩,he,?_,aT hR hky,hky.any⟩
  rw[hF']
  exact⟨hin.mono (Nat.zero_le _),fun b off e=>Nat.le_trans hk.size (g1 b off e),fun b off e=>Nat.le_trans hk.size (g2 b off e)⟩
 refine aI.val rfl rfl rfl (aG rfl (fun W=>IL W y.1 (aR x.t) h)) ?_
 refine aI.jt (cs:=(bV y.1++(dc (aR x.t)++[Value.int .i64 h])).toArray) (E:=216) rfl rfl rfl rfl rfl (fun W=>CX y.1 (aR x.t) h W) hSl (fun W W' hk h=>⟨trivial,hst y W W' hk h.2⟩) (fun _ _ hk h=>aT h hk) (fun bn=>?_)
 have eec:ec ⟨y.1,h⟩=bV y.1++(dc (aR x.t)++[Value.int .i64 h]):=by
  have:=y.2
  unfold ec
  rw[this]
 refine aI.jy (base:=base) (e:=216) (i:=Tryz.t216) (f:=ty.i216) (v:= .slice a2 ms2.length c2) (nn:=ms2.length) (xs:=bO ec ms2) (b:=bn) (off:=0) (m:=1) (c:=1) (news:=bV y.1++(dc (aR x.t)++[Value.int .i64 h])) rfl rfl rfl rfl (ag rfl) (ag rfl) rfl rfl rfl (fun W hk hF=>Row.all hF.2.2 rfl) (by rw[←eec,aL];rfl) (by rw[←eec];exact gU _) (by simp only[maxLen];omega) (by show(ms2.length+1)*96≤_;omega) hsz (fun _ h=>h) (fun W W' hk hF=>⟨⟨trivial,hst y W W' hk hF.1.2⟩,hF.2.1,hF.2.2.kp hk (fun hm=>by have:=hSl _ hm;have:=hF.2.1;omega)⟩) (fun v5=>?_)
 refine aI.tl (fun w5 hk5 hF ho5=>?_)
 obtain⟨⟨⟨-,hFy⟩,-⟩,hv5⟩:=hF
 rw[hF'] at hFy
 have ho5:w5.ownsRow base 216 22 v5 (ms2++[(⟨y.1,h⟩:Em)]).length (bO ec (ms2++[(⟨y.1,h⟩:Em)])):=by
  rw[dx,gp,eec,List.length_append]
  exact ho5
 have hB5:=hP4.blk.kp hk5 nbp
 have hn5:∀b,v5.ownBlock=some b→b∉[p]:=cK ho5 (by decide) hB5
 obtain⟨a5,c5,rfl,-,-⟩:=Sl.own aL ho5 rfl
 clear q1 u0
 refine SG.val rfl rfl rfl rfl (by first|(apply bM<;>(exact rfl))|fail) ?_
 refine SG.val rfl rfl rfl rfl (by first|(apply aW<;>(exact rfl))|fail) ?_
 refine SG.cr [.int .i64 room] [.slice a2 ms2.length c2] [] rfl rfl (ag rfl) (ag rfl) hB5 rfl rfl rfl rfl rfl (fun w6 hk6 hB6=>?_)
 repeat (first|apply aj|(apply ar;rfl;apply aD<;>rfl))
 refine aO (Or.inl rfl) Tryz.results83 (aC.tmp rfl) ?_
 refine⟨by rw[hz],_,ms2++[(⟨y.1,h⟩:Em)],⟨hB6,bW ho5 hk6 hn5,fun e he=>?_,hP4.bp⟩,?_,?_,fun g hg=>?_⟩
 ·have hO6:dh base w5 [p]:=dh.cons hP4.bp (dh.cells hB5 (by decide)) dh.nil
  rcases List.mem_append.1 he with he|he
  ·exact((hP4.ins e he).gd hk5 hO).gd hk6 hO6
  ·rw[List.mem_singleton] at he
   subst he
   exact hFy.1.gd hk6 hO6
 ·rw[List.map_append,hms]
  unfold oX
  rw[if_pos hz]
  unfold Di
  have:Em.en ⟨y.1,h⟩=⟨x.t,h⟩:=by
   unfold Em.en
   rw[y.2]
  simp only[List.map_cons,List.map_nil,this]
 ·refine(k4.st hk5 (fun z hz=>?_)).st hk6 (fun z hz=>?_)
  ·exact Or.inl (List.mem_cons_of_mem _ (gg (hv2 z (aH hz))))
  ·rw[List.mem_singleton] at hz
   subst hz
   exact Or.inl List.mem_cons_self
 ·rcases hv5 g hg with hh|hh
  ·exact Or.inl (hv2 g hh)
  ·have:=k4.size
   exact Or.inr (by omega)
end
section
section
variable {κ ν:Type} {enc:κ→Value} {V:ν→Value} {m:List (κ×ν)} {w w':World} {b:Nat} {P:Program} {k T E:TypeId}
def Hn(P:Program)(T:TypeId)(b:Nat)(st:Int)(o':Obj)(enc:κ→Value)(V:ν→Value)[DecidableEq κ](m:List (κ×ν))(x:κ):Prop:=
 ∀(w2:World) (y:ν),aF w2 b o'→∃o2,(Instr.entryStore T (.map (some b)) (.int .i64 st) (V y)).run P w2= .ok () {w2 with heap:=w2.heap.setIfInBounds b o2}∧aE {w2 with heap:=w2.heap.setIfInBounds b o2} b enc V (cF m x y)∧Kp [b] w2 {w2 with heap:=w2.heap.setIfInBounds b o2}
theorem rX[DecidableEq κ][u:Ut P T (.map k E)]{i:TypeInfo}[f:dp P E i]{z:Value}(hz:i.zero=some z)(h:aE w b enc V m)(K:cT P k enc)(x:κ):
  ∃(st:Int) (o':Obj),(Instr.mapEntry T (.map (some b)) (enc x)).run P w= .ok (.tuple #[(aB m x).elim z V,.int .i64 st]) {w with heap:=w.heap.setIfInBounds b o'}∧Kp [b] w {w with heap:=w.heap.setIfInBounds b o'}∧aF {w with heap:=w.heap.setIfInBounds b o'} b o'∧(∃es cl,o'= .map es cl)∧Hn P T b st o' enc V m x:=by
 obtain⟨es,c,hb,hst,hm,hks⟩:=h.keys K
 obtain⟨l,hl⟩:=K.key x
 have hb':w.heap[b]?=some (.map es c):=hb
 rcases K.law.find w hl es.toList hks with⟨h1,h2⟩|⟨j,e0,h1,h2,h3⟩
 ·have hn:=(fc K.inj hm (x:=x)).1 h2
  rw[hn]
  refine⟨c,.map (es.push ⟨enc x,z,c⟩) (c+1),?_,Kp.set w hb rfl rfl,hb.set _,⟨_,_,rfl⟩,fun w2 y hB2=>⟨.map (es.push ⟨enc x,V y,c⟩) (c+1),?_,⟨_,_,hB2.set _,MapKept.stamped_push hst h2,?_⟩,Kp.set w2 hB2 rfl rfl⟩⟩
  ·simp[Instr.mapEntry,run_underlying u.eq,MapKept.run_getObj_map hb',K.law.check w _ hl,h1,jT (f:=f) hz,MapKept.run_setObj_map _ hb',Result.andThen,goInt]
  ·have hw2:w2.heap[b]?=some (.map (es.push ⟨enc x,z,c⟩) (c+1)):=hB2
   have hidx:(es.push ⟨enc x,z,c⟩).findIdx? (fun e=>((e.born:Nat):Int)==((c:Nat):Int))=some es.size:=by
    rw[WideElems.findIdx_arr]
    have:=WideElems.findIdx_born (l:=(es.push ⟨enc x,z,c⟩).toList) (j:=es.size) (e0:=⟨enc x,z,c⟩) (by
     simp only[Array.toList_push,List.map_append,List.map_cons,List.map_nil]
     refine List.nodup_append.2 ⟨((MapKept.stamped_iff es c).1 hst).2.1,by simp,fun a ha c2 hc e1=>?_⟩
     simp only[List.mem_singleton] at hc
     obtain⟨x2,hx,rfl⟩:=List.mem_map.1 ha
     have:=((MapKept.stamped_iff es c).1 hst).1 x2 hx
     omega) (by simp)
    exact this
   have hmod:(es.push ⟨enc x,z,c⟩).modify es.size (fun e=>{e with val:=V y})=es.push ⟨enc x,V y,c⟩:=by
    apply Array.ext'
    rw[Array.toList_modify,Array.toList_push,Array.toList_push,←Array.length_toList,WideElems.modify_last]
   simp[Instr.entryStore,MapKept.run_getObj_map hw2,asInt,asIntOf,hidx,hmod,MapKept.run_setObj_map _ hw2,Result.andThen]
  ·rw[hZ y hn]
   simp[hm]
 ·obtain⟨y0,hy,hv,_,h4⟩:=(fc K.inj hm (x:=x)).2 j e0 h2 h3 hst.2.2
  have hj:es[j]?=some e0:=by simpa using h2
  have hsame:es.modify j (fun e=>{e with key:=enc x})=es:=by
   apply Array.ext'
   rw[Array.toList_modify,ChangeMaps.modify_eq_set _ _ _ _ h2]
   have:({e0 with key:=enc x}:MapEntry)=e0:=by rw[←h3]
   rw[this]
   exact WideElems.set_self _ _ _ h2
  rw[hy]
  refine⟨e0.born,.map es c,?_,Kp.set w hb rfl rfl,hb.set _,⟨_,_,rfl⟩,fun w2 y hB2=>⟨.map (es.modify j fun e=>{e with key:=enc x,val:=V y}) c,?_,⟨_,_,hB2.set _,MapKept.stamped_modify hst _ _ (fun _ _=>rfl) (fun e' _ he'=>?_),?_⟩,Kp.set w2 hB2 rfl rfl⟩⟩
  ·simp[Instr.mapEntry,run_underlying u.eq,MapKept.run_getObj_map hb',K.law.check w _ hl,h1,hj,h3,K.law.stays w hl,hsame,hv,MapKept.run_setObj_map _ hb',Result.andThen,goInt]
  ·have hw2:w2.heap[b]?=some (.map es c):=hB2
   have hidx:es.findIdx? (fun e=>((e.born:Nat):Int)==((e0.born:Nat):Int))=some j:=by
    rw[WideElems.findIdx_arr]
    exact WideElems.findIdx_born ((MapKept.stamped_iff es c).1 hst).2.1 h2
   have hmod:es.modify j (fun e=>{e with val:=V y})=es.modify j (fun e'=>{e' with key:=enc x,val:=V y}):=by
    apply Array.ext'
    rw[Array.toList_modify,Array.toList_modify,ChangeMaps.modify_eq_set _ _ _ _ h2,ChangeMaps.modify_eq_set _ _ _ _ h2,←h3]
   simp[Instr.entryStore,MapKept.run_getObj_map hw2,asInt,asIntOf,hidx,hmod,MapKept.run_setObj_map _ hw2,Result.andThen]
  ·rw[hj] at he'
   cases he'
   exact h3.symm
  ·rw[Array.toList_modify,ChangeMaps.modify_eq_set _ _ _ _ h2]
   exact h4 y
variable {n:Nat} {Q:Exit→Act→World→Prop} {L:Env} {ops rest:List Oper} {ty:TypeId} {pos:String} {af:Array Edge} {g:Option (Nat×Bool)}
theorem SG.mapEntry[DecidableEq κ]{d:Nat}[u:Ut P T (.map k E)]{i:TypeInfo}[f:dp P E i]{z:Value}{a x:Operand}{kx:κ}(hd:Nat.blt d n=true)
  (hw:want ops L ⟨some d,.mapEntry T a x,ty,pos,af,g⟩=some true) (hk:(known L a&&known L x)=true) (ha:bB L a= .map (some b)) (hx:bB L x=enc kx) (hm:aE w b enc V m) (K:cT P k enc) (hz:i.zero=some z)
  (h:∀st o' w1,Kp [b] w w1→aF w1 b o'→(∃es cl,o'= .map es cl)→Hn P T b st o' enc V m kx→SG P n ops Q rest ((d,.tuple #[(aB m kx).elim z V,.int .i64 st])::L) w1):SG P n ops Q (⟨some d,.mapEntry T a x,ty,pos,af,g⟩::rest) L w:=by
 refine SG.op (by simpa using hd) rfl hw (by simpa[Op.operands] using hk) ?_
 unfold bh
 obtain⟨st,o',h1,h2,h3,h5,h4⟩:=rX (P:=P) (u:=u) (f:=f) hz hm K kx
 have:(execOp (bB L) ⟨some d,.mapEntry T a x,ty,pos,af,g⟩).run P w= .ok (.value (.tuple #[(aB m kx).elim z V,.int .i64 st])) {w with heap:=w.heap.setIfInBounds b o'}:=by
  simp only[execOp,ha,hx,Sem.run_bind,h1,Result.andThen,Sem.run_pure]
 rw[this]
 exact h st o' _ h2 h3 h5 h4
theorem SG.entryStore[DecidableEq κ]{a s x:Operand}{kx:κ}{vy:ν}{st:Int}{o':Obj}
  (hw:want ops L ⟨none,.entryStore T a s x,ty,pos,af,g⟩=some true) (hk:(known L a&&(known L s&&known L x))=true) (ha:bB L a= .map (some b)) (hs:bB L s= .int .i64 st) (hx:bB L x=V vy) (he:Hn P T b st o' enc V m kx) (hB:aF w b o')
  (h:∀w',Kp [b] w w'→aE w' b enc V (cF m kx vy)→SG P n ops Q rest L w'):SG P n ops Q (⟨none,.entryStore T a s x,ty,pos,af,g⟩::rest) L w:=by
 refine SG.op rfl rfl hw (by simpa[Op.operands] using hk) ?_
 unfold bh
 obtain⟨o2,h1,h2,h3⟩:=he w vy hB
 have:(execOp (bB L) ⟨none,.entryStore T a s x,ty,pos,af,g⟩).run P w= .ok .skip {w with heap:=w.heap.setIfInBounds b o2}:=by
  simp only[execOp,ha,hs,hx,Sem.run_bind,h1,Result.andThen,Sem.run_pure]
 rw[this]
 exact h _ h3 h2
end
end
section
open Go.Proofs Go.Shelf
def xF:Go.Shelf.Ren:=⟨fun|6=>195|15=>114|14=>199|28=>156|29=>157|20=>201|21=>202|22=>203|23=>204|24=>205|25=>206|26=>207|27=>208|46=>210|47=>175|48=>176|49=>211|50=>212|57=>217|n=>n,fun|22=>245|24=>3|25=>302|3=>3|39=>208|0=>0|53=>259|55=>183|4=>4|46=>253|45=>252|50=>90|5=>5|9=>9|66=>273|70=>277|76=>298|77=>299|n=>n,fun n=>n⟩
theorem HP:SlLaysF0.n6 Tryz.prog xF where
 mixed:=by kernel_rfl
 f6:=⟨"slices.SortFunc[[]int,int]",by decide,Tryz.func195.trans (congrArg some (by kernel_rfl))⟩
 f14:=⟨"slices.pdqsortCmpFunc[int]",by decide,Tryz.func199.trans (congrArg some (by kernel_rfl))⟩
 f15:=Tryz.func114.trans (congrArg some (by kernel_rfl))
 f20:=⟨"slices.insertionSortCmpFunc[int]",by decide,Tryz.func201.trans (congrArg some (by kernel_rfl))⟩
 f21:=⟨"slices.heapSortCmpFunc[int]",by decide,Tryz.func202.trans (congrArg some (by kernel_rfl))⟩
 f22:=⟨"slices.breakPatternsCmpFunc[int]",by decide,Tryz.func203.trans (congrArg some (by kernel_rfl))⟩
 f23:=⟨"slices.choosePivotCmpFunc[int]",by decide,Tryz.func204.trans (congrArg some (by kernel_rfl))⟩
 f24:=⟨"slices.reverseRangeCmpFunc[int]",by decide,Tryz.func205.trans (congrArg some (by kernel_rfl))⟩
 f25:=⟨"slices.partialInsertionSortCmpFunc[int]",by decide,Tryz.func206.trans (congrArg some (by kernel_rfl))⟩
 f26:=⟨"slices.partitionEqualCmpFunc[int]",by decide,Tryz.func207.trans (congrArg some (by kernel_rfl))⟩
 f27:=⟨"slices.partitionCmpFunc[int]",by decide,Tryz.func208.trans (congrArg some (by kernel_rfl))⟩
 f28:=Tryz.func156.trans (congrArg some (by kernel_rfl))
 f29:=Tryz.func157.trans (congrArg some (by kernel_rfl))
 f46:=⟨"slices.siftDownCmpFunc[int]",by decide,Tryz.func210.trans (congrArg some (by kernel_rfl))⟩
 f47:=Tryz.func175.trans (congrArg some (by kernel_rfl))
 f48:=Tryz.func176.trans (congrArg some (by kernel_rfl))
 f49:=⟨"slices.medianAdjacentCmpFunc[int]",by decide,Tryz.func211.trans (congrArg some (by kernel_rfl))⟩
 f50:=⟨"slices.medianCmpFunc[int]",by decide,Tryz.func212.trans (congrArg some (by kernel_rfl))⟩
 f57:=⟨"slices.order2CmpFunc[int]",by decide,Tryz.func217.trans (congrArg some (by kernel_rfl))⟩
 t0:=Tryz.underlying0
 a0:=Tryz.isAgg0
 z0:=Tryz.sizeOf0
 v0:=Tryz.zeroValue0
 t3:=Tryz.underlying3
 a3:=Tryz.isAgg3
 z3:=Tryz.sizeOf3
 v3:=Tryz.zeroValue3
 t4:=Tryz.underlying4
 a4:=Tryz.isAgg4
 z4:=Tryz.sizeOf4
 v4:=Tryz.zeroValue4
 t5:=Tryz.underlying5
 a5:=Tryz.isAgg5
 z5:=Tryz.sizeOf5
 v5:=Tryz.zeroValue5
 t9:=Tryz.underlying9
 a9:=Tryz.isAgg9
 z9:=Tryz.sizeOf9
 v9:=Tryz.zeroValue9
 t22:=Tryz.underlying245
 a22:=Tryz.isAgg245
 z22:=Tryz.sizeOf245
 v22:=Tryz.zeroValue245
 t25:=Tryz.underlying302
 a25:=Tryz.isAgg302
 z25:=Tryz.sizeOf302
 v25:=Tryz.zeroValue302
 t39:=Tryz.underlying208
 a39:=Tryz.isAgg208
 z39:=Tryz.sizeOf208
 v39:=Tryz.zeroValue208
 t45:=Tryz.underlying252
 a45:=Tryz.isAgg252
 z45:=Tryz.sizeOf252
 v45:=Tryz.zeroValue252
 t46:=Tryz.underlying253
 a46:=Tryz.isAgg253
 z46:=Tryz.sizeOf253
 v46:=Tryz.zeroValue253
 t50:=Tryz.underlying90
 a50:=Tryz.isAgg90
 z50:=Tryz.sizeOf90
 v50:=Tryz.zeroValue90
 t53:=Tryz.underlying259
 a53:=Tryz.isAgg259
 z53:=Tryz.sizeOf259
 v53:=Tryz.zeroValue259
 t55:=Tryz.underlying183
 a55:=Tryz.isAgg183
 z55:=Tryz.sizeOf183
 v55:=Tryz.zeroValue183
 t66:=Tryz.underlying273
 a66:=Tryz.isAgg273
 z66:=Tryz.sizeOf273
 v66:=Tryz.zeroValue273
 t70:=Tryz.underlying277
 a70:=Tryz.isAgg277
 z70:=Tryz.sizeOf277
 v70:=Tryz.zeroValue277
 t76:=Tryz.underlying298
 a76:=Tryz.isAgg298
 z76:=Tryz.sizeOf298
 v76:=Tryz.zeroValue298
 t77:=Tryz.underlying299
 a77:=Tryz.isAgg299
 z77:=Tryz.sizeOf299
 v77:=Tryz.zeroValue299
end
section
open Go.Proofs Go.Shelf Go.Sort
theorem Kp.grown{w w':World}(h:Kp [] w w'):∃q os',w'=grow (w.drewN q) os':=by
 refine⟨w'.drawn-w.drawn,w'.heap.extract w.heap.size w'.heap.size,?_⟩
 obtain⟨h1,h2,h3,h4,h5,h6,h7⟩:=h
 obtain⟨hp,tp,dr,os,out⟩:=w
 obtain⟨hp',tp',dr',os',out'⟩:=w'
 simp only at h1 h2 h3 h4 h5 h7
 subst h3
 subst h4
 subst h5
 have e1:hp'=hp++hp'.extract hp.size hp'.size:=by
  apply Array.ext_getElem?
  intro i
  rw[Array.getElem?_append]
  by_cases hi:i<hp.size
  ·rw[if_pos hi]
   exact h2 i hi (by simp)
  ·rw[if_neg hi,Array.getElem?_extract]
   by_cases hi2:i<hp'.size
   ·rw[if_pos (by omega),show hp.size+(i-hp.size)=i by omega]
   ·rw[if_neg (by omega),Array.getElem?_eq_none (by omega)]
 have e2:dr'=dr+(dr'-dr):=by omega
 simp only[grow,World.drewN,World.mk.injEq,true_and,and_true]
 exact⟨e1,e2⟩
theorem Kp.grow(w:World)(os:Array Obj):Kp [] w (grow w os):=by
 refine⟨by simp,fun b hb _=>?_,rfl,rfl,rfl,fun a ha=>?_,Nat.le_refl _⟩
 ·show(w.heap++os)[b]?=_
  rw[Array.getElem?_append,if_pos hb]
 ·refine ix ?_
  show(w.heap++os)[a.block]?=_
  rw[Array.getElem?_append,if_pos ha]
theorem Kp.ahead(w:World)(n:Nat):Kp [] w (Go.Sort.ahead w n):=⟨Nat.le_refl _,fun _ _ _=>rfl,rfl,rfl,rfl,fun _ _=>rfl,Nat.le_add_right _ _⟩
theorem mL{w:World}{g:Nat}{cs:Array Value}{T:TypeId}{fz:Nat×Nat}(h:aF w g (.cells cs T fz))(f:Array Value→Array Value):mapBlock w g f={w with heap:=w.heap.setIfInBounds g (.cells (f cs) T fz)}:=by
 unfold mapBlock
 congr 1
 apply Array.ext_getElem?
 intro i
 rw[Array.getElem?_modify,Array.getElem?_setIfInBounds]
 by_cases e:g=i
 ·subst e
  rw[if_pos rfl,if_pos rfl,if_pos h.lt]
  have h':w.heap[g]?=some (.cells cs T fz):=h
  rw[h']
  rfl
 ·rw[if_neg e,if_neg e]
section
variable {α:Type} [Inhabited α] {enc:α→List Value} {k:Nat}
theorem EM(hk0:0<k)(hk:∀x,(enc x).length=k):∀(l:List α) (t:Nat),t<l.length*k→(bO enc l)[t]?=some ((enc l.toArray[t/k]!)[t%k]!):=by
 intro l
 induction l with
 |nil=>intro t h;simp at h
 |cons x l ih=>
  intro t h
  have e:bO enc (x::l)=enc x++bO enc l:=by simp[bO]
  rw[e]
  by_cases ht:t<k
  ·rw[List.getElem?_append_left (by rw[hk];exact ht),Nat.div_eq_of_lt ht,Nat.mod_eq_of_lt ht]
   have:t<(enc x).length:=by rw[hk];exact ht
   simp[this]
  ·rw[List.getElem?_append_right (by rw[hk];omega),hk]
   have h':t-k<l.length*k:=by
    simp only[List.length_cons,Nat.add_mul,Nat.one_mul] at h
    omega
   rw[ih (t-k) h']
   have d1:t/k=(t-k)/k+1:=by
    rw[Nat.div_eq_sub_div hk0 (by omega)]
   have d2:t%k=(t-k)%k:=by rw[Nat.mod_eq_sub_mod (by omega)]
   rw[d1,d2]
   simp
end
end
section
open Go.Proofs Go.Shelf Go.Sort
section
variable {α:Type} [Inhabited α] {enc:α→List Value} {k:Nat}
end
end
section
open Go.Proofs Go.Shelf Go.Sort
theorem j9{α:Type}(e:α→Value):∀l:List α,bO (fun x=>[e x]) l=l.map e
 |[]=>rfl
 |x::l=>by
  have:=j9 e l
  simp only[bO,List.flatMap_cons,List.map_cons] at*
  rw[this]
  rfl
section
variable {α:Type} [Inhabited α] {e:α→Value}
theorem yP{P:Program}{ρ:Ren}(L:SlLaysF.n6 P ρ)(hone:∀x,jJ (e x)=true)
  (cf:α→α→Int) (hO:SWO (ltOf cf)) (g:Nat) (eg:∀args w,(callFunc g args).run P w= .ok (.enter g args) w)
  (cb:List Value) {w:World} {base:Nat} {T:TypeId} {v:Value} {l:List α} (ho:w.ownsRow base T 1 v l.length (bO (fun x=>[e x]) l)) (hsz:l.length<4611686018427387904)
  (hcmp:∀x y W,Kp (aP v) w W→Calls P g (#[e x,e y]++cb.toArray) W (fun e' w'=>e'= .returned (.int .i64 (cf x y))∧Kp [] W w')):
  Calls P (ρ.f 6) #[v,j8 g cb] w (fun e' w'=>e'= .returned (.tuple #[])∧Kp (aP v) w w'∧∃l',l'.Perm l∧l'.Pairwise (fun x y=>ltOf cf y x=false)∧w'.ownsRow base T 1 v l.length (bO (fun x=>[e x]) l')):=by
 have h1:OneCell e:=fun x=>by rw[mI];exact hone x
 have ho':=ho
 obtain⟨hlen,⟨rfl,h0⟩|⟨b,cap,cur,rfl,hb,hh,hc1,hc2,hc3,hc4⟩⟩:=ho
 ·have hl:l=[]:=by cases l with
   |nil=>rfl
   |cons x l=>simp at h0
  subst hl
  exact(AnyF.slices_SortFunc_none (P:=P) (ρ:=ρ) {L with} none 0 _ w).mono (fun e w' ⟨he,hw⟩=>⟨he,by rw[hw];exact Kp.refl _ _,[],List.Perm.refl _,List.Pairwise.nil,by rw[hw];exact ho'⟩)
 have hB:aF w b (.cells cur T (0,0)):=hh
 rw[j9] at hc4
 rw[Nat.mul_one] at hc3 hc4
 have hcur:∀t (ht:t<l.length),cur[t]?=some (e l[t]):=fun t ht=>by
  have:=congrArg (fun x=>x[t]?) hc4
  simp only[List.getElem?_map,List.getElem?_eq_getElem ht,Option.map_some] at this
  rw[←this,List.getElem?_take_of_lt ht,Array.getElem?_toList]
 have hH:Holds e w b 0 l.toArray:=fun j hj=>by
  have hj':j<l.length:=by simpa using hj
  refine⟨?_,fR (o:= .cells cur T (0,0)) hh rfl⟩
  unfold World.cell?
  simp only[hh,Nat.zero_add]
  rw[getElem!_pos l.toArray j hj]
  simpa using hcur j hj'
 have hkw:∀(m:Nat) (os:Array Obj) (dk:Array α),Kp [b] w (sortWorld e w b 0 m dk os):=fun m os dk=>by
  have hBa:aF (Go.Sort.ahead w m) b (.cells cur T (0,0)):=hh
  have hset:putRow e (Go.Sort.ahead w m) b 0 dk={Go.Sort.ahead w m with heap:=(Go.Sort.ahead w m).heap.setIfInBounds b (.cells (putCells e 0 dk cur) T (0,0))}:=mL hBa _
  have hk1:Kp [b] (Go.Sort.ahead w m) (putRow e (Go.Sort.ahead w m) b 0 dk):=by
   rw[hset]
   exact Kp.set _ hBa rfl rfl
  exact((Kp.ahead w m).any.trans hk1).trans (Kp.grow _ _).any
 have hcl:CmpLays1 P g cb.toArray e cf b 0 l.toArray.size w:=fun m os dk hdk x y=>(hcmp x y _ (hkw m os dk)).mono (fun e w' ⟨he,hw⟩=>⟨he,hw.grown⟩)
 have hc:=Any.slices_SortFunc L e h1 cf hO g cb.toArray b 0 cap l.toArray w eg hcl hH hB.lt (by simpa using hsz)
 refine(show Calls P (ρ.f 6) #[.slice (some ⟨b,0,none⟩) l.length cap,j8 g cb] w _ from hc).mono (fun e2 w' hh'=>?_)
 obtain⟨he,d',n,os,⟨hp1,hp2,hp3⟩,hs,rfl⟩:=hh'
 have hd':d'.size=l.length:=by simpa using hp1
 have hperm:d'.toList.Perm l:=by
  have e1:(d'.extract 0 l.toArray.size).toList=d'.toList:=by
   have:l.toArray.size=d'.size:=hp1.symm
   rw[this]
   simp
  have e2:(l.toArray.extract 0 l.toArray.size).toList=l:=by simp
  rw[e1,e2] at hp3
  exact hp3
 have hBa:aF (Go.Sort.ahead w n) b (.cells cur T (0,0)):=hh
 have hset:putRow e (Go.Sort.ahead w n) b 0 d'={Go.Sort.ahead w n with heap:=(Go.Sort.ahead w n).heap.setIfInBounds b (.cells (putCells e 0 d' cur) T (0,0))}:=mL hBa _
 have hk1:Kp [b] (Go.Sort.ahead w n) (putRow e (Go.Sort.ahead w n) b 0 d'):=by
  rw[hset]
  exact Kp.set _ hBa rfl rfl
 refine⟨he,?_,d'.toList,hperm,?_,?_⟩
 ·show Kp [b] w _
  exact((Kp.ahead w n).any.trans hk1).trans (Kp.grow _ _).any
 ·rw[List.pairwise_iff_getElem]
  intro i j hi hj hij
  have:=hs i j (Nat.zero_le _) hij (by simp at hj⊢;omega)
  rw[getElem!_pos d' i (by simpa using hi),getElem!_pos d' j (by simpa using hj)] at this
  simpa using this
 ·have hlist:d'.toList.length=l.length:=by simpa using hd'
  refine⟨by rw[bY (sz:=1) (fun _=>rfl),hlist],Or.inr ⟨b,cap,putCells e 0 d' cur,rfl,hb,?_,hc1,hc2,by simp[putCells,hc3],?_⟩⟩
  ·have:aF (putRow e (Go.Sort.ahead w n) b 0 d') b (.cells (putCells e 0 d' cur) T (0,0)):=by
    rw[hset]
    show((Go.Sort.ahead w n).heap.setIfInBounds b _)[b]?=_
    rw[Array.getElem?_setIfInBounds,if_pos rfl,if_pos hBa.lt]
   exact this.ay (Kp.grow _ _)
  ·rw[j9,Nat.mul_one]
   apply List.ext_getElem?
   intro t
   by_cases ht:t<l.length
   ·have htc:t<cur.size:=by omega
    have htd:t<d'.size:=by omega
    rw[List.getElem?_take_of_lt ht,Array.getElem?_toList,List.getElem?_map,Array.getElem?_toList]
    simp only[putCells,Array.getElem?_mapIdx,Array.getElem?_eq_getElem htc,Option.map_some,Nat.zero_le,true_and,Nat.zero_add,Nat.sub_zero]
    rw[if_pos htd,getElem!_pos d' t htd,Array.getElem?_eq_getElem htd]
    rfl
   ·rw[List.getElem?_eq_none (by simp;omega),List.getElem?_eq_none (by simp[hd'];omega)]
end
end
section
open Go.Proofs Go.Shelf Go.Sort
theorem DU{α:Type}(cf:α→α→Int)(key:α→Nat)(h:∀x y,cf x y<0↔key x<key y):SWO (ltOf cf) where
 irrefl x:=decide_eq_false (by rw[h];omega)
 trans x y z h1 h2:=by
  have h1:=of_decide_eq_true h1
  have h2:=of_decide_eq_true h2
  rw[h] at h1 h2
  exact decide_eq_true (by rw[h];omega)
 ntrans x y z h1 h2:=by
  have h1:=of_decide_eq_false h1
  have h2:=of_decide_eq_false h2
  rw[h] at h1 h2
  exact decide_eq_false (by rw[h];omega)
def Iq{α:Type}(key:α→Nat)(x:α):List α→List α
 |[]=>[x]
 |y::r=>if key y≤key x then y::Iq key x r else x::y::r
def PY{α:Type}(key:α→Nat)(l:List α):List α:=l.foldl (fun acc x=>Iq key x acc) []
end
section
open Go.Proofs Go.Shelf Go.Sort
abbrev nI(j:Nat):List Value:=[.int .i64 (j:Int)]
theorem j4(j:Nat):(nI j).length=1:=rfl
theorem BS(j:Nat):bF (nI j)=true:=rfl
def pK(ms:List Em)(j:Nat):Dg:=(ms[j]?).elim zd (fun e=>e.x.t.frm)
def pN(ms:List Em)(j:Nat):Int:=(ms[j]?).elim 0 (fun e=>e.x.t.non)
def pF(ms:List Em)(j:Nat):Int:=(ms[j]?).elim 0 (fun e=>e.x.t.fee)
section
variable {ms:List Em} {j:Nat}
theorem BC(h:j<ms.length):pK ms j=ms[j].x.t.frm:=by unfold pK;rw[List.getElem?_eq_getElem h];rfl
theorem ug(h:j<ms.length):pN ms j=ms[j].x.t.non:=by unfold pN;rw[List.getElem?_eq_getElem h];rfl
theorem BD(h:j<ms.length):pF ms j=ms[j].x.t.fee:=by unfold pF;rw[List.getElem?_eq_getElem h];rfl
end
def cN(K:Nat→Dg)(i:Nat)(k:Dg):List Nat:=(List.range i).filter (fun j=>decide (K j=k))
theorem sU(K:Nat→Dg)(i:Nat)(k:Dg):cN K (i+1) k=if K i=k then cN K i k++[i] else cN K i k:=by
 unfold cN
 rw[List.range_succ,List.filter_append]
 by_cases h:K i=k
 ·rw[if_pos h,List.filter_cons_of_pos (by simpa using h)]
  rfl
 ·rw[if_neg h,List.filter_cons_of_neg (by simpa using h)]
  simp
theorem iG{K:Nat→Dg}{i j:Nat}{k:Dg}:j∈cN K i k↔j<i∧K j=k:=by simp[cN]
theorem CS(K:Nat→Dg)(i:Nat)(k:Dg):(cN K i k).length≤i:=by
 have:=List.length_filter_le (fun j=>decide (K j=k)) (List.range i)
 rw[List.length_range] at this
 exact this
theorem CR(K:Nat→Dg)(i:Nat)(k:Dg):(cN K i k).Nodup:=List.nodup_range.sublist List.filter_sublist
structure Kr(w:World)(base:Nat)(m:List (Dg×Value))(C:Dg→List Nat):Prop where
 rows:∀k v,aB m k=some v→w.ownsRow base 3 1 v (C k).length (bO nI (C k))
 sep:∀k k' v v',aB m k=some v→aB m k'=some v'→k≠k'→∀b,v.ownBlock=some b→v'.ownBlock≠some b
theorem Kr.kp{w w':World}{base:Nat}{m:List (Dg×Value)}{C:Dg→List Nat}{S:List Nat}(h:Kr w base m C)(hk:Kp S w w')(hS:∀b∈S,(∀T cs f,T=3→w.heap[b]?≠some (.cells cs T f))∨b<base):Kr w' base m C:=
 ⟨fun k v hv=>bW (h.rows k v hv) hk (fun b hb hm=>by
  have ho:=h.rows k v hv
  rcases hS b hm with hh|hh
  ·rcases ho.2 with⟨rfl,_⟩|⟨g,cap,cur,rfl,_,hg,_⟩
   ·cases hb
   ·cases hb
    exact hh _ _ _ rfl hg
  ·have:=cp ho b hb
   omega),h.sep⟩
theorem Kr.ay{w w':World}{base:Nat}{m:List (Dg×Value)}{C:Dg→List Nat}(h:Kr w base m C)(hk:Kp [] w w'):Kr w' base m C:=h.kp hk (fun b hb=>(by cases hb))
theorem xP{w:World}{base n sz:Nat}{v:Value}{T:TypeId}{xs:List Value}{z:Nat}{o:Obj}(ho:w.ownsRow base T sz v n xs)(hB:aF w z o)(hne:∀cs T f,o≠.cells cs T f):z∉aP v:=fun hm=>by
 have hb':=aH hm
 rcases ho.2 with⟨rfl,_⟩|⟨g,cap,cur,rfl,_,hg,_⟩
 ·cases hb'
 ·cases hb'
  exact hne _ _ _ (hB.uniq hg)
theorem aE.wm{κ ν:Type}{enc:κ→Value}{V:ν→Value}{m:List (κ×ν)}{w:World}{base n sz b:Nat}{v:Value}{T:TypeId}{xs:List Value}(h:aE w b enc V m)(ho:w.ownsRow base T sz v n xs):b∉aP v:=by
 obtain⟨es,c,hB,_⟩:=h
 exact xP ho hB (fun _ _ _ e=>by cases e)
theorem aM.wm{κ ν:Type}{enc:κ→Value}{V:ν→Value}{m left:List (κ×ν)}{cur:Option (κ×ν)}{w:World}{base n sz b r:Nat}{v:Value}{T:TypeId}{xs:List Value}(h:aM w r b enc V m left cur)(ho:w.ownsRow base T sz v n xs):r∉aP v:=by
 obtain⟨es,c,seen,h1,h2,h3,h4,_⟩:=h
 exact xP ho h4 (fun _ _ _ e=>by cases e)
theorem aE.BM{κ ν:Type}{enc:κ→Value}{V:ν→Value}{m:List (κ×ν)}{w:World}{b:Nat}(h:aE w b enc V m):∀T cs f,T=3→w.heap[b]?≠some (.cells cs T f):=by
 obtain⟨es,c,hB,_⟩:=h
 intro T cs f _ e
 have:=hB.uniq e
 cases this
theorem aE.Er{κ ν:Type}{enc:κ→Value}{V:ν→Value}{m:List (κ×ν)}{w:World}{b:Nat}{n:Nat}(h:aE w b enc V m)(hn:n≤b):dh n w [b]:=fun z hz=>by
 rw[List.mem_singleton] at hz
 subst hz
 refine⟨hn,?_⟩
 obtain⟨es,c,hB,_⟩:=h
 intro cs f e
 have:=hB.uniq e
 cases this
theorem aF.BM{w:World}{b:Nat}{es:Array MapEntry}{cl:Nat}(hB:aF w b (.map es cl)):∀T cs f,T=3→w.heap[b]?≠some (.cells cs T f):=fun T cs f _ e=>by
 have:=hB.uniq e
 cases this
theorem Kr.mono{w:World}{base base':Nat}{m:List (Dg×Value)}{C:Dg→List Nat}(h:Kr w base m C)(hb:base'≤base):Kr w base' m C:=⟨fun k v hv=>cX (h.rows k v hv) hb,h.sep⟩
theorem aM.BM{κ ν:Type}{enc:κ→Value}{V:ν→Value}{m left:List (κ×ν)}{cur:Option (κ×ν)}{w:World}{b r:Nat}(h:aM w r b enc V m left cur):∀T cs f,T=3→w.heap[r]?≠some (.cells cs T f):=by
 obtain⟨es,c,seen,h1,h2,h3,h4,_⟩:=h
 intro T cs f _ e
 have:=h4.uniq e
 cases this
theorem F8:SlLaysF.n6 Tryz.prog xF:={HP with a24:=Tryz.isAgg3,z24:=Tryz.sizeOf3}
theorem Pt(n:Int)(w:World):(Instr.buildSlice 245 1 #[(0,.int .i64 n)]).run Tryz.prog w= .ok (.slice (some ⟨w.heap.size,0,none⟩) 1 1) {w with heap:=w.heap.push (.cells #[.int .i64 n] 3)}:=by kernel_rfl
structure Nb(ms:List Em):Prop where
 n0:∀j,0≤pN ms j
 n1:∀j,pN ms j≤1099511627776
 f0:∀j,0≤pF ms j
 f1:∀j,pF ms j≤1125899906842624
theorem rP{t:Tx}(h:bg t=0):Fm t:=by
 unfold bg at h
 by_cases hr:Fm t
 ·exact hr
 ·rw[if_neg hr] at h
  cases h
theorem dF.nb{room:Int}{ms:List Em}(h:dF room (ms.map Em.en)):Nb ms:=by
 have key:∀j (hj:j<ms.length),Fm ms[j].x.t:=fun j hj=>rP (h.ok _ (List.mem_map.2 ⟨ms[j],List.getElem_mem hj,rfl⟩))
 have kn:∀j,0≤pN ms j∧pN ms j≤1099511627776∧0≤pF ms j∧pF ms j≤1125899906842624:=fun j=>by
  by_cases hj:j<ms.length
  ·have:=key j hj
   rw[ug hj,BD hj]
   exact⟨this.n0,this.n1,this.f0,this.f1⟩
  ·unfold pN pF
   rw[List.getElem?_eq_none (by omega)]
   simp only[Option.elim]
   omega
 exact⟨fun j=>(kn j).1,fun j=>(kn j).2.1,fun j=>(kn j).2.2.1,fun j=>(kn j).2.2.2⟩
attribute [local irreducible] CG NG SG aK aI Row aF aE aM aR bg
theorem xk{w:World}{base p b1:Nat}{v:Value}{room:Int}{ms:List Em}(hP:Pl w base p v room ms)(h1:Row w b1 0 [.pointer (some ⟨p,0,none⟩)])(hb:Nb ms){x y:Nat}(hx:x<ms.length)(hy:y<ms.length):
  dz Tryz.prog 196 #[.int .i64 (x:Int),.int .i64 (y:Int),.pointer (some ⟨b1,0,none⟩)] w (.int .i64 (pN ms x-pN ms y)):=by
 refine fL (args:=[.int .i64 (x:Int),.int .i64 (y:Int),.pointer (some ⟨b1,0,none⟩)]) Tryz.func196 rfl Tryz.ntmps196 rfl ?_
 obtain⟨a,c,rfl,hc,hS⟩:=hP.sl
 obtain⟨-,q1⟩:=hP.rows
 obtain⟨g,o1,rfl,hrx⟩:=hS.at hx
 have hry:Row w g (o1+y*22) (ec ms[y]):=hS.row (List.getElem?_eq_getElem hy)
 obtain⟨-,-,rx,-⟩:=eE hrx
 obtain⟨-,-,ry,-⟩:=eE hry
 have e1:=ug hx
 have e2:=ug hy
 have b1':=hb.n0 x
 have b2':=hb.n1 x
 have b3':=hb.n0 y
 have b4':=hb.n1 y
 rw[e1] at b1' b2'⊢
 rw[e2] at b3' b4'⊢
 repeat (first|apply aj|(apply ar;rfl;apply aD<;>rfl))
 refine CG.tail mixed 18 [0,1,2,3,4,5,6,7,8,9,10,11,12,13,14,15,16,17] (by kernel_rfl) ?_
 repeat (apply bZ;rfl;rfl;(first|apply az|apply bf|apply aW|apply bM|apply fv)<;>first|rfl|(apply Ar.mk;omega)|assumption|exact List.not_mem_nil)
 refine aI.tl (fun w1 hk1 _ _=>?_)
 repeat (first|apply aj|(apply ar;rfl;(first|apply aD|apply xL)<;>first|rfl|(apply Ar.mk;omega)))
 refine aO (Or.inl rfl) Tryz.results196 (aC.tmp rfl) ?_
 exact⟨rfl,hk1⟩
theorem vI{w:World}{base bp p b1:Nat}{v vp:Value}{room:Int}{ms:List Em}{l:List Nat}(hP:Pl w bp p vp room ms)(h1:Row w b1 0 [.pointer (some ⟨p,0,none⟩)])(hb:Nb ms)(ho:w.ownsRow base 3 1 v l.length (bO nI l))(hlt:∀j∈l,j<ms.length)(hn:0<ms.length)(hl:l.length≤1000000)
  (hbb:bp≤base) (hb1:b1∉aP v) (hbp:p∉aP v) (hbv:∀b,vp.ownBlock=some b→b∉aP v):
  Calls Tryz.prog 195 #[v,j8 196 [.pointer (some ⟨b1,0,none⟩)]] w (fun e w'=>e= .returned (.tuple #[])∧Kp (aP v) w w'∧∃l',l'.Perm l∧l'.Pairwise (fun x y=>pN ms x≤pN ms y)∧w'.ownsRow base 3 1 v l'.length (bO nI l')):=by
 haveI:Inhabited (_root_.Fin ms.length):=⟨⟨0,hn⟩⟩
 obtain⟨L,hL⟩:∃L:List (_root_.Fin ms.length),L.map (fun x=>x.1)=l:=⟨l.pmap (fun j h=>(⟨j,h⟩:_root_.Fin ms.length)) hlt,by rw[List.map_pmap];simp⟩
 have efl:∀M:List (_root_.Fin ms.length),bO (fun x:_root_.Fin ms.length=>[Value.int .i64 (x.1:Int)]) M=bO nI (M.map (fun x=>x.1)):=fun M=>by
  rw[j9 (fun x:_root_.Fin ms.length=>Value.int .i64 (x.1:Int)),show bO nI=bO (fun j:Nat=>[Value.int .i64 (j:Int)]) from rfl,j9 (fun j:Nat=>Value.int .i64 (j:Int)),List.map_map]
  rfl
 have hLl:L.length=l.length:=by rw[←hL,List.length_map]
 have ho':w.ownsRow base 3 1 v L.length (bO (fun x:_root_.Fin ms.length=>[Value.int .i64 (x.1:Int)]) L):=by
  rw[efl,hL,hLl]
  exact ho
 refine(yP F8 (fun _=>rfl) (fun x y:_root_.Fin ms.length=>pN ms x.1-pN ms y.1) (DU _ (fun x=>(pN ms x.1).toNat) (fun x y=>by have:=hb.n0 x.1;have:=hb.n0 y.1;omega)) 196 (fun args w=>fn.i196.run w args) [.pointer (some ⟨b1,0,none⟩)] ho' (by omega) (fun x y W hk=>?_)).mono (fun e w' hh=>?_)
 ·refine xk (base:=bp) (v:=vp) (room:=room) (hP.kp hk hbp hbv (dh.own ho hbb (by decide))) (h1.kp hk hb1) hb x.2 y.2
 ·obtain⟨he,hk,l',hp,hs,ho2⟩:=hh
  refine⟨he,hk,l'.map (fun x=>x.1),?_,?_,?_⟩
  ·rw[←hL]
   exact hp.map _
  ·rw[List.pairwise_map]
   refine hs.imp (fun{x y} h=>?_)
   have h3:¬(pN ms y.1-pN ms x.1<0):=of_decide_eq_false h
   omega
  ·rw[←efl,List.length_map,hp.length_eq]
   exact ho2
end
section
open Go.Proofs Go.Shelf Go.Sort
theorem iU{m:List (Dg×Value)}{k:Dg}{v:Value}{z:Dg}{u:Value}(h:aB (cF m k v) z=some u):(z=k∧u=v)∨(z≠k∧aB m z=some u):=by
 rw[bR] at h
 by_cases e:k=z
 ·rw[if_pos e] at h
  cases h
  exact Or.inl ⟨e.symm,rfl⟩
 ·rw[if_neg e] at h
  exact Or.inr ⟨fun h'=>e h'.symm,h⟩
theorem oe:∀{m:List (Dg×Value)} {k:Dg} {v:Value},aB m k=some v→(k,v)∈m
 |[],_,_,h=>by cases h
 |(k',v')::m,k,v,h=>by
  unfold aB at h
  by_cases e:k'=k
  ·rw[if_pos e] at h
   cases h
   subst e
   exact List.mem_cons_self
  ·rw[if_neg e] at h
   exact List.mem_cons_of_mem _ (oe h)
theorem Kr.add{w w':World}{base i:Nat}{m:List (Dg×Value)}{K:Nat→Dg}{v0 v':Value}(h:Kr w base m (cN K i))(hv0:aB m (K i)=some v0∨(aB m (K i)=none∧v0= .slice none 0 0))(hk:Kp (aP v0) w w')(ho:w'.ownsRow base 3 1 v' (cN K i (K i)++[i]).length (bO nI (cN K i (K i)++[i])))
  (hv':∀g,v'.ownBlock=some g→v0.ownBlock=some g∨g=w.heap.size):Kr w' base (cF m (K i) v') (cN K (i+1)):=by
 have hsz:∀k v,aB m k=some v→∀b,v.ownBlock=some b→b<w.heap.size:=fun k v hv=>cD (h.rows k v hv)
 have hap:∀k v,k≠K i→aB m k=some v→∀b,v.ownBlock=some b→b∉aP v0:=fun k v hne hv b hb hm=>by
  rcases hv0 with h0|⟨_,rfl⟩
  ·exact h.sep k (K i) v v0 hv h0 hne b hb (aH hm)
  ·cases aH hm
 refine⟨fun k v hv=>?_,fun k k' v u hv hu hne b hb=>?_⟩
 ·rcases iU hv with⟨rfl,rfl⟩|⟨hne,hv⟩
  ·rw[sU,if_pos rfl]
   exact ho
  ·rw[sU,if_neg (fun e=>hne e.symm)]
   exact bW (h.rows k v hv) hk (hap k v hne hv)
 ·have key:∀k u,k≠K i→aB m k=some u→∀b,v'.ownBlock=some b→u.ownBlock≠some b:=fun k u hne hu b hb hb2=>by
   rcases hv' b hb with hh|hh
   ·exact hap k u hne hu b hb2 (gg hh)
   ·have:=hsz k u hu b hb2
    omega
  rcases iU hv with⟨e1,e2⟩|⟨h1,hv2⟩
  ·rcases iU hu with⟨e3,e4⟩|⟨h2,hu2⟩
   ·exact absurd (e1.trans e3.symm) hne
   ·rw[e2] at hb
    exact key k' u h2 hu2 b hb
  ·rcases iU hu with⟨e3,e4⟩|⟨h2,hu2⟩
   ·intro hb2
    rw[e4] at hb2
    exact key k v h1 hv2 b hb2 hb
   ·exact h.sep k k' v u hv2 hu2 hne b hb
attribute [local irreducible] CG NG SG aK aI Row aF aE aM aR bg
theorem zw{w:World}{base p:Nat}{v:Value}{room:Int}{ms:List Em}(hP:Pl w base p v room ms)(hb:Nb ms)(hl:ms.length≤100000):
  Calls Tryz.prog 179 #[.pointer (some ⟨p,0,none⟩)] w (fun e w'=>∃bm m C,e= .returned (.map (some bm))∧Kp [] w w'∧aE w' bm (dv (n:=8)) (fun v:Value=>v) m∧Kr w' w.heap.size m C∧(∀k,(C k).Perm (cN (pK ms) ms.length k))∧(∀k v,aB m k=some v→(C k).Pairwise (fun x y=>pN ms x≤pN ms y))∧(∀j,j<ms.length→∃v,aB m (pK ms j)=some v)∧(∀k v,aB m k=some v→cN (pK ms) ms.length k≠[])):=by
 refine bA Tryz.func179 rfl Tryz.ntmps179 rfl ?_
 have hlp:=hP.blk.lt
 have hvp:∀b,v.ownBlock=some b→b<w.heap.size:=cD hP.own
 repeat apply aj
 refine SG.box rfl rfl rfl (ag rfl) (fun b1 w1 hk1 hb1 hB1=>?_)
 have hB1:aF w1 b1 (.cells #[.pointer (some ⟨p,0,none⟩)] 124):=hB1
 have lt1:=hB1.lt
 repeat (first|apply aj|(apply ar;rfl;apply aD<;>rfl))
 refine SG.makeMap (dv (n:=8)) (fun v:Value=>v) rfl rfl (fun bm w2 hk2 hbm hM=>?_)
 have k2:=hk1.trans hk2
 have ltm:=hM.lt
 have hP2:=hP.ay k2
 obtain⟨a,c,rfl,hc,hS⟩:=hP2.sl
 obtain⟨-,q1⟩:=hP2.rows
 have r1:Row w2 b1 0 [.pointer (some ⟨p,0,none⟩)]:=(Row.all (l:=[.pointer (some ⟨p,0,none⟩)]) hB1 rfl).ay hk2
 repeat (first|apply aj|(apply ar;rfl;(first|apply az|apply aD|apply bf|apply aW|apply bM|apply dy)<;>first|rfl|assumption|exact List.not_mem_nil))
 clear q1 r1
 have s1:=hk1.size
 have s2:=hk2.size
 refine CG.loop (X:=Nat×List (Dg×Value)) (fun x=>[(1,.pointer (some ⟨b1,0,none⟩)),(3,.map (some bm)),(12,.slice a ms.length c),(13,.int .i64 (ms.length:Int)),(14,.int .i64 (x.1:Int))])
  (fun x w'=>x.1≤ms.length∧Kp [bm] w2 w'∧aE w' bm (dv (n:=8)) (fun v:Value=>v) x.2∧Kr w' w2.heap.size x.2 (cN (pK ms) x.1)∧(∀j,j<x.1→∃v,aB x.2 (pK ms j)=some v)∧(∀k v,aB x.2 k=some v→cN (pK ms) x.1 k≠[])) (fun x=>ms.length-x.1) (0,[]) ⟨Nat.zero_le _,Kp.refl _ _,hM,⟨fun _ _ h=>(by cases h),fun _ _ _ _ h=>(by cases h)⟩,fun j h=>absurd h (Nat.not_lt_zero j),fun _ _ h=>(by cases h)⟩ (aS.of rfl) ?_
 rintro⟨i,m⟩ w3 ⟨hi,hk3,hM3,hR,hcov,hne⟩
 simp only at hi hM3 hR hcov hne
 refine CG.to [(1,.pointer (some ⟨b1,0,none⟩)),(3,.map (some bm)),(12,.slice a ms.length c),(13,.int .i64 (ms.length:Int)),(14,.int .i64 (i:Int))] (aS.of rfl) ?_
 have s3:=hk3.size
 have nbm:∀b,b<w.heap.size→b∉[bm]:=fun b h=>bP (by omega)
 have hO:dh base w2 [bm]:=hM.Er (by have:=hP.jw;have:=hk1.size;omega)
 have hP3:Pl w3 base p (.slice a ms.length c) room ms:=hP2.kp hk3 (nbm p hlp) (fun b hb=>nbm b (hvp b hb)) hO
 have k3:Kp [] w w3:=k2.ai hk3 (aV (by omega))
 have r1:Row w3 b1 0 [.pointer (some ⟨p,0,none⟩)]:=((Row.all (l:=[.pointer (some ⟨p,0,none⟩)]) hB1 rfl).ay hk2).kp hk3 (bP (by omega))
 by_cases hlt:i<ms.length
 ·have g1:(i:Int)<(ms.length:Int):=by omega
  obtain⟨a',c',e',-,hS3⟩:=hP3.sl
  cases e'
  obtain⟨g,o1,rfl,hri⟩:=hS3.at hlt
  repeat (first|apply aj|(apply ar;rfl;apply cG<;>first|rfl|(apply bK;first|assumption|omega)))
  refine bL rfl ?_
  repeat (first|apply aj|(apply ar;rfl;(first|apply az|apply bj|apply fv)<;>first|rfl|(apply Ar.mk;omega)|assumption|exact List.not_mem_nil|apply aL))
  refine SG.alloc rfl rfl rfl (fun b5 w4 hk4 hb5 hB5=>?_)
  repeat (apply ar;rfl;apply aD<;>rfl)
  refine SG.aN (l:=ec ms[i]) rfl rfl (ag rfl) (ag rfl) hB5 (aL _) rfl (gU _) (fun w5 hk5 hB5=>?_)
  have hB5:aF w5 b5 (.cells (ec ms[i]).toArray 216):=hB5
  have k35:Kp [] w3 w5:=hk4.ai hk5 (aV (by omega))
  have hM5:=hM3.ay k35
  have hR5:=hR.ay k35
  clear hri
  obtain⟨-,u0,-⟩:=eE (Row.all hB5 rfl)
  rw[←BC hlt] at u0
  repeat (first|apply aj|(apply ar;rfl;(first|apply az|apply bj|apply aW)<;>first|rfl|assumption|exact List.not_mem_nil|apply ah))
  refine SG.buildSlice rfl rfl rfl rfl (Pt (i:Int)) (fun b6 w6 hk6 hb6 hB6=>?_)
  have hM6:=hM5.ay hk6
  have hR6:=hR5.ay hk6
  have k36:=k35.trans hk6
  have ltb6:=hB6.lt
  have hS6:Sl nI 1 w6 (some ⟨b6,0,none⟩) [i]:=Sl.gH (pre:=[]) (post:=[]) j4 (l:=[i]) (T:=3) hB6
  obtain⟨v0,hv0,hv0'⟩:∃v0,(aB m (pK ms i)).elim (Value.slice none 0 0) (fun v:Value=>v)=v0∧(aB m (pK ms i)=some v0∨(aB m (pK ms i)=none∧v0= .slice none 0 0)):=by
   cases h:aB m (pK ms i) with
   |none=>exact⟨_,rfl,Or.inr ⟨rfl,rfl⟩⟩
   |some u=>exact⟨_,rfl,Or.inl rfl⟩
  refine SG.mapEntry (enc:=dv (n:=8)) (V:=fun v:Value=>v) (kx:=pK ms i) (z:= .slice none 0 0) rfl rfl rfl (ag rfl) (ag rfl) hM6 gr.key rfl (fun st o' w7 hk7 hBo hmo hE=>?_)
  rw[hv0]
  have s7:=hk7.size
  have s36:=k36.size
  have hR7:Kr w7 w2.heap.size m (cN (pK ms) i):=hR6.kp hk7 (fun b hb=>by
   rw[List.mem_singleton] at hb
   subst hb
   exact Or.inl hM6.BM)
  have ho6:w6.ownsRow w2.heap.size 3 1 v0 (cN (pK ms) i (pK ms i)).length (bO nI (cN (pK ms) i (pK ms i))):=by
   rcases hv0' with h|⟨h,rfl⟩
   ·exact hR6.rows _ _ h
   ·have:cN (pK ms) i (pK ms i)=[]:=by
     apply List.eq_nil_iff_forall_not_mem.2
     intro j hj
     obtain⟨h1,h2⟩:=iG.1 hj
     obtain⟨u,hu⟩:=hcov j h1
     rw[h2,h] at hu
     cases hu
    rw[this]
    exact dR
  have hnm:bm∉aP v0:=hM6.wm ho6
  have ho7:=bW ho6 hk7 (fun b hb hm=>by
   rw[List.mem_singleton] at hm
   subst hm
   exact hnm (gg hb))
  have s35:=k35.size
  have hlc:=CS (pK ms) i (pK ms i)
  repeat (apply ar;rfl;apply dA<;>rfl)
  refine SG.kr (enc:=nI) (xs:=cN (pK ms) i (pK ms i)) (ys:=[i]) (base:=w2.heap.size) rfl rfl rfl (ag rfl) (ag rfl) rfl rfl rfl rfl j4 BS ho7 (hS6.kp hk7 (fun b off e=>by cases e;exact bP (by omega))) (by simp only[maxLen,List.length_cons,List.length_nil];omega) (by simp only[List.length_cons,List.length_nil];show(_+_)*8≤_;omega) (by omega) (fun v' w8 hk8 ho8 hv8=>?_)
  have hR8:=hR7.add hv0' hk8 ho8 hv8
  repeat (apply ar;rfl;apply dA<;>rfl)
  refine SG.entryStore (enc:=dv (n:=8)) (V:=fun v:Value=>v) (kx:=pK ms i) (vy:=v') rfl rfl (ag rfl) (ag rfl) (ag rfl) hE (hBo.kp hk8 hnm) (fun w9 hk9 hM9=>?_)
  have hB8:=hBo.kp hk8 hnm
  have hR9:Kr w9 w2.heap.size (cF m (pK ms i) v') (cN (pK ms) (i+1)):=hR8.kp hk9 (fun b hb=>by
   rw[List.mem_singleton] at hb
   subst hb
   obtain⟨es,cl,rfl⟩:=hmo
   exact Or.inl (aF.BM hB8))
  have k29:Kp [bm] w2 w9:=(((hk3.trans k36.any).trans hk7).ai hk8 (fun z hz=>by
   exact Or.inr (cp ho7 z (aH hz)))).trans hk9
  repeat (first|apply aj|(apply ar;rfl;(first|apply az|apply dG)<;>first|rfl|(apply Ar.mk;omega)))
  refine NG.round (i+1,cF m (pK ms i) v') (aS.of rfl) ⟨by simp only;omega,k29,hM9,hR9,fun j hj=>?_,fun k v hv=>?_⟩ (by simp only;omega)
  ·simp only at hj
   rw[bR]
   by_cases e:pK ms i=pK ms j
   ·exact⟨v',by rw[if_pos e]⟩
   ·rw[if_neg e]
    exact hcov j (by
     have:j≠i:=fun h=>e (by rw[h])
     omega)
  ·rw[sU]
   rcases iU hv with⟨e1,e2⟩|⟨e1,h2⟩
   ·rw[if_pos e1.symm]
    simp
   ·rw[if_neg (fun e=>e1 e.symm)]
    exact hne k v h2
 ·have g1:¬(i:Int)<(ms.length:Int):=by omega
  have hin:i=ms.length:=by omega
  subst hin
  have hM3':=hM3
  repeat (first|apply aj|(apply ar;rfl;apply cG<;>first|rfl|(apply bN;first|assumption|omega)))
  refine bG rfl ?_
  repeat (first|apply aj|(apply ar;rfl;apply az<;>rfl))
  refine SG.range rfl rfl rfl (ag rfl) hM3 (fun r w4 hk4 hr4 hI=>?_)
  have k4:=k3.trans hk4
  have s4:=hk4.size
  have hK0:(Kp [] w w4):=k4
  repeat apply aj
  refine CG.loop (X:=(Dg→List Nat)×List (Dg×Value)×Option (Dg×Value)) (fun x=>[(1,.pointer (some ⟨b1,0,none⟩)),(3,.map (some bm)),(31,.pointer (some ⟨r,0,none⟩))])
   (fun x w'=>Kp [] w w'∧r<w'.heap.size∧aM w' r bm (dv (n:=8)) (fun v:Value=>v) m x.2.1 x.2.2∧Kr w' w2.heap.size m x.1∧(∀k,(x.1 k).Perm (cN (pK ms) ms.length k))∧(∀k v,aB m k=some v→(k,v)∉x.2.1→(x.1 k).Pairwise (fun x y=>pN ms x≤pN ms y))∧Row w' b1 0 [.pointer (some ⟨p,0,none⟩)]∧(∀q∈x.2.1,q∈m))
   (fun x=>x.2.1.length) (cN (pK ms) ms.length,m,none) ⟨k4,hI.Dw,hI,hR.ay hk4,fun k=>List.Perm.refl _,fun k v hv hn=>absurd (oe hv) hn,r1.ay hk4,fun _ h=>h⟩ (aS.of rfl) ?_
  rintro⟨C,left,cur⟩ w5 ⟨hk5,hrs,hI5,hR5,hC,hsd,hr5,hsub⟩
  simp only at hI5 hR5 hC hsd hsub
  refine CG.to [(1,.pointer (some ⟨b1,0,none⟩)),(3,.map (some bm)),(31,.pointer (some ⟨r,0,none⟩))] (aS.of rfl) ?_
  repeat apply aj
  refine SG.next rfl rfl rfl (ag rfl) hI5 (fun h0=>?_) (fun pre q post w6 hl6 hk6 hI6=>?_)
  ·subst h0
   repeat (first|apply aj|(apply ar;rfl;apply dA<;>rfl))
   refine bG rfl ?_
   repeat (first|apply aj|(apply ar;rfl;(first|apply az|apply aD)<;>rfl))
   refine aO (Or.inl rfl) Tryz.results179 (aC.tmp rfl) ?_
   exact⟨bm,m,C,rfl,hk5,hI5.map,hR5.mono (by omega),hC,fun k v hv=>hsd k v hv List.not_mem_nil,hcov,hne⟩
  ·repeat (first|apply aj|(apply ar;rfl;apply dA<;>rfl))
   refine bL rfl ?_
   have hqm:q∈m:=hsub q (by rw[hl6];simp)
   have hqa:aB m q.1=some q.2:=dE hM3.nodup hqm
   have s5:=hk5.size
   have k6:Kp [] w w6:=hk5.ai hk6 (aV (by omega))
   have hR6:Kr w6 w2.heap.size m C:=hR5.kp hk6 (fun b hb=>by
    rw[List.mem_singleton] at hb
    subst hb
    exact Or.inl (aM.BM hI5))
   have hP6:=hP.ay k6
   have ho6:=hR6.rows _ _ hqa
   have hr6:Row w6 b1 0 [.pointer (some ⟨p,0,none⟩)]:=hr5.kp hk6 (bP (by omega))
   have hge:=cp ho6
   have hbO:∀b,b<w2.heap.size→b∉aP q.2:=fun b hlt hm=>by
    have:=hge b (aH hm)
    omega
   have hcl:(C q.1).length≤100000:=by
    rw[(hC q.1).length_eq]
    have:=CS (pK ms) ms.length q.1
    omega
   repeat (first|apply aj|(apply ar;rfl;(first|apply az|apply aD|apply dA|apply Ge)<;>first|rfl|assumption|exact List.not_mem_nil))
   refine SG.val rfl rfl rfl rfl (Ht (vs:=[.pointer (some ⟨b1,0,none⟩)]) rfl) ?_
   refine SG.call rfl rfl rfl (vs:=[q.2,j8 196 [.pointer (some ⟨b1,0,none⟩)]]) (bz.of rfl) ((vI hP6 hr6 hb ho6 (fun j hj=>(iG.1 ((hC q.1).mem_iff.1 hj)).1) (by
    have:=hne q.1 q.2 hqa
    obtain⟨j,hj⟩:=List.exists_mem_of_ne_nil _ this
    have:=(iG.1 hj).1
    omega) (by omega) (by have:=hP.jw;have:=hk2.size;have:=hk1.size;omega) (hbO b1 (by omega)) (hbO p (by omega)) (fun b hb=>hbO b (by have:=hvp b hb;omega))).mono (fun e w7 hh=>?_))
   obtain⟨he,hk7,l',hp',hs',ho7⟩:=hh
   refine⟨_,he,?_⟩
   repeat apply aj
   have hI7:=hI6.kp hk7 (aM.wm hI6 ho6) (aE.wm hI6.map ho6)
   refine NG.round (fun k=>if k=q.1 then l' else C k,pre++post,some q) (aS.of rfl) ⟨k6.ai hk7 (fun z hz=>Or.inr (by have:=hge z (aH hz);omega)),hI7.Dw,hI7,⟨fun k v hv=>?_,hR6.sep⟩,fun k=>?_,fun k v hv hn=>?_,hr6.kp hk7 (hbO b1 (by omega)),fun x hx=>?_⟩ ?_
   ·simp only
    by_cases e:k=q.1
    ·subst e
     rw[hqa] at hv
     cases hv
     rw[if_pos rfl]
     exact ho7
    ·rw[if_neg e]
     exact bW (hR6.rows k v hv) hk7 (fun b hb hm=>hR6.sep k q.1 v q.2 hv hqa e b hb (aH hm))
   ·simp only
    by_cases e:k=q.1
    ·subst e
     rw[if_pos rfl]
     exact hp'.trans (hC _)
    ·rw[if_neg e]
     exact hC k
   ·simp only at hn⊢
    by_cases e:k=q.1
    ·rw[if_pos e]
     exact hs'
    ·rw[if_neg e]
     refine hsd k v hv (fun hm=>hn ?_)
     rw[hl6] at hm
     rcases List.mem_append.1 hm with h|h
     ·exact List.mem_append.2 (Or.inl h)
     ·rcases List.mem_cons.1 h with h|h
      ·exact absurd (congrArg Prod.fst h) e
      ·exact List.mem_append.2 (Or.inr h)
   ·refine hsub x ?_
    rw[hl6]
    rcases List.mem_append.1 hx with h|h
    ·exact List.mem_append.2 (Or.inl h)
    ·exact List.mem_append.2 (Or.inr (List.mem_cons_of_mem _ h))
   ·simp only
    rw[hl6]
    simp only[List.length_append,List.length_cons]
    omega
end
section
section
variable {κ:Type} {K:Nat→κ} {N F:Nat→Int}
structure DF(K:Nat→κ)(N F:Nat→Int)(n:Nat)(Ls:List (List Nat))(R out:List Nat):Prop where
 asc:R.Pairwise (·<·)
 lt:∀j∈R,j<n
 len:R.length+out.length=n
 ord:∀r,Ord K N F R r→Ord K N F (List.range n) (out++r)
 srt:∀l∈Ls,l.Pairwise (fun x y=>N x<N y∧K x=K y)
 sep:∀(i j:Nat) (l l':List Nat),Ls[i]?=some l→Ls[j]?=some l'→i≠j→∀x∈l,∀y∈l',K x≠K y
 mem:∀j,j∈R↔∃l∈Ls,j∈l
def dW(F:Nat→Int)(a x:Nat):Prop:=F x<F a∨(F a=F x∧a<x)
inductive rO (F:Nat→Int) (Ls:List (List Nat)) (k:Nat):Int→Prop
 |no:(∀(i:Nat) (l:List Nat),i<k→Ls[i]?=some l→l=[])→rO F Ls k (-1)
 |att (b a:Nat) (t:List Nat):b<k→Ls[b]?=some (a::t)→(∀(i x:Nat) (t':List Nat),i<k→Ls[i]?=some (x::t')→x=a∨dW F a x)→rO F Ls k (b:Int)
theorem dW.trans{a x y:Nat}(h:dW F a x)(h2:dW F x y):dW F a y:=by
 unfold dW at*
 omega
theorem dW.tot{a x:Nat}(h:¬dW F a x):x=a∨dW F x a:=by
 unfold dW at*
 omega
theorem rO.init(Ls:List (List Nat)):rO F Ls 0 (-1):= .no (fun i l h=>absurd h (Nat.not_lt_zero i))
theorem rO.skip{Ls:List (List Nat)}{k:Nat}{z:Int}(h:rO F Ls k z)(hk:Ls[k]?=some []):rO F Ls (k+1) z:=by
 cases h with
 |no h=>exact .no (fun i l hi hl=>by
   by_cases e:i=k
   ·subst e;rw[hk] at hl;cases hl;rfl
   ·exact h i l (by omega) hl)
 |att b a t h1 h2 h3=>exact .att b a t (by omega) h2 (fun i x t' hi hl=>by
   by_cases e:i=k
   ·subst e;rw[hk] at hl;cases hl
   ·exact h3 i x t' (by omega) hl)
theorem rO.first{Ls:List (List Nat)}{k x:Nat}{t:List Nat}(h:rO F Ls k (-1))(hk:Ls[k]?=some (x::t)):rO F Ls (k+1) (k:Int):=by
 generalize hz:(-1:Int)=z at h
 cases h with
 |no h=>exact .att k x t (by omega) hk (fun i y t' hi hl=>by
   by_cases e:i=k
   ·subst e;rw[hk] at hl;cases hl;exact Or.inl rfl
   ·have:=h i _ (by omega) hl
    cases this)
 |att b a t h1 h2 h3=>omega
theorem rO.wN{Ls:List (List Nat)}{k b a x:Nat}{t t2:List Nat}(h:rO F Ls k (b:Int))(hb:Ls[b]?=some (a::t2))(hk:Ls[k]?=some (x::t))(hn:¬dW F x a):rO F Ls (k+1) (b:Int):=by
 generalize hz:(b:Int)=z at h
 cases h with
 |no h=>omega
 |att b' a' t' h1 h2 h3=>
  have:b'=b:=by omega
  subst this
  rw[hb] at h2
  cases h2
  refine .att b' a t2 (by omega) hb (fun i y t3 hi hl=>?_)
  by_cases e:i=k
  ·subst e
   rw[hk] at hl
   cases hl
   rcases dW.tot hn with h|h
   ·exact Or.inl h.symm
   ·exact Or.inr h
  ·exact h3 i y t3 (by omega) hl
theorem rO.turn{Ls:List (List Nat)}{k b a x:Nat}{t t2:List Nat}(h:rO F Ls k (b:Int))(hb:Ls[b]?=some (a::t2))(hk:Ls[k]?=some (x::t))(hn:dW F x a):rO F Ls (k+1) (k:Int):=by
 generalize hz:(b:Int)=z at h
 cases h with
 |no h=>omega
 |att b' a' t' h1 h2 h3=>
  have:b'=b:=by omega
  subst this
  rw[hb] at h2
  cases h2
  refine .att k x t (by omega) hk (fun i y t3 hi hl=>?_)
  by_cases e:i=k
  ·subst e
   rw[hk] at hl
   cases hl
   exact Or.inl rfl
  ·rcases h3 i y t3 (by omega) hl with h|h
   ·rw[h];exact Or.inr hn
   ·exact Or.inr (hn.trans h)
theorem rO.get{Ls:List (List Nat)}{z:Int}(h:rO F Ls Ls.length z)(hne:∃l∈Ls,l≠[]):∃(b a:Nat) (t:List Nat),z=(b:Int)∧Ls[b]?=some (a::t)∧∀l∈Ls,∀x t',l=x::t'→x=a∨dW F a x:=by
 cases h with
 |no h=>
  obtain⟨l,hl,hn⟩:=hne
  obtain⟨i,hi,rfl⟩:=List.getElem_of_mem hl
  exact absurd (h i _ hi (List.getElem?_eq_getElem hi)) hn
 |att b a t h1 h2 h3=>
  refine⟨b,a,t,rfl,h2,fun l hl x t' e=>?_⟩
  subst e
  obtain⟨i,hi,e⟩:=List.getElem_of_mem hl
  exact h3 i x t' hi (by rw[List.getElem?_eq_getElem hi,e])
theorem Fa{X Y:List Nat}{a:Nat}(h:(X++a::Y).Pairwise (·<·)):(X++Y).Pairwise (·<·)∧(∀x∈X,x<a)∧(∀y∈Y,a<y):=by
 rw[List.pairwise_append,List.pairwise_cons] at h
 obtain⟨h1,⟨h2,h3⟩,h4⟩:=h
 exact⟨List.pairwise_append.2 ⟨h1,h3,fun x hx y hy=>h4 x hx y (List.mem_cons_of_mem _ hy)⟩,fun x hx=>h4 x hx a List.mem_cons_self,h2⟩
theorem DF.step{n:Nat}{Ls:List (List Nat)}{R out:List Nat}(h:DF K N F n Ls R out){b a:Nat}{t:List Nat}(hb:Ls[b]?=some (a::t))(hbest:∀l∈Ls,∀x t',l=x::t'→x=a∨dW F a x):
  ∃R',DF K N F n (Ls.set b t) R' (out++[a])∧R'.length+1=R.length:=by
 have hbl:b<Ls.length:=(List.getElem?_eq_some_iff.1 hb).1
 have hbm:a::t∈Ls:=List.mem_of_getElem? hb
 have haR:a∈R:=(h.mem a).2 ⟨_,hbm,List.mem_cons_self⟩
 obtain⟨X,Y,rfl⟩:=List.append_of_mem haR
 obtain⟨g1,g2,g3⟩:=Fa h.asc
 have hsa:=List.pairwise_cons.1 (h.srt _ hbm)
 have hmemR:∀j,j∈X++Y↔(j∈X++a::Y∧j≠a):=fun j=>by
  rw[List.mem_append,List.mem_append,List.mem_cons]
  constructor
  ·rintro(hj|hj)
   ·exact⟨Or.inl hj,by have:=g2 j hj;omega⟩
   ·exact⟨Or.inr (Or.inr hj),by have:=g3 j hj;omega⟩
  ·rintro⟨hj|hj|hj,hn⟩
   ·exact Or.inl hj
   ·exact absurd hj hn
   ·exact Or.inr hj
 have hhead:∀e∈X++a::Y,xx K N (X++a::Y) e→∃l∈Ls,∃t',l=e::t':=fun e he hf=>by
  obtain⟨l,hl,hel⟩:=(h.mem e).1 he
  cases l with
  |nil=>cases hel
  |cons x t'=>
   rcases List.mem_cons.1 hel with rfl|hel
   ·exact⟨_,hl,t',rfl⟩
   ·have hs:=(List.pairwise_cons.1 (h.srt _ hl)).1 e hel
    have hx:x∈X++a::Y:=(h.mem x).2 ⟨_,hl,List.mem_cons_self⟩
    have:=hf x hx hs.2
    omega
 have hbestS:qp K N F X a Y:=by
  refine⟨fun o ho hk=>?_,fun e he hf=>?_,fun e he hf=>?_⟩
  ·obtain⟨l,hl,hol⟩:=(h.mem o).1 ho
   obtain⟨i,hi⟩:=List.getElem?_of_mem hl
   by_cases e:i=b
   ·subst e
    rw[hb] at hi
    cases hi
    rcases List.mem_cons.1 hol with rfl|hol
    ·exact Int.le_refl _
    ·have:=(hsa.1 o hol).1
     omega
   ·exact absurd hk (h.sep i b l (a::t) hi hb e o hol a List.mem_cons_self)
  ·obtain⟨l,hl,t',e2⟩:=hhead e he hf
   rcases hbest l hl e t' e2 with rfl|hh
   ·exact Int.le_refl _
   ·unfold dW at hh
    omega
  ·have hm:e∈X++a::Y:=List.mem_append.2 (Or.inl he)
   obtain⟨l,hl,t',e2⟩:=hhead e hm hf
   have:=g2 e he
   rcases hbest l hl e t' e2 with rfl|hh
   ·omega
   ·unfold dW at hh
    omega
 refine⟨X++Y,⟨g1,fun j hj=>h.lt j ((hmemR j).1 hj).1,?_,fun r hr=>?_,fun l hl=>?_,fun i j l l' hi hj hne x hx y hy=>?_,fun j=>?_⟩,?_⟩
 ·have:=h.len
  simp only[List.length_append,List.length_cons,List.length_nil] at this⊢
  omega
 ·have:=h.ord _ (Ord.step X a Y r hbestS hr)
  rw[List.append_assoc]
  exact this
 ·rcases List.mem_or_eq_of_mem_set hl with hl|rfl
  ·exact h.srt l hl
  ·exact hsa.2
 ·have key:∀(i:Nat) (l:List Nat) (x:Nat),(Ls.set b t)[i]?=some l→x∈l→∃l2,Ls[i]?=some l2∧x∈l2:=fun i l x hi hx=>by
   rw[List.getElem?_set] at hi
   by_cases e:b=i
   ·subst e
    rw[if_pos rfl,if_pos hbl] at hi
    cases hi
    exact⟨_,hb,List.mem_cons_of_mem _ hx⟩
   ·rw[if_neg e] at hi
    exact⟨l,hi,hx⟩
  obtain⟨l2,q1,q2⟩:=key i l x hi hx
  obtain⟨l3,q3,q4⟩:=key j l' y hj hy
  exact h.sep i j l2 l3 q1 q3 hne x q2 y q4
 ·rw[hmemR,h.mem]
  constructor
  ·rintro⟨⟨l,hl,hjl⟩,hne⟩
   obtain⟨i,hi⟩:=List.getElem?_of_mem hl
   by_cases e:i=b
   ·subst e
    rw[hb] at hi
    cases hi
    rcases List.mem_cons.1 hjl with rfl|hjl
    ·exact absurd rfl hne
    ·exact⟨t,List.mem_of_getElem? (i:=i) (by rw[List.getElem?_set,if_pos rfl,if_pos hbl]),hjl⟩
   ·exact⟨l,List.mem_of_getElem? (i:=i) (by rw[List.getElem?_set,if_neg (fun h=>e h.symm)];exact hi),hjl⟩
  ·rintro⟨l,hl,hjl⟩
   obtain⟨i,hi⟩:=List.getElem?_of_mem hl
   rw[List.getElem?_set] at hi
   by_cases e:b=i
   ·subst e
    rw[if_pos rfl,if_pos hbl] at hi
    cases hi
    refine⟨⟨_,hbm,List.mem_cons_of_mem _ hjl⟩,fun e2=>?_⟩
    subst e2
    have:=(hsa.1 j hjl).1
    omega
   ·rw[if_neg e] at hi
    refine⟨⟨l,List.mem_of_getElem? hi,hjl⟩,fun e2=>?_⟩
    subst e2
    exact h.sep b i (j::t) l hb hi e j List.mem_cons_self j hjl rfl
 ·simp only[List.length_append,List.length_cons]
  omega
theorem DF.full{n:Nat}{Ls:List (List Nat)}{R out:List Nat}(h:DF K N F n Ls R out)(hl:out.length<n):∃l∈Ls,l≠[]:=by
 have:=h.len
 cases R with
 |nil=>simp at this;omega
 |cons x R=>
  obtain⟨l,hl,hx⟩:=(h.mem x).1 List.mem_cons_self
  exact⟨l,hl,fun e=>by rw[e] at hx;cases hx⟩
theorem DF.last{n:Nat}{Ls:List (List Nat)}{R out:List Nat}(h:DF K N F n Ls R out)(hl:¬out.length<n):Ord K N F (List.range n) out:=by
 have:=h.len
 have hR:R=[]:=List.eq_nil_of_length_eq_zero (by omega)
 subst hR
 have:=h.ord [] .nil
 simpa using this
end
end
section
section
variable {α:Type} {enc:α→List Value} {sz:Nat}
theorem vZ{P:Program}{w:World}{base cap g n:Nat}{T:TypeId}{inf:TypeInfo}[f:dp P T inf]{l:List α}(he:∀x,(enc x).length=inf.size)(hone:∀x,bF (enc x)=true)(ho:w.ownsRow base T inf.size (.slice (some ⟨g,0,none⟩) n cap) n (bO enc l))(hn:l.length=n){k:Nat}(hk:k<l.length)(x:α){vx:Value}(hcells:vx.cells.toList=enc x):
  ∃w',(Instr.storeAt T (.pointer (some ⟨g,0+k*inf.size,none⟩)) vx).run P w= .ok () w'∧w'.ownsRow base T inf.size (.slice (some ⟨g,0,none⟩) n cap) n (bO enc (l.set k x))∧Kp [g] w w':=by
 rcases ho with⟨h1,⟨h2,_⟩|⟨g',cap',cur,h2,hb,hg,hc1,hc2,hc3,hc4⟩⟩
 ·cases h2
 ·cases h2
  have hB:aF w g (.cells cur T):=hg
  have hlt:k*inf.size+inf.size≤n*inf.size:=by
   have:(k+1)*inf.size≤n*inf.size:=Nat.mul_le_mul_right _ (by omega)
   rwa [Nat.add_mul,Nat.one_mul] at this
  have hle:n*inf.size≤cap*inf.size:=Nat.mul_le_mul_right _ hc1
  have hrun:=fg (P:=P) (T:=T) (off:=0+k*inf.size) (v:=vx) hB (by rw[hcells];exact he x) (by rw[hcells,he x];omega) (by rw[hcells];exact hone x)
  rw[hcells] at hrun
  refine⟨_,hrun,⟨by rw[bY he,List.length_set,hn],Or.inr ⟨g,cap,_,rfl,hb,hB.set _,hc1,hc2,?_,?_⟩⟩,Kp.set w hB rfl rfl⟩
  ·have:=jc (cs:=cur.toList) (off:=0+k*inf.size) (l:=enc x) (by rw[he x];simp;omega)
   rw[List.size_toArray,this]
   simpa using hc3
  ·have hsplit:cur.toList=[]++(bO enc l++cur.toList.drop (n*inf.size)):=by
    rw[List.nil_append]
    conv=>lhs;rw[←List.take_append_drop (n*inf.size) cur.toList]
    rw[hc4]
   have hset:=yg he l k hk x [] (cur.toList.drop (n*inf.size))
   rw[←hsplit,List.length_nil,List.nil_append] at hset
   rw[List.toList_toArray,hset]
   refine(List.take_append_of_le_length ?_).trans (List.take_of_length_le ?_)
   ·rw[bY he,List.length_set,hn];exact Nat.le_refl _
   ·rw[bY he,List.length_set,hn];exact Nat.le_refl _
end
section
variable {P:Program} {α:Type} {enc:α→List Value} {m:Nat} {Q:Exit→Act→World→Prop} {ops rest:List Oper} {L:Env} {w:World} {ty:TypeId} {pos:String} {af:Array Edge} {q:Option (Nat×Bool)}
theorem SG.F6{base cap g n:Nat}{T:TypeId}{inf:TypeInfo}[f:dp P T inf]{l:List α}{a x:Operand}{y:α}{k o:Nat}(he:∀x,(enc x).length=inf.size)(hone:∀x,bF (enc x)=true)(hw:want ops L ⟨none,.store T a x,ty,pos,af,q⟩=some true)(hk:(known L a&&known L x)=true)
  (ha:bB L a= .pointer (some ⟨g,o,none⟩)) (ho':o=0+k*inf.size) {vy:Value} (hx:bB L x=vy) (hcells:vy.cells.toList=enc y) (ho:w.ownsRow base T inf.size (.slice (some ⟨g,0,none⟩) n cap) n (bO enc l)) (hn:l.length=n) (hkl:k<l.length)
  (h:∀w',Kp [g] w w'→w'.ownsRow base T inf.size (.slice (some ⟨g,0,none⟩) n cap) n (bO enc (l.set k y))→SG P m ops Q rest L w'):SG P m ops Q (⟨none,.store T a x,ty,pos,af,q⟩::rest) L w:=by
 subst ho'
 refine SG.op rfl rfl hw (by simpa[Op.operands] using hk) ?_
 obtain⟨w',h1,h2,h3⟩:=vZ (P:=P) he hone ho hn hkl y hcells
 unfold bh
 have:(execOp (bB L) ⟨none,.store T a x,ty,pos,af,q⟩).run P w= .ok .skip w':=by
  simp only[execOp,hx,ha,Sem.run_bind,h1,Result.andThen,Sem.run_pure]
 rw[this]
 exact h w' h3 h2
end
end
section
open Go.Proofs Go.Shelf Go.Sort
structure Hw where
 a:Option Addr
 c:Nat
 l:List Nat
def zD(h:Hw):Value:= .slice h.a h.l.length h.c
def FL(h:Hw):List Value:=[zD h]
theorem mQ(h:Hw):(FL h).length=1:=rfl
theorem yc(h:Hw):bF (FL h)=true:=rfl
theorem Tw(a:Option Addr)(n c:Nat)(w:World):(Instr.buildSlice 279 1 #[(0,.slice a n c)]).run Tryz.prog w= .ok (.slice (some ⟨w.heap.size,0,none⟩) 1 1) {w with heap:=w.heap.push (.cells #[.slice a n c] 245)}:=by kernel_rfl
noncomputable def dC(ms:List Em):List Nat:=zl (pK ms) (pN ms) (pF ms) (List.range ms.length)
theorem GQ{room:Int}{ms:List Em}(hI:dF room (ms.map Em.en)){i j:Nat}(hi:i<ms.length)(hj:j<ms.length)(hij:i≠j)(hk:pK ms i=pK ms j):pN ms i≠pN ms j:=by
 have key:∀{i j:Nat} (hi:i<ms.length) (hj:j<ms.length),i<j→pK ms i=pK ms j→pN ms i≠pN ms j:=fun{i j} hi hj hlt hk=>by
  have h:=List.pairwise_iff_getElem.1 hI.dst i j (by simpa using hi) (by simpa using hj) hlt
  rw[BC hi,BC hj] at hk
  rw[ug hi,ug hj]
  intro hn
  refine h ⟨?_,?_⟩
  ·simp only[List.getElem_map]
   exact hk
  ·simp only[List.getElem_map]
   exact hn
 rcases Nat.lt_or_gt_of_ne hij with h|h
 ·exact key hi hj h hk
 ·exact fun e=>key hj hi h hk.symm e.symm
theorem yN{K:Nat→Dg}{N:Nat→Int}{n:Nat}{k:Dg}(hd:∀i j,i<n→j<n→i≠j→K i=K j→N i≠N j){l:List Nat}(hp:l.Perm (cN K n k))(hs:l.Pairwise (fun x y=>N x≤N y)):l.Pairwise (fun x y=>N x<N y∧K x=K y):=by
 have hn:l.Nodup:=hp.nodup_iff.2 (CR K n k)
 refine(List.Pairwise.and hs hn).imp_of_mem (fun{x y} hx hy h=>?_)
 have q1:=iG.1 (hp.mem_iff.1 hx)
 have q2:=iG.1 (hp.mem_iff.1 hy)
 have hk:K x=K y:=q1.2.trans q2.2.symm
 have:=hd x y q1.1 q2.1 h.2 hk
 have:=h.1
 exact⟨by omega,hk⟩
theorem A4{K:Nat→Dg}{N F:Nat→Int}{n:Nat}{m:List (Dg×Value)}{C:Dg→List Nat}{dn:List (Dg×Hw)}(hd:∀i j,i<n→j<n→i≠j→K i=K j→N i≠N j)(hm:(m.map (·.1)).Nodup)
  (hC:∀k,(C k).Perm (cN K n k)) (hs:∀k v,aB m k=some v→(C k).Pairwise (fun x y=>N x≤N y)) (hcov:∀j,j<n→∃v,aB m (K j)=some v) (hp:(dn.map (fun y=>(y.1,zD y.2))).Perm m) (hl:∀y∈dn,y.2.l=C y.1):
  DF K N F n (dn.map (fun y=>y.2.l)) (List.range n) []:=by
 have hnd:(dn.map (fun y=>y.1)).Nodup:=by
  have h1:((dn.map (fun y=>(y.1,zD y.2))).map (·.1)).Perm (m.map (·.1)):=hp.map _
  rw[List.map_map] at h1
  exact h1.nodup_iff.2 hm
 have hin:∀y∈dn,aB m y.1=some (zD y.2):=fun y hy=>by
  have:(y.1,zD y.2)∈m:=hp.mem_iff.1 (List.mem_map.2 ⟨y,hy,rfl⟩)
  exact dE hm this
 refine⟨List.pairwise_lt_range,fun j hj=>List.mem_range.1 hj,by simp,fun r h=>h,fun l hlm=>?_,fun i j l l' hi hj hne x hx y hy=>?_,fun j=>?_⟩
 ·obtain⟨y,hy,rfl⟩:=List.mem_map.1 hlm
  rw[hl y hy]
  exact yN hd (hC y.1) (hs y.1 _ (hin y hy))
 ·rw[List.getElem?_map] at hi hj
  obtain⟨y1,h1,rfl⟩:=Option.map_eq_some_iff.1 hi
  obtain⟨y2,h2,rfl⟩:=Option.map_eq_some_iff.1 hj
  have m1:=List.mem_of_getElem? h1
  have m2:=List.mem_of_getElem? h2
  rw[hl y1 m1] at hx
  rw[hl y2 m2] at hy
  have k1:=(iG.1 ((hC _).mem_iff.1 hx)).2
  have k2:=(iG.1 ((hC _).mem_iff.1 hy)).2
  rw[k1,k2]
  intro e
  obtain⟨l1,g1⟩:=List.getElem?_eq_some_iff.1 h1
  obtain⟨l2,g2⟩:=List.getElem?_eq_some_iff.1 h2
  have:=(List.getElem_inj (xs:=dn.map (fun y=>y.1)) (i:=i) (j:=j) (h₀:=by simpa using l1) (h₁:=by simpa using l2) hnd).1 (by simp only[List.getElem_map,g1,g2];exact e)
  exact hne this
 ·rw[List.mem_range]
  constructor
  ·intro hj
   obtain⟨v,hv⟩:=hcov j hj
   have hvm:=hp.mem_iff.2 (oe hv)
   obtain⟨y,hy,e⟩:=List.mem_map.1 hvm
   refine⟨y.2.l,List.mem_map.2 ⟨y,hy,rfl⟩,?_⟩
   rw[hl y hy]
   have:y.1=K j:=congrArg Prod.fst e
   rw[this]
   exact(hC _).mem_iff.2 (iG.2 ⟨hj,rfl⟩)
  ·rintro⟨l,hlm,hj⟩
   obtain⟨y,hy,rfl⟩:=List.mem_map.1 hlm
   rw[hl y hy] at hj
   exact(iG.1 ((hC _).mem_iff.1 hj)).1
attribute [local irreducible] CG NG SG aK aI Row aF aE aM aR bg
theorem xq{w:World}{base p:Nat}{v:Value}{room:Int}{ms:List Em}(hP:Pl w base p v room ms){x y:Nat}(hx:x<ms.length)(hy:y<ms.length):
  ∃r:Bool,(r=true↔dW (pF ms) x y)∧dz Tryz.prog 180 #[.pointer (some ⟨p,0,none⟩),.int .i64 (x:Int),.int .i64 (y:Int)] w (.bool r):=by
 refine⟨(decide (pF ms y<pF ms x))||((decide (pF ms x=pF ms y))&&decide (x<y)),by unfold dW;simp,?_⟩
 refine ey Tryz.func180 rfl Tryz.ntmps180 rfl ?_
 obtain⟨a,c,rfl,hc,hS⟩:=hP.sl
 obtain⟨-,q1⟩:=hP.rows
 obtain⟨g,o1,rfl,hrx⟩:=hS.at hx
 have hry:Row w g (o1+y*22) (ec ms[y]):=hS.row (List.getElem?_eq_getElem hy)
 obtain⟨-,-,-,rx,-⟩:=eE hrx
 obtain⟨-,-,-,ry,-⟩:=eE hry
 rw[BD hx,BD hy]
 repeat (first|apply aj|(apply ar;rfl;apply aD<;>rfl))
 refine CG.tail mixed 19 [0,1,2,3,4,5,6,7,8,9,10,11,12,13,14,15,16,17,18] (by kernel_rfl) ?_
 repeat (apply bZ;rfl;rfl;(first|apply az|apply aD|apply bf|apply aW|apply bM|apply fv)<;>first|rfl|(apply Ar.mk;omega)|assumption|exact List.not_mem_nil)
 refine aI.tl (fun w1 hk1 _ _=>?_)
 clear rx ry q1 hrx hry
 generalize ms[x].x.t.fee=f1
 generalize ms[y].x.t.fee=f2
 by_cases g1:f2<f1
 ·have e:((decide (f2<f1))||((decide (f1=f2))&&decide (x<y)))=true:=by simp[g1]
  rw[e]
  repeat (first|apply aj|(apply ar;rfl;(first|apply az|apply aD|apply cu|apply fW)<;>first|rfl|(apply bK;first|assumption|omega))|refine SG.skip rfl rfl ?_)
  refine aO (Or.inl rfl) Tryz.results180 (aC.tmp rfl) ?_
  exact⟨rfl,hk1⟩
 ·by_cases g2:f1=f2
  ·by_cases g3:(x:Int)<(y:Int)
   ·have g4:x<y:=by omega
    have e:((decide (f2<f1))||((decide (f1=f2))&&decide (x<y)))=true:=by simp[g2,g4]
    rw[e]
    repeat (first|apply aj|(apply ar;rfl;(first|apply az|apply aD|apply cu|apply cG|apply fF|apply fW)<;>first|rfl|(apply bK;first|assumption|omega)|(apply bN;first|assumption|omega)))
    refine aO (Or.inl rfl) Tryz.results180 (aC.tmp rfl) ?_
    exact⟨rfl,hk1⟩
   ·have g4:¬x<y:=by omega
    have e:((decide (f2<f1))||((decide (f1=f2))&&decide (x<y)))=false:=by simp only[decide_eq_false g1,decide_eq_false g4,Bool.and_false,Bool.or_false]
    rw[e]
    repeat (first|apply aj|(apply ar;rfl;(first|apply az|apply aD|apply cu|apply cG|apply fF|apply fW)<;>first|rfl|(apply bK;first|assumption|omega)|(apply bN;first|assumption|omega)))
    refine aO (Or.inl rfl) Tryz.results180 (aC.tmp rfl) ?_
    exact⟨rfl,hk1⟩
  ·have e:((decide (f2<f1))||((decide (f1=f2))&&decide (x<y)))=false:=by simp only[decide_eq_false g1,decide_eq_false g2,Bool.false_and,Bool.or_false]
   rw[e]
   repeat (first|apply aj|(apply ar;rfl;(first|apply az|apply aD|apply cu|apply fF|apply fW)<;>first|rfl|(apply bN;first|assumption|omega))|refine SG.skip rfl rfl ?_)
   refine aO (Or.inl rfl) Tryz.results180 (aC.tmp rfl) ?_
   exact⟨rfl,hk1⟩
end
section
open Go.Proofs Go.Shelf Go.Sort
theorem rh{α:Type}:∀{l u:List α},l.Nodup→(∀x∈l,x∈u)→l.length≤u.length
 |[],u,_,_=>Nat.zero_le _
 |x::l,u,hn,hs=>by
  obtain⟨X,Y,rfl⟩:=List.append_of_mem (hs x List.mem_cons_self)
  have hn':=List.nodup_cons.1 hn
  have:=rh (l:=l) (u:=X++Y) hn'.2 (fun z hz=>by
   have h1:=hs z (List.mem_cons_of_mem _ hz)
   rw[List.mem_append,List.mem_cons] at h1
   rw[List.mem_append]
   rcases h1 with h|rfl|h
   ·exact Or.inl h
   ·exact absurd hz hn'.1
   ·exact Or.inr h)
  simp only[List.length_append,List.length_cons] at this⊢
  omega
theorem C0{w:World}{b:Nat}{o:Obj}(h:w.heap[b]?=some o):aF w b o:=h
attribute [local irreducible] CG NG SG aK aI Row aF aE aM aR bg
theorem wk{w:World}{base p:Nat}{v:Value}{room:Int}{ms:List Em}(hP:Pl w base p v room ms)(hI:dF room (ms.map Em.en))(hr:room≤1024):
  kt Tryz.prog 3 nI 1 159 #[.pointer (some ⟨p,0,none⟩)] w (dC ms):=by
 refine bA Tryz.func159 rfl Tryz.ntmps159 rfl ?_
 have hll:ms.length≤1024:=by have:=hI.len;rw[List.length_map] at this;omega
 have hb:=hI.nb
 repeat (first|apply aj|(apply ar;rfl;(first|apply az|apply aD)<;>rfl))
 refine SG.call rfl rfl rfl (vs:=[.pointer (some ⟨p,0,none⟩)]) (bz.of rfl) ((zw hP hb (by omega)).mono (fun e w1 hh=>?_))
 obtain⟨bm,m,C,he,hk1,hM,hR,hC,hsd,hcov,hne⟩:=hh
 refine⟨_,he,?_⟩
 clear he
 refine SG.range rfl rfl rfl (ag rfl) hM (fun r w2 hk2 hr2 hIt=>?_)
 have s1:=hk1.size
 repeat apply aj
 refine CG.loop (X:=Value×List (Dg×Hw)×List (Dg×Value)×Option (Dg×Value)) (fun x=>[(0,.pointer (some ⟨p,0,none⟩)),(3,x.1),(12,.pointer (some ⟨r,0,none⟩))])
  (fun x w'=>Kp [] w1 w'∧r<w'.heap.size∧aM w' r bm (dv (n:=8)) (fun v:Value=>v) m x.2.2.1 x.2.2.2∧(x.2.1.map (fun y=>(y.1,zD y.2))++x.2.2.1).Perm m∧(∀y∈x.2.1,y.2.l=C y.1∧Sl nI 1 w1 y.2.a y.2.l∧y.2.l.length≤y.2.c)∧w'.ownsRow w1.heap.size 245 1 x.1 (x.2.1.map (·.2)).length (bO FL (x.2.1.map (·.2))))
  (fun x=>x.2.2.1.length) (.slice none 0 0,[],m,none) ⟨hk2,hIt.Dw,hIt,by simp,fun y hy=>(by cases hy),dR⟩ (aS.of rfl) ?_
 rintro⟨hv,dn,left,cur⟩ w3 ⟨hk3,hrs,hI3,hp,hdn,ho3⟩
 simp only at hI3 hp hdn ho3
 refine CG.to [(0,.pointer (some ⟨p,0,none⟩)),(3,hv),(12,.pointer (some ⟨r,0,none⟩))] (aS.of rfl) ?_
 have s3:=hk3.size
 have hml:m.length≤1024:=by
  have h1:(m.map (·.1)).Nodup:=hM.nodup
  have h2:∀k∈m.map (·.1),k∈(List.range ms.length).map (pK ms):=fun k hk=>by
   obtain⟨q,hq,rfl⟩:=List.mem_map.1 hk
   have:=hne q.1 q.2 (dE h1 hq)
   obtain⟨j,hj⟩:=List.exists_mem_of_ne_nil _ this
   have:=iG.1 hj
   exact List.mem_map.2 ⟨j,List.mem_range.2 this.1,this.2⟩
  have h3:=rh h1 h2
  simp only[List.length_map,List.length_range] at h3
  omega
 have hlen:=hp.length_eq
 rw[List.length_append,List.length_map] at hlen
 repeat apply aj
 refine SG.next rfl rfl rfl (ag rfl) hI3 (fun h0=>?_) (fun pre q post w4 hl4 hk4 hI4=>?_)
 rotate_left
 ·have hqm:q∈m:=hp.mem_iff.1 (by rw[hl4];simp)
  have hqa:aB m q.1=some q.2:=dE hM.nodup hqm
  obtain⟨a',c',e',hc',hS'⟩:=Sl.own j4 (hR.rows _ _ hqa) rfl
  have k4:Kp [] w1 w4:=hk3.ai hk4 (aV (by have:=hk2.size;omega))
  have ho4:=bW ho3 hk4 (fun b hb hm=>by
   rw[List.mem_singleton] at hm
   subst hm
   exact aM.wm hI3 ho3 (gg hb))
  have s4:=hk4.size
  rw[hl4] at hlen
  simp only[List.length_append,List.length_cons] at hlen
  repeat (first|apply aj|(apply ar;rfl;apply dA<;>rfl))
  refine bL rfl ?_
  repeat (first|apply aj|(apply ar;rfl;(first|apply az|apply aD|apply dA|apply Ge)<;>first|rfl|assumption|exact List.not_mem_nil))
  rw[e']
  refine SG.buildSlice rfl rfl rfl rfl (Tw a' (C q.1).length c') (fun b6 w5 hk5 hb6 hB6=>?_)
  have hS6:Sl FL 1 w5 (some ⟨b6,0,none⟩) [(⟨a',c',C q.1⟩:Hw)]:=Sl.gH (pre:=[]) (post:=[]) mQ (l:=[(⟨a',c',C q.1⟩:Hw)]) (T:=245) hB6
  have ho5:=aT ho4 hk5
  skip
  refine SG.kr (enc:=FL) (xs:=dn.map (·.2)) (ys:=[(⟨a',c',C q.1⟩:Hw)]) (base:=w1.heap.size) rfl rfl rfl (ag rfl) (ag rfl) rfl rfl rfl rfl mQ yc ho5 hS6 (by simp only[maxLen,List.length_cons,List.length_nil,List.length_map];omega) (by simp only[List.length_cons,List.length_nil,List.length_map];show(_+_)*24≤_;omega) (by have:=hk5.size;omega) (fun v' w6 hk6 ho6 hv6=>?_)
  have hI5:=hI4.ay hk5
  have hI6:=hI5.kp hk6 (aM.wm hI5 ho5) (aE.wm hI5.map ho5)
  repeat (first|apply aj|(apply ar;rfl;apply aD<;>rfl))
  refine NG.round (v',dn++[(q.1,⟨a',c',C q.1⟩)],pre++post,some q) (aS.of rfl) ⟨(k4.trans hk5).ai hk6 (eO ho5 (Nat.le_refl _)),hI6.Dw,hI6,?_,fun y hy=>?_,?_⟩ ?_
  ·simp only[List.map_append,List.map_cons,List.map_nil]
   have e2:(q.1,zD ⟨a',c',C q.1⟩)=q:=by
    have:zD ⟨a',c',C q.1⟩=q.2:=e'.symm
    rw[this]
   rw[e2,List.append_assoc]
   refine List.Perm.trans ?_ hp
   rw[hl4]
   refine List.Perm.append_left _ ?_
   exact(List.perm_middle (l₁:=pre) (l₂:=post) (a:=q)).symm
  ·simp only at hy
   rcases List.mem_append.1 hy with hy|hy
   ·exact hdn y hy
   ·rw[List.mem_singleton] at hy
    subst hy
    exact⟨rfl,hS',hc'⟩
  ·simp only[List.map_append,List.map_cons,List.map_nil]
   exact ho6
  ·simp only
   rw[hl4]
   simp only[List.length_append,List.length_cons]
   omega
 subst h0
 rw[List.append_nil] at hp
 repeat (first|apply aj|(apply ar;rfl;apply dA<;>rfl))
 refine bG rfl ?_
 have hst:=A4 (F:=pF ms) (fun i j hi hj hij hk=>GQ hI hi hj hij hk) hM.nodup hC hsd hcov hp (fun y hy=>(hdn y hy).1)
 obtain⟨H0,hH0⟩:∃H0,H0=dn.map (·.2):=⟨_,rfl⟩
 rw[←hH0] at ho3
 have hst:DF (pK ms) (pN ms) (pF ms) ms.length (H0.map (·.l)) (List.range ms.length) []:=by
  rw[hH0,List.map_map]
  exact hst
 have hH:∀h∈H0,Sl nI 1 w1 h.a h.l∧h.l.length≤h.c:=fun h hm=>by
  rw[hH0] at hm
  obtain⟨y,hy,rfl⟩:=List.mem_map.1 hm
  exact(hdn y hy).2
 have hH0l:H0.length≤1024:=by
  rw[hH0,List.length_map]
  simp only[List.length_nil] at hlen
  omega
 clear hI3 hR hC hsd hcov hdn hp hM hlen hml hH0 hrs
 have k3:Kp [] w w3:=hk1.trans hk3
 repeat (first|apply aj|(apply ar;rfl;apply aD<;>rfl))
 refine CG.loop (X:=(Value×List Hw)×(Value×List Nat)×List Nat) (fun x=>[(0,.pointer (some ⟨p,0,none⟩)),(3,x.1.1),(6,x.2.1.1)])
  (fun x w'=>Kp [] w1 w'∧DF (pK ms) (pN ms) (pF ms) ms.length (x.1.2.map (·.l)) x.2.2 x.2.1.2∧w'.ownsRow w1.heap.size 245 1 x.1.1 x.1.2.length (bO FL x.1.2)∧w'.ownsRow w1.heap.size 3 1 x.2.1.1 x.2.1.2.length (bO nI x.2.1.2)∧(∀h∈x.1.2,Sl nI 1 w1 h.a h.l∧h.l.length≤h.c)∧x.1.2.length≤1024)
  (fun x=>x.2.2.length) ((hv,H0),(.slice none 0 0,[]),List.range ms.length) ⟨hk3,hst,ho3,dR,hH,hH0l⟩ (aS.of rfl) ?_
 clear hst hH hH0l ho3 k3 hk3 s3
 rintro⟨⟨hv,H⟩,⟨ov,out⟩,R⟩ w3 ⟨hk3,hst,ho3,hoo3,hH,hHl⟩
 simp only at hst ho3 hoo3 hH hHl
 refine CG.to [(0,.pointer (some ⟨p,0,none⟩)),(3,hv),(6,ov)] (aS.of rfl) ?_
 have k3:Kp [] w w3:=hk1.trans hk3
 have s3:=hk3.size
 have hP3:=hP.ay k3
 obtain⟨a,c,rfl,hc,hS⟩:=hP3.sl
 obtain⟨-,q1⟩:=hP3.rows
 obtain⟨ao,co,rfl,hco,hSo⟩:=Sl.own j4 hoo3 rfl
 by_cases hlt:out.length<ms.length
 rotate_left
 ·have g1:¬(out.length:Int)<(ms.length:Int):=by omega
  have hord:=(hst.last hlt).eq
  repeat (first|apply aj|(apply ar;rfl;(first|apply az|apply bf|apply aW|apply bM|apply cG|apply dy)<;>first|rfl|assumption|(apply bN;first|assumption|omega)|exact List.not_mem_nil))
  refine bG rfl ?_
  repeat (first|apply aj|(apply ar;rfl;(first|apply az|apply aD)<;>rfl))
  refine aO (Or.inl rfl) Tryz.results159 (aC.tmp rfl) ?_
  refine⟨_,rfl,?_,k3⟩
  unfold dC
  rw[hord]
  exact cX hoo3 s1
 have g1:(out.length:Int)<(ms.length:Int):=by omega
 have hful:=hst.full hlt
 have hHpos:0<H.length:=by
  obtain⟨l,hl,_⟩:=hful
  obtain⟨h,hh,_⟩:=List.mem_map.1 hl
  exact List.length_pos_of_mem hh
 obtain⟨gh,caph,rfl,hch⟩:=kE ho3 hHpos
 repeat (first|apply aj|(apply ar;rfl;(first|apply az|apply bf|apply aW|apply bM|apply cG|apply dy)<;>first|rfl|assumption|(apply bK;first|assumption|omega)|exact List.not_mem_nil))
 refine bL rfl ?_
 repeat (first|apply aj|(apply ar;rfl;(first|apply az|apply aD|apply dy)<;>rfl))
 clear q1
 refine CG.loop (X:=Nat×Int) (fun x=>[(0,.pointer (some ⟨p,0,none⟩)),(3,.slice (some ⟨gh,0,none⟩) H.length caph),(6,.slice ao out.length co),(7,.int .i64 x.2),(29,.slice (some ⟨gh,0,none⟩) H.length caph),(30,.int .i64 (H.length:Int)),(31,.int .i64 (x.1:Int))])
  (fun x w'=>x.1≤H.length∧Kp [] w3 w'∧rO (pF ms) (H.map (·.l)) x.1 x.2) (fun x=>H.length-x.1) (0,-1) ⟨Nat.zero_le _,Kp.refl _ _,rO.init _⟩ (aS.of rfl) ?_
 rintro⟨k,z⟩ w4 ⟨hk,hk4,hin⟩
 simp only at hk hin
 refine CG.to [(0,.pointer (some ⟨p,0,none⟩)),(3,.slice (some ⟨gh,0,none⟩) H.length caph),(6,.slice ao out.length co),(7,.int .i64 z),(29,.slice (some ⟨gh,0,none⟩) H.length caph),(30,.int .i64 (H.length:Int)),(31,.int .i64 (k:Int))] (aS.of rfl) ?_
 have k14:=hk3.trans hk4
 have ho4:=aT ho3 hk4
 have hP4:=hP3.ay hk4
 have hrow:∀j (hj:j<H.length),Row w4 gh (0+j*1) [zD H[j]]:=fun j hj=>sq mQ ho4 rfl hj
 by_cases hkl:k<H.length
 ·have g2:(k:Int)<(H.length:Int):=by omega
  have hrk:=hrow k hkl
  have hgk:(H.map (·.l))[k]?=some H[k].l:=by rw[List.getElem?_map,List.getElem?_eq_getElem hkl];rfl
  obtain⟨hSk,hck⟩:=hH _ (List.getElem_mem hkl)
  have hSk:=hSk.ay k14
  unfold zD at hrk
  rcases hHk:H[k] with⟨ak,ck,lk⟩
  rw[hHk] at hrk hgk hSk
  simp only at hrk hgk hSk
  repeat (first|apply aj|(apply ar;rfl;apply cG<;>first|rfl|(apply bK;first|assumption|omega)))
  refine bL rfl ?_
  repeat (first|apply aj|(apply ar;rfl;(first|apply az|apply aD|apply bf|apply fv)<;>first|rfl|(apply Ar.mk;omega)|assumption|exact List.not_mem_nil))
  cases lk with
  |nil=>
   have g3:¬(0:Int)<(([]:List Nat).length:Int):=by simp
   refine CG.tail mixed 17 [0,1,2,3,4,5,6,7,8,9,10,11,12,13,14,15,16] (by kernel_rfl) ?_
   repeat (first|(apply bZ;rfl;rfl;(first|apply az|apply dy|apply fW)<;>first|rfl|(apply bN;first|assumption|omega))|refine aI.skip rfl rfl ?_)
   refine aI.tl (fun w5 hk5 _ _=>?_)
   repeat (first|apply aj|(apply ar;rfl;apply cu<;>rfl)|refine SG.skip rfl rfl ?_)
   refine bG rfl ?_
   repeat (first|apply aj|(apply ar;rfl;(first|apply az|apply dG)<;>first|rfl|(apply Ar.mk;omega)))
   refine NG.round (k+1,z) (aS.of rfl) ⟨by simp only;omega,hk4.trans hk5,hin.skip hgk⟩ (by simp only;omega)
  |cons x tk=>
   have g3:(0:Int)<((x::tk).length:Int):=by simp only[List.length_cons];omega
   obtain⟨gk,ok,rfl,hr0⟩:=hSk.at (i:=0) (by simp)
   simp only[List.getElem_cons_zero] at hr0
   have hxm:x<ms.length:=hst.lt x ((hst.mem x).2 ⟨_,List.mem_of_getElem? hgk,List.mem_cons_self⟩)
   have hcase:z= -1∨∃(b a:Nat) (t:List Nat),z=(b:Int)∧(H.map (·.l))[b]?=some (a::t):=by
    cases hin with
    |no h=>exact Or.inl rfl
    |att b a t h1 h2 h3=>exact Or.inr ⟨b,a,t,rfl,h2⟩
   rcases hcase with rfl|⟨b,aa,t,rfl,hgb⟩
   ·have g4:(-1:Int)<0:=by omega
    refine CG.tail mixed 17 [0,1,2,3,4,5,6,7,8,9,10,11,12,13,14,15,16] (by kernel_rfl) ?_
    repeat (first|(apply bZ;rfl;rfl;(first|apply az|apply cG|apply dy|apply fW)<;>first|rfl|(apply bK;first|assumption|omega))|refine aI.skip rfl rfl ?_)
    refine aI.tl (fun w5 hk5 _ _=>?_)
    repeat (first|apply aj|(apply ar;rfl;apply cu<;>rfl)|refine SG.skip rfl rfl ?_)
    refine bL rfl ?_
    repeat (first|apply aj|(apply ar;rfl;(first|apply az|apply aD|apply dG)<;>first|rfl|(apply Ar.mk;omega)))
    refine NG.round (k+1,(k:Int)) (aS.of rfl) ⟨by simp only;omega,hk4.trans hk5,hin.first hgk⟩ (by simp only;omega)
   ·have hbl:b<H.length:=by
     have:=(List.getElem?_eq_some_iff.1 hgb).1
     simpa using this
    have g4:¬(b:Int)<0:=by omega
    have g5:(b:Int)<(H.length:Int):=by omega
    have hrb:=hrow b hbl
    obtain⟨hSb,-⟩:=hH _ (List.getElem_mem hbl)
    have hSb:=hSb.ay k14
    have hgb':H[b].l=aa::t:=by
     rw[List.getElem?_map,List.getElem?_eq_getElem hbl] at hgb
     simpa using hgb
    unfold zD at hrb
    rcases hHb:H[b] with⟨ab,cb,lb⟩
    rw[hHb] at hrb hgb' hSb
    simp only at hrb hgb' hSb
    subst hgb'
    obtain⟨gb,ob,rfl,hs0⟩:=hSb.at (i:=0) (by simp)
    simp only[List.getElem_cons_zero] at hs0
    have ham:aa<ms.length:=hst.lt aa ((hst.mem aa).2 ⟨_,List.mem_of_getElem? hgb,List.mem_cons_self⟩)
    have g6:(0:Int)<((aa::t).length:Int):=by simp only[List.length_cons];omega
    refine CG.tail mixed 17 [0,1,2,3,4,5,6,7,8,9,10,11,12,13,14,15,16] (by kernel_rfl) ?_
    repeat (apply bZ;rfl;rfl;(first|apply az|apply bf|apply Bn|apply fv|apply cG|apply dy|apply fW)<;>first|rfl|(apply Ar.mk;omega)|assumption|(apply bK;first|assumption|omega)|(apply bN;first|assumption|omega)|exact List.not_mem_nil)
    refine aI.tl (fun w5 hk5 _ _=>?_)
    obtain⟨rr,hrr,hret⟩:=xq (hP4.ay hk5) hxm ham
    skip
    refine SG.ret rfl rfl rfl (vs:=[.pointer (some ⟨p,0,none⟩),.int .i64 (x:Int),.int .i64 (aa:Int)]) (bz.of rfl) hret (fun w6 hk6=>?_)
    have k46:=(hk4.trans hk5).trans hk6
    cases rr with
    |true=>
     repeat (first|apply aj|(apply ar;rfl;apply cu<;>rfl))
     refine bL rfl ?_
     repeat (first|apply aj|(apply ar;rfl;(first|apply az|apply aD|apply dG)<;>first|rfl|(apply Ar.mk;omega)))
     refine NG.round (k+1,(k:Int)) (aS.of rfl) ⟨by simp only;omega,k46,hin.turn hgb hgk (hrr.1 rfl)⟩ (by simp only;omega)
    |false=>
     repeat (first|apply aj|(apply ar;rfl;apply cu<;>rfl))
     refine bG rfl ?_
     repeat (first|apply aj|(apply ar;rfl;(first|apply az|apply dG)<;>first|rfl|(apply Ar.mk;omega)))
     refine NG.round (k+1,(b:Int)) (aS.of rfl) ⟨by simp only;omega,k46,hin.wN hgb hgk (fun h=>by have:=hrr.2 h;cases this)⟩ (by simp only;omega)
 ·have hke:k=(H.map (·.l)).length:=by rw[List.length_map];omega
  have g2:¬(k:Int)<(H.length:Int):=by omega
  have hin':=hin
  rw[hke] at hin'
  obtain⟨b,aa,t,rfl,hgb,hbest⟩:=hin'.get hful
  have hbl:b<H.length:=by
   have:=(List.getElem?_eq_some_iff.1 hgb).1
   simpa using this
  obtain⟨R',hst',hR'⟩:=hst.step hgb hbest
  have g5:(b:Int)<(H.length:Int):=by omega
  have hrb:=hrow b hbl
  obtain⟨hSb,hcb⟩:=hH _ (List.getElem_mem hbl)
  have hgb':H[b].l=aa::t:=by
   rw[List.getElem?_map,List.getElem?_eq_getElem hbl] at hgb
   simpa using hgb
  unfold zD at hrb
  rcases hHb:H[b] with⟨ab,cb,lb⟩
  rw[hHb] at hrb hgb' hSb hcb
  simp only at hrb hgb' hSb hcb
  subst hgb'
  have hSb4:=hSb.ay k14
  obtain⟨gb,ob,rfl,hs0⟩:=hSb4.at (i:=0) (by simp)
  simp only[List.getElem_cons_zero] at hs0
  have g6:(0:Int)<((aa::t).length:Int):=by simp only[List.length_cons];omega
  have hol:out.length≤1024:=by have:=hst.len;omega
  have hoo4:=aT hoo3 hk4
  repeat (first|apply aj|(apply ar;rfl;apply cG<;>first|rfl|(apply bN;first|assumption|omega)))
  refine bG rfl ?_
  repeat (first|apply aj|(apply ar;rfl;(first|apply az|apply bf|apply Bn|apply fv)<;>first|rfl|(apply Ar.mk;omega)|assumption|exact List.not_mem_nil))
  refine SG.buildSlice rfl rfl rfl rfl (Pt (aa:Int)) (fun b6 w5 hk5 hb6 hB6=>?_)
  have hS6:Sl nI 1 w5 (some ⟨b6,0,none⟩) [aa]:=Sl.gH (pre:=[]) (post:=[]) j4 (l:=[aa]) (T:=3) hB6
  clear hrb hs0
  skip
  refine SG.kr (enc:=nI) (xs:=out) (ys:=[aa]) (base:=w1.heap.size) rfl rfl rfl (ag rfl) (ag rfl) rfl rfl rfl rfl j4 BS (aT hoo4 hk5) hS6 (by simp only[maxLen,List.length_cons,List.length_nil];omega) (by simp only[List.length_cons,List.length_nil];show(_+_)*8≤_;omega) (by have:=(k14.trans hk5).size;omega) (fun v' w6 hk6 ho6 hv6=>?_)
  have hdis:∀g,(Value.slice (some ⟨gh,0,none⟩) H.length caph).ownBlock=some g→g∉aP (.slice ao out.length co):=fun g hg hm=>by
   obtain⟨cs,T,hT,hB⟩:∃cs T,T=245∧aF w4 g (.cells cs T):=by
    rcases ho4.2 with⟨e,_⟩|⟨g',cap,cur,e,_,hg',_⟩
    ·cases e
    ·cases e
     cases hg
     exact⟨_,_,rfl,C0 hg'⟩
   subst hT
   exact cK hoo4 (by decide) hB g (aH hm) List.mem_cons_self
  have ho5:=aT ho4 hk5
  have ho6h:=bW ho5 hk6 hdis
  have k16:Kp [] w1 w6:=(k14.trans hk5).ai hk6 (eO hoo4 (Nat.le_refl _))
  have hrb6:Row w6 gh (0+b*1) (FL H[b]):=sq mQ ho6h rfl hbl
  rw[hHb] at hrb6
  unfold FL zD at hrb6
  simp only at hrb6
  repeat (first|apply aj|(apply ar;rfl;(first|apply az|apply aD|apply bf|apply fv)<;>first|rfl|(apply Ar.mk;omega)|assumption|exact List.not_mem_nil))
  refine SG.val rfl rfl rfl rfl (HY (j:=1) rfl rfl rfl (Ar.mk (by simp only[List.length_cons];omega))) ?_
  repeat (apply ar;rfl;apply fv<;>first|rfl|(apply Ar.mk;omega))
  obtain⟨y,hy⟩:∃y:Hw,y=⟨some ⟨gb,if cb=1 then ob else ob+1*1,none⟩,cb-1,t⟩:=⟨_,rfl⟩
  refine SG.F6 (k:=b) (y:=y) (vy:= .slice (some ⟨gb,if cb=1 then ob else ob+1*1,none⟩) t.length (cb-1)) mQ yc rfl rfl (ag rfl) rfl (ag rfl) (by rw[hy];rfl) ho6h rfl hbl (fun w7 hk7 ho7=>?_)
  repeat apply aj
  refine NG.round ((.slice (some ⟨gh,0,none⟩) H.length caph,H.set b y),(v',out++[aa]),R') (aS.of rfl) ⟨k16.ai hk7 (fun z hz=>?_),?_,?_,?_,fun h hh=>?_,?_⟩ (by simp only;omega)
  ·rw[List.mem_singleton] at hz
   subst hz
   exact Or.inr (cp ho4 _ rfl)
  ·simp only
   rw[List.map_set,hy]
   exact hst'
  ·simp only
   rw[List.length_set]
   exact ho7
  ·simp only
   refine bW ho6 hk7 (fun g hg hm=>?_)
   rw[List.mem_singleton] at hm
   subst hm
   obtain⟨cs,T,hT,hB⟩:∃cs T,T=245∧aF w6 g (.cells cs T):=by
    rcases ho6h.2 with⟨e,_⟩|⟨g',cap,cur,e,_,hg',_⟩
    ·cases e
    ·cases e
     exact⟨_,_,rfl,C0 hg'⟩
   subst hT
   exact cK ho6 (by decide) hB g hg List.mem_cons_self
  ·simp only at hh
   rcases List.mem_or_eq_of_mem_set hh with hh|rfl
   ·exact hH h hh
   ·rw[hy]
    refine⟨yk hSb hcb,?_⟩
    simp only[List.length_cons] at hcb⊢
    omega
  ·simp only[List.length_set]
   exact hHl
end
section
def SO:En:=⟨⟨zd,0,0,0,[],[]⟩,0⟩
def qH(l:List En)(j:Nat):En:=(l[j]?).getD SO
theorem sO{l:List En}{j:Nat}(h:j<l.length):qH l j=l[j]:=by unfold qH;rw[List.getElem?_eq_getElem h];rfl
noncomputable def jZ(l:List En):List En:=zl En.key En.non En.fee l
theorem zb(l:List En):(List.range l.length).map (qH l)=l:=by
 apply List.ext_getElem?
 intro i
 rw[List.getElem?_map]
 by_cases h:i<l.length
 ·rw[List.getElem?_eq_getElem (by simpa using h),List.getElem_range,List.getElem?_eq_getElem h,Option.map_some,sO h]
 ·rw[List.getElem?_eq_none (by simpa using h),List.getElem?_eq_none (by omega)]
  rfl
theorem Gj(ms:List Em):pK ms=fun j=>En.key (qH (ms.map Em.en) j):=by
 funext j
 unfold pK qH
 rw[List.getElem?_map]
 cases ms[j]?<;>rfl
theorem Gi(ms:List Em):pN ms=fun j=>En.non (qH (ms.map Em.en) j):=by
 funext j
 unfold pN qH
 rw[List.getElem?_map]
 cases ms[j]?<;>rfl
theorem Gk(ms:List Em):pF ms=fun j=>En.fee (qH (ms.map Em.en) j):=by
 funext j
 unfold pF qH
 rw[List.getElem?_map]
 cases ms[j]?<;>rfl
theorem BG(ms:List Em):(dC ms).map (qH (ms.map Em.en))=jZ (ms.map Em.en):=by
 have h:Ord (pK ms) (pN ms) (pF ms) (List.range ms.length) (dC ms):=nH _
 rw[Gj,Gi,Gk] at h
 have h2:=Ord.map (key:=En.key) (non:=En.non) (fee:=En.fee) (qH (ms.map Em.en)) h
 have e:(List.range ms.length).map (qH (ms.map Em.en))=ms.map Em.en:=by
  have:=zb (ms.map Em.en)
  rwa [List.length_map] at this
 rw[e] at h2
 exact h2.eq.symm
theorem re(ms:List Em):(dC ms).Perm (List.range ms.length):=rf _
theorem Ek{ms:List Em}{j:Nat}(h:j∈dC ms):j<ms.length:=List.mem_range.1 ((re ms).mem_iff.1 h)
theorem ui(ms:List Em):(dC ms).length=ms.length:=by rw[(re ms).length_eq,List.length_range]
theorem oE(l:List En):(jZ l).length=l.length:=uj l
def fh(g:List Nat→Nat→Bool):List Nat→List Nat→List Nat
 |_,[]=>[]
 |pre,j::r=>if g pre j then j::fh g (pre++[j]) r else fh g (pre++[j]) r
theorem mG(g:List Nat→Nat→Bool):∀(pre a b:List Nat),fh g pre (a++b)=fh g pre a++fh g (pre++a) b
 |pre,[],b=>by simp[fh]
 |pre,j::a,b=>by
  simp only[List.cons_append,fh]
  rw[mG g (pre++[j]) a b]
  have e:pre++[j]++a=pre++j::a:=by simp
  rw[e]
  split<;>simp
theorem zg(g:List Nat→Nat→Bool)(pre:List Nat)(j:Nat):fh g pre [j]=if g pre j then[j] else[]:=by
 simp only[fh]
theorem mC(q:Nat→Bool):∀(pre l:List Nat),fh (fun _ j=>q j) pre l=l.filter q
 |pre,[]=>rfl
 |pre,j::l=>by
  simp only[fh]
  rw[mC q]
  by_cases h:q j=true
  ·rw[if_pos h,List.filter_cons_of_pos h]
  ·rw[if_neg h,List.filter_cons_of_neg h]
theorem ud(g:List Nat→Nat→Bool):∀(pre l:List Nat),(fh g pre l).length≤l.length
 |pre,[]=>Nat.le_refl _
 |pre,j::l=>by
  have:=ud g (pre++[j]) l
  simp only[fh]
  split<;>simp only[List.length_cons]<;>omega
theorem pL{ms:List Em}(q:En→Bool):((dC ms).filter (fun j=>q (qH (ms.map Em.en) j))).map (qH (ms.map Em.en))=(jZ (ms.map Em.en)).filter q:=by
 rw[←BG,List.filter_map]
 rfl
section
variable {κ:Type} [DecidableEq κ]
def nq(m:List (κ×Int))(L:List (κ×Int)):Prop:=∀k z,(∃n,aB m k=some n∧z≤n)↔∃p∈L,p.1=k∧z≤p.2
def nk(m:List (κ×Int))(L:List (κ×Int)):Prop:=∀k z,(∃n,aB m k=some n∧n≤z)↔∃p∈L,p.1=k∧p.2≤z
theorem nq.nil:nq ([]:List (κ×Int)) []:=fun k z=>by
 constructor
 ·rintro⟨n,h,_⟩;cases h
 ·rintro⟨p,h,_⟩;cases h
theorem nk.nil:nk ([]:List (κ×Int)) []:=fun k z=>by
 constructor
 ·rintro⟨n,h,_⟩;cases h
 ·rintro⟨p,h,_⟩;cases h
theorem nq.wN{m L:List (κ×Int)}{k:κ}{z n:Int}(h:nq m L)(hk:aB m k=some n)(hn:¬n<z):nq m (L++[(k,z)]):=fun k' z'=>by
 rw[h k' z']
 constructor
 ·rintro⟨p,h1,h2⟩;exact⟨p,List.mem_append_left _ h1,h2⟩
 ·rintro⟨p,h1,h2,h3⟩
  rcases List.mem_append.1 h1 with h1|h1
  ·exact⟨p,h1,h2,h3⟩
  ·rw[List.mem_singleton] at h1
   subst h1
   simp only at h2 h3
   subst h2
   exact(h k z').1 ⟨n,hk,by omega⟩
theorem nq.put{m L:List (κ×Int)}{k:κ}{z:Int}(h:nq m L)(hn:∀n,aB m k=some n→n<z):nq (cF m k z) (L++[(k,z)]):=fun k' z'=>by
 rw[bR]
 by_cases e:k=k'
 ·subst e
  rw[if_pos rfl]
  constructor
  ·rintro⟨n,h1,h2⟩
   cases h1
   exact⟨(k,z),by simp,rfl,h2⟩
  ·rintro⟨p,h1,h2,h3⟩
   rcases List.mem_append.1 h1 with h1|h1
   ·obtain⟨n,g1,g2⟩:=(h k z').2 ⟨p,h1,h2,h3⟩
    have:=hn n g1
    exact⟨z,rfl,by omega⟩
   ·rw[List.mem_singleton] at h1
    subst h1
    exact⟨z,rfl,h3⟩
 ·rw[if_neg e,h k' z']
  constructor
  ·rintro⟨p,h1,h2⟩;exact⟨p,List.mem_append_left _ h1,h2⟩
  ·rintro⟨p,h1,h2,h3⟩
   rcases List.mem_append.1 h1 with h1|h1
   ·exact⟨p,h1,h2,h3⟩
   ·rw[List.mem_singleton] at h1
    subst h1
    exact absurd h2 e
theorem nk.wN{m L:List (κ×Int)}{k:κ}{z n:Int}(h:nk m L)(hk:aB m k=some n)(hn:¬z<n):nk m (L++[(k,z)]):=fun k' z'=>by
 rw[h k' z']
 constructor
 ·rintro⟨p,h1,h2⟩;exact⟨p,List.mem_append_left _ h1,h2⟩
 ·rintro⟨p,h1,h2,h3⟩
  rcases List.mem_append.1 h1 with h1|h1
  ·exact⟨p,h1,h2,h3⟩
  ·rw[List.mem_singleton] at h1
   subst h1
   simp only at h2 h3
   subst h2
   exact(h k z').1 ⟨n,hk,by omega⟩
theorem nk.put{m L:List (κ×Int)}{k:κ}{z:Int}(h:nk m L)(hn:∀n,aB m k=some n→z<n):nk (cF m k z) (L++[(k,z)]):=fun k' z'=>by
 rw[bR]
 by_cases e:k=k'
 ·subst e
  rw[if_pos rfl]
  constructor
  ·rintro⟨n,h1,h2⟩
   cases h1
   exact⟨(k,z),by simp,rfl,h2⟩
  ·rintro⟨p,h1,h2,h3⟩
   rcases List.mem_append.1 h1 with h1|h1
   ·obtain⟨n,g1,g2⟩:=(h k z').2 ⟨p,h1,h2,h3⟩
    have:=hn n g1
    exact⟨z,rfl,by omega⟩
   ·rw[List.mem_singleton] at h1
    subst h1
    exact⟨z,rfl,h3⟩
 ·rw[if_neg e,h k' z']
  constructor
  ·rintro⟨p,h1,h2⟩;exact⟨p,List.mem_append_left _ h1,h2⟩
  ·rintro⟨p,h1,h2,h3⟩
   rcases List.mem_append.1 h1 with h1|h1
   ·exact⟨p,h1,h2,h3⟩
   ·rw[List.mem_singleton] at h1
    subst h1
    exact absurd h2 e
end
def Ir(d:Dg)(e:En):Bool:=decide (aR e.t=d)
noncomputable def Iu(l:List En)(d:Dg):Option En:=(jZ l).find? (Ir d)
def SP(ms:List Em)(d:Dg)(j:Nat):Bool:=Ir d (qH (ms.map Em.en) j)
noncomputable def On(ms:List Em)(d:Dg):Int:=((dC ms).find? (SP ms d)).elim (-1) (fun j=>(j:Int))
end
section
open Go.Proofs
def T0(d:Dg)(e:Em):Bool:=decide (aR e.x.t=d)
noncomputable def QI(l:List En)(d:Dg):List En:=match Iu l d with
 |some e=>l.eraseIdx (gL l e.key e.non)
 |none=>l
attribute [local irreducible] CG NG SG aK aI Row aF aE aM aR bg
end
section
open Go.Proofs
structure jL(w:World)(base:Nat)(v:Value)(xs:List Tm):Prop where
 own:w.ownsRow base 52 13 v xs.length (bO bV xs)
 ins:∀x∈xs,x.In 0 w
theorem jL.nil{w:World}{base:Nat}:jL w base (.slice none 0 0) []:=⟨dR,fun x h=>(by cases h)⟩
theorem jL.kp{w w':World}{base:Nat}{v:Value}{xs:List Tm}{S:List Nat}(h:jL w base v xs)(hk:Kp S w w')(hv:∀b,v.ownBlock=some b→b∉S)(hO:dh 0 w S):jL w' base v xs:=
 ⟨bW h.own hk hv,fun x hx=>(h.ins x hx).gd hk hO⟩
theorem jL.ay{w w':World}{base:Nat}{v:Value}{xs:List Tm}(h:jL w base v xs)(hk:Kp [] w w'):jL w' base v xs:=h.kp hk (fun _ _=>List.not_mem_nil) dh.nil
theorem jL.sl{w:World}{base:Nat}{v:Value}{xs:List Tm}(h:jL w base v xs):∃a c,v= .slice a xs.length c∧xs.length≤c∧Sl bV 13 w a xs:=Sl.own au h.own rfl
theorem Ej{w:World}{base base' n n' sz sz':Nat}{T T':TypeId}{v v':Value}{xs xs':List Value}(ho:w.ownsRow base T sz v n xs)(ho':w.ownsRow base' T' sz' v' n' xs')(hT:T≠T'):∀b,v.ownBlock=some b→b∉aP v':=fun b hb hm=>by
 have hm:=aH hm
 rcases ho.2 with⟨rfl,_⟩|⟨g,cap,cur,rfl,_,hg,_⟩
 ·cases hb
 ·cases hb
  rcases ho'.2 with⟨rfl,_⟩|⟨g',cap',cur',rfl,_,hg',_⟩
  ·cases hm
  ·cases hm
   rw[hg] at hg'
   cases hg'
   exact hT rfl
theorem IC(w:World)(a0 a1 a2 a3 a4 a5 a6 a7:UInt8)(n f k:Int)(x1 x2:Option Addr)(m1 m2 c1' c2':Nat):
  (Instr.buildSlice 41 1 #[(0,.agg #[bv a0,bv a1,bv a2,bv a3,bv a4,bv a5,bv a6,bv a7,.int .i64 n,.int .i64 f,.int .i64 k,.slice x1 m1 c1',.slice x2 m2 c2'])]).run Tryz.prog w= .ok (.slice (some ⟨w.heap.size,0,none⟩) 1 1) {w with heap:=w.heap.push (.cells #[bv a0,bv a1,bv a2,bv a3,bv a4,bv a5,bv a6,bv a7,.int .i64 n,.int .i64 f,.int .i64 k,.slice x1 m1 c1',.slice x2 m2 c2'] 52)}:=by kernel_rfl
theorem zU(x:Tm)(w:World):(Instr.buildSlice 41 1 #[(0,eR x)]).run Tryz.prog w= .ok (.slice (some ⟨w.heap.size,0,none⟩) 1 1) {w with heap:=w.heap.push (.cells (bV x).toArray 52)}:=by
 obtain⟨⟨⟨l,hl⟩,n,f,k,b,g⟩,a1,c1,a2,c2⟩:=x
 match l,hl with
 |[x0,x1,x2,x3,x4,x5,x6,x7],_=>exact IC w x0 x1 x2 x3 x4 x5 x6 x7 n f k a1 a2 b.length g.length c1 c2
attribute [local irreducible] CG NG SG aK aI Row aF aE aM aR bg
theorem qW{w:World}{base p:Nat}{v:Value}{room:Int}{ms:List Em}(hP:Pl w base p v room ms)(hI:dF room (ms.map Em.en))(hr:room≤1024){f:FuncId}[Fn:bQ Tryz.prog f]{caps:List Value}{g:List Nat→Nat→Bool}{S:List Nat}(J:List Nat→World→Prop)
  (hJ0:J [] w) (hJk:∀pre W W' T,(∀b∈T,w.heap.size≤b)→Kp T W W'→J pre W→J pre W') (hPS:∀W,Kp S w W→Pl W base p v room ms) (hSlt:∀b∈S,b<w.heap.size) (hSO:∀pre W,J pre W→dh 0 W S)
  (hcall:∀pre j (hj:j<ms.length) W,dC ms=pre++j::(dC ms).drop (pre.length+1)→Kp S w W→J pre W→Calls Tryz.prog f (ev ms[j]::caps).toArray W (fun e w'=>e= .returned (.bool (g pre j))∧Kp S W w'∧J (pre++[j]) w')):
  Calls Tryz.prog 124 #[.pointer (some ⟨p,0,none⟩),j8 f caps] w (fun e w'=>∃v' xs,e= .returned v'∧Kp S w w'∧jL w' w.heap.size v' xs∧xs.map (·.t)=(fh g [] (dC ms)).map (fun j=>(qH (ms.map Em.en) j).t)∧J (dC ms) w'):=by
 refine bJ Tryz.func124 rfl Tryz.ntmps124 rfl ?_
 have hll:ms.length≤1024:=by have:=hI.len;rw[List.length_map] at this;omega
 repeat (first|apply aj|(apply ar;rfl;(first|apply az|apply aD)<;>rfl))
 refine SG.call rfl rfl rfl (vs:=[.pointer (some ⟨p,0,none⟩)]) (bz.of rfl) ((wk hP hI hr).mono (fun e w1 hh=>?_))
 obtain⟨vo,he,ho1,hk1⟩:=hh
 refine⟨_,he,?_⟩
 clear he
 have hol:=ui ms
 obtain⟨ao,co,rfl,hco,-⟩:=Sl.own j4 ho1 rfl
 have hJ1:=hJk [] w w1 [] (fun b hb=>by cases hb) hk1 hJ0
 have s1:=hk1.size
 repeat (first|apply aj|(apply ar;rfl;(first|apply az|apply dy)<;>rfl))
 refine CG.loop (X:=Nat×(Value×List Tm)) (fun x=>[(0,.pointer (some ⟨p,0,none⟩)),(1,j8 f caps),(5,x.2.1),(9,.slice ao (dC ms).length co),(10,.int .i64 ((dC ms).length:Int)),(11,.int .i64 (x.1:Int))])
  (fun x w'=>x.1≤(dC ms).length∧Kp S w w'∧J ((dC ms).take x.1) w'∧jL w' w.heap.size x.2.1 x.2.2∧x.2.2.map (·.t)=(fh g [] ((dC ms).take x.1)).map (fun j=>(qH (ms.map Em.en) j).t)∧w'.ownsRow w.heap.size 3 1 (.slice ao (dC ms).length co) (dC ms).length (bO nI (dC ms)))
  (fun x=>(dC ms).length-x.1) (0,(.slice none 0 0,[])) ⟨Nat.zero_le _,hk1.any,hJ1,jL.nil,rfl,ho1⟩ (aS.of rfl) ?_
 rintro⟨k,vr,xs⟩ w2 ⟨hk,hk2,hJ2,hX,hxs,ho2⟩
 simp only at hk hJ2 hX hxs
 refine CG.to [(0,.pointer (some ⟨p,0,none⟩)),(1,j8 f caps),(5,vr),(9,.slice ao (dC ms).length co),(10,.int .i64 ((dC ms).length:Int)),(11,.int .i64 (k:Int))] (aS.of rfl) ?_
 have s2:=hk2.size
 by_cases hlt:k<(dC ms).length
 rotate_left
 ·have g2:¬(k:Int)<((dC ms).length:Int):=by omega
  rw[List.take_of_length_le (by omega)] at hJ2 hxs
  repeat (first|apply aj|(apply ar;rfl;apply cG<;>first|rfl|(apply bN;first|assumption|omega)))
  refine bG rfl ?_
  repeat (first|apply aj|(apply ar;rfl;(first|apply az|apply aD)<;>rfl))
  refine aO (Or.inl rfl) Tryz.results124 (aC.tmp rfl) ?_
  exact⟨_,xs,rfl,hk2,hX,hxs,hJ2⟩
 have g2:(k:Int)<((dC ms).length:Int):=by omega
 obtain⟨bo,cpo,eo,-⟩:=kE ho2 (by omega)
 cases eo
 have hro:=sq j4 ho2 rfl hlt
 have hjm:(dC ms)[k]<ms.length:=Ek (List.getElem_mem hlt)
 have htk:(dC ms).take (k+1)=(dC ms).take k++[(dC ms)[k]]:=List.take_succ_eq_append_getElem hlt
 have hsplit:dC ms=(dC ms).take k++(dC ms)[k]::(dC ms).drop (((dC ms).take k).length+1):=by
  rw[List.length_take,Nat.min_eq_left (by omega),←List.drop_eq_getElem_cons hlt,List.take_append_drop]
 have hpl:fh g [] ((dC ms).take (k+1))=fh g [] ((dC ms).take k)++if g ((dC ms).take k) (dC ms)[k] then[(dC ms)[k]] else[]:=by
  rw[htk,mG,zg]
  rfl
 have hple:=ud g [] ((dC ms).take k)
 rw[List.length_take,Nat.min_eq_left (by omega)] at hple
 have hxl:xs.length≤1024:=by
  have:=congrArg List.length hxs
  simp only[List.length_map] at this
  omega
 generalize hpre:(dC ms).take k=pre at hJ2 hxs hpl htk hsplit
 generalize (dC ms)[k]=jj at hro hjm hpl htk hsplit
 have g3:(jj:Int)<(ms.length:Int):=by omega
 have g4:(0:Int)≤(jj:Int):=by omega
 have hP2:=hPS w2 hk2
 obtain⟨a,c,rfl,hc,hS2⟩:=hP2.sl
 obtain⟨-,q2⟩:=hP2.rows
 obtain⟨b1,o1,rfl,hrj⟩:=hS2.at hjm
 have hen:(qH (ms.map Em.en) jj).t=ms[jj].x.t:=by rw[sO (by simpa using hjm),List.getElem_map];rfl
 repeat (first|apply aj|(apply ar;rfl;apply cG<;>first|rfl|(apply bK;first|assumption|omega)))
 refine bL rfl ?_
 repeat (first|apply aj|(apply ar;rfl;(first|apply az|apply aD|apply bf|apply bj|apply aW|apply bM|apply fv)<;>first|rfl|(apply Ar.mk;omega)|assumption|exact List.not_mem_nil|apply aL))
 refine SG.FR (Fn:=Fn) (f:=f) (vs:=[ev ms[jj]]) (caps:=caps) rfl rfl rfl (ag rfl) (bz.of rfl) ((hcall pre jj hjm w2 hsplit hk2 hJ2).mono (fun e w3 hh=>?_))
 obtain⟨he,hk3,hJ3⟩:=hh
 refine⟨_,he,?_⟩
 clear he q2 hrj hS2
 rw[←htk] at hJ3
 have k3:=hk2.trans hk3
 have hX3:=hX.kp hk3 (fun b hb hm=>by have:=cp hX.own b hb;have:=hSlt b hm;omega) (hSO _ _ hJ2)
 have ho3:=bW ho2 hk3 (fun b hb hm=>by have:=cp ho2 b hb;have:=hSlt b hm;omega)
 have s3:=hk3.size
 cases hg:g pre jj with
 |false=>
  rw[hg] at hpl
  simp only[Bool.false_eq_true,if_false,List.append_nil] at hpl
  repeat apply aj
  refine bG rfl ?_
  repeat (first|apply aj|(apply ar;rfl;(first|apply az|apply dG)<;>first|rfl|(apply Ar.mk;omega)))
  refine NG.round (k+1,(vr,xs)) (aS.of rfl) ⟨by simp only;omega,k3,hJ3,hX3,by simp only;rw[hpl];exact hxs,ho3⟩ (by simp only;omega)
 |true=>
  rw[hg] at hpl
  simp only[if_true] at hpl
  have hP3:=hPS w3 k3
  obtain⟨a3,c3,e3,-,hS3⟩:=hP3.sl
  cases e3
  obtain⟨-,q3⟩:=hP3.rows
  have hrj3:Row w3 b1 (o1+jj*22) (ec ms[jj]):=hS3.row (List.getElem?_eq_getElem hjm)
  obtain⟨rx,-⟩:=eE hrj3
  repeat apply aj
  refine bL rfl ?_
  repeat (first|apply aj|(apply ar;rfl;(first|apply az|apply bf|apply bj|apply aW|apply bM|apply fv)<;>first|rfl|(apply Ar.mk;omega)|assumption|exact List.not_mem_nil|apply au))
  refine SG.call rfl rfl rfl (vs:=[eR ms[jj].x]) (bz.of rfl) ((fO (hP3.ins _ (List.getElem_mem hjm))).mono (fun e w4 hh=>?_))
  obtain⟨y,hy,he,hin,hk4,-,-⟩:=hh
  refine⟨_,he,?_⟩
  clear he q3 hrj3 rx
  refine SG.buildSlice rfl rfl rfl rfl (zU y) (fun b6 w5 hk5 hb6 hB6=>?_)
  have hS6:Sl bV 13 w5 (some ⟨b6,0,none⟩) [y]:=iA au hB6
  have k35:Kp [] w3 w5:=hk4.trans hk5
  have hX5:=hX3.ay k35
  have ho5:=aT ho3 k35
  have hin5:=hin.ay hk5
  have s5:=k35.size
  skip
  refine SG.kr (enc:=bV) (xs:=xs) (ys:=[y]) (base:=w.heap.size) rfl rfl rfl (ag rfl) (ag rfl) rfl rfl rfl rfl au cC hX5.own hS6 (by simp only[maxLen,List.length_cons,List.length_nil];omega) (by simp only[List.length_cons,List.length_nil];show(_+_)*80≤_;omega) (by omega) (fun v' w6 hk6 ho6 hv6=>?_)
  have hO6:dh 0 w5 (aP vr):=dh.own hX5.own (Nat.zero_le _) (by decide)
  have hnew:∀b∈aP vr,w.heap.size≤b:=fun b hb=>cp hX5.own b (aH hb)
  have hJ6:=hJk _ w5 w6 _ hnew hk6 (hJk _ w3 w5 [] (fun b hb=>by cases hb) k35 hJ3)
  repeat (first|apply aj|(apply ar;rfl;(first|apply az|apply aD|apply dG)<;>first|rfl|(apply Ar.mk;omega)))
  refine NG.round (k+1,(v',xs++[y])) (aS.of rfl) ⟨by simp only;omega,(k3.trans k35.any).ai hk6 (fun b hb=>Or.inr (hnew b hb)),hJ6,⟨ho6,fun x hx=>?_⟩,?_,bW ho5 hk6 (Ej ho5 hX5.own (by decide))⟩ (by simp only;omega)
  ·rcases List.mem_append.1 hx with hx|hx
   ·exact(hX5.ins x hx).gd hk6 hO6
   ·rw[List.mem_singleton] at hx
    subst hx
    exact hin5.gd hk6 hO6
  ·simp only
   rw[hpl,List.map_append,List.map_append,hxs,List.map_cons,List.map_cons,hy,hen]
   rfl
theorem vV{w:World}{base p:Nat}{v:Value}{room:Int}{ms:List Em}(hP:Pl w base p v room ms)(hI:dF room (ms.map Em.en))(hr:room≤1024){f:FuncId}[Fn:bQ Tryz.prog f]{caps:List Value}(q:En→Bool)
  (hcall:∀(e:Em) W T,(∀b∈T,w.heap.size≤b)→Kp T w W→dz Tryz.prog f (ev e::caps).toArray W (.bool (q e.en))):
  Calls Tryz.prog 124 #[.pointer (some ⟨p,0,none⟩),j8 f caps] w (fun e w'=>∃v' xs,e= .returned v'∧Kp [] w w'∧jL w' w.heap.size v' xs∧xs.map (·.t)=((jZ (ms.map Em.en)).filter q).map (·.t)):=by
 refine(qW (g:=fun _ j=>q (qH (ms.map Em.en) j)) (S:=[]) (Fn:=Fn) hP hI hr (fun _ W=>∃T,(∀b∈T,w.heap.size≤b)∧Kp T w W) ⟨[],fun b hb=>(by cases hb),Kp.refl _ _⟩ (fun pre W W' T hT hk ⟨T2,h1,h2⟩=>⟨T2++T,fun b hb=>(by rcases List.mem_append.1 hb with h|h;exact h1 b h;exact hT b h),(h2.mono (fun b hb=>List.mem_append_left _ hb)).trans (hk.mono (fun b hb=>List.mem_append_right _ hb))⟩) (fun W hk=>hP.ay hk) (fun b hb=>by cases hb) (fun _ _ _=>dh.nil) (fun pre j hj W _ hk ⟨T,h1,h2⟩=>(hcall ms[j] W T h1 h2).mono (fun e w' ⟨he,hk'⟩=>⟨?_,hk',T,h1,h2.trans hk'.any⟩))).mono (fun e w' hh=>?_)
 ·obtain⟨v',xs,he,hk,hX,hxs,-⟩:=hh
  refine⟨v',xs,he,hk,hX,?_⟩
  rw[hxs,mC (fun j=>q (qH (ms.map Em.en) j)),←pL,List.map_map]
  rfl
 ·rw[he,sO (by simpa using hj),List.getElem_map]
theorem Ab{w:World}(e:Em):dz Tryz.prog 129 #[ev e] w (.bool true):=by
 refine fL (args:=[ev e]) Tryz.func129 rfl Tryz.ntmps129 rfl ?_
 repeat apply aj
 refine SG.box rfl rfl rfl (ag rfl) (fun b1 w1 hk1 hb1 hB1=>?_)
 repeat (first|apply aj|(apply ar;rfl;apply aD<;>rfl))
 refine aO (Or.inl rfl) Tryz.results129 (aC.tmp rfl) ?_
 exact⟨rfl,hk1⟩
theorem Da{w:World}{base p:Nat}{v:Value}{room:Int}{ms:List Em}(hP:Pl w base p v room ms)(hI:dF room (ms.map Em.en))(hr:room≤1024):
  Calls Tryz.prog 85 #[.pointer (some ⟨p,0,none⟩)] w (fun e w'=>∃v' xs,e= .returned v'∧Kp [] w w'∧jL w' w.heap.size v' xs∧xs.map (·.t)=(jZ (ms.map Em.en)).map (·.t)):=by
 refine bA Tryz.func85 rfl Tryz.ntmps85 rfl ?_
 repeat (first|apply aj|(apply ar;rfl;(first|apply iC|apply az|apply aD)<;>rfl))
 refine bG rfl ?_
 repeat (first|apply aj|(apply ar;rfl;apply az<;>rfl))
 refine SG.call rfl rfl rfl (vs:=[.pointer (some ⟨p,0,none⟩),j8 129 []]) (bz.of rfl) ((vV (Fn:=by infer_instance) hP hI hr (fun _=>true) (fun e W T _ _=>Ab e)).mono (fun e w1 hh=>?_))
 obtain⟨v',xs,he,hk,hX,hxs⟩:=hh
 refine⟨_,he,?_⟩
 repeat (first|apply aj|(apply ar;rfl;apply aD<;>rfl))
 refine aO (Or.inl rfl) Tryz.results85 (aC.tmp rfl) ?_
 refine⟨v',xs,rfl,hk,hX,?_⟩
 rw[hxs,List.filter_eq_self.2 (fun _ _=>rfl)]
end
section
instance:xw Tryz.prog 242 HH:=⟨AZ⟩
instance:xw Tryz.prog 341 ER:=⟨Cx⟩
def qw(a b:Int):Int:=IntKind.wrap .i64 ((BitVec.ofInt 64 a|||BitVec.ofInt 64 b).toNat:Int)
section
variable {P:Program} {S:List Nat} {w0:World} {F:World→Prop} {L:Env} {d:Option Nat} {ty:TypeId} {pos:String} {af:Array Edge} {g:Option (Nat×Bool)}
theorem Oa{T T':TypeId}[u:Ut P T (.int .i64)]{x y:Operand}{a b:Int}(hx:ro L x=some (.int .i64 a))(hy:ro L y=some (.int .i64 b)):aK P S w0 F L ⟨d,.binOp .or T x y T',ty,pos,af,g⟩ (.int .i64 (qw a b)):=fun w _ _=>by
 simp only[execOp,ag hx,ag hy,eqGuard,binOp,Op.intBits,Sem.run_bind,Sem.run_pure,Result.andThen,qw];rfl
theorem FY{a:Int}(h: -9223372036854775808≤a∧a≤9223372036854775807):IntKind.wrap .i64 a=a:=by
 simp only[IntKind.wrap,IntKind.signed,IntKind.bits]
 simp
 omega
theorem N7{T T':TypeId}[u:Ut P T (.int .i64)]{x:Operand}{a:Int}(hx:ro L x=some (.int .i64 a))(h:Ar (0≤a∧a≤65536)):aK P S w0 F L ⟨d,.binOp .shl T x (.const (.int .u64 8)) T',ty,pos,af,g⟩ (.int .i64 (a*256)):=fun w _ _=>by
 have hc:bB L (.const (.int .u64 8))= .int .u64 8:=rfl
 have e:=FY (a:=a*256) (by have:=h.h;omega)
 simp only[execOp,ag hx,hc,eqGuard,binOp,Op.shift,if_neg (show ¬(8:Int)<0 by decide),Sem.run_bind,Sem.run_pure,Result.andThen,IntKind.bits,show min (Int.toNat 8) 64=8 from rfl,show(2:Int)^8=256 from rfl,e];rfl
theorem N6{T T':TypeId}[u:Ut P T (.int .i64)]{x:Operand}{a:Int}(hx:ro L x=some (.int .i64 a))(h:Ar (0≤a)):aK P S w0 F L ⟨d,.binOp .shr T x (.const (.int .u64 8)) T',ty,pos,af,g⟩ (.int .i64 (a/256)):=fun w _ _=>by
 have hc:bB L (.const (.int .u64 8))= .int .u64 8:=rfl
 have e:Int.fdiv a 256=a/256:=Int.fdiv_eq_ediv_of_nonneg a (by omega)
 simp only[execOp,ag hx,hc,eqGuard,binOp,Op.shift,if_neg (show ¬(8:Int)<0 by decide),Sem.run_bind,Sem.run_pure,Result.andThen,IntKind.bits,show min (Int.toNat 8) 64=8 from rfl,show(2:Int)^8=256 from rfl,e];rfl
end
theorem El(a b:UInt8):qw (a.toNat:Int) ((b.toNat:Int)*256)=((a.toNat+256*b.toNat:Nat):Int):=by
 have ha:=a.toNat_lt
 have hb:=b.toNat_lt
 have e:(b.toNat:Int)*256=((b.toNat*256:Nat):Int):=by omega
 unfold qw
 rw[e,BitVec.ofInt_natCast,BitVec.ofInt_natCast,BitVec.toNat_or,BitVec.toNat_ofNat,BitVec.toNat_ofNat,Nat.mod_eq_of_lt (by omega),Nat.mod_eq_of_lt (by omega)]
 have h1:a.toNat|||b.toNat*256=b.toNat*256+a.toNat:=by
  have:=Nat.shiftLeft_add_eq_or_of_lt (i:=8) (b:=a.toNat) (by omega) b.toNat
  rw[Nat.shiftLeft_eq] at this
  rw[Nat.or_comm]
  exact this.symm
 rw[h1,FY (by omega)]
 omega
def ie(i:Nat):List UInt8:=[UInt8.ofNat i,UInt8.ofNat (i/256)]
theorem vF(i:Nat):F3 (i:Int)=UInt8.ofNat i:=oZ i
abbrev eA:=List ((Dg×Dg)×Nat)
def Es(i:Nat):Value:= .int .i64 (i:Int)
structure dm(w:World)(base bb pm:Nat)(v:Value)(m:eA):Prop where
 blk:aF w bb (.cells #[v,.map (some pm)] 162)
 own:w.ownsRow base 341 16 v m.length (bO vl (m.map (·.1)))
 map:aE w pm ER Es m
 bp:base≤bb
 pp:base≤pm
def eA.Ok(m:eA):Prop:=∀p∈m,p.2<65536
def fP(m:eA)(k d:Dg):eA:=match aB m (k,d) with
 |some _=>m
 |none=>if 65536≤m.length then m else m++[((k,d),m.length)]
def fQ(m:eA)(k d:Dg):Option Nat:=match aB m (k,d) with
 |some i=>some i
 |none=>if 65536≤m.length then none else some m.length
def lF(m:eA)(k d:Dg)(s:List UInt8):Bool:=match aB m (k,d),s with
 |some i,[a,b]=>decide (i=a.toNat+256*b.toNat)
 |_,_=>false
theorem dm.ay{w w':World}{base bb pm:Nat}{v:Value}{m:eA}(h:dm w base bb pm v m)(hk:Kp [] w w'):dm w' base bb pm v m:=⟨h.blk.ay hk,aT h.own hk,h.map.ay hk,h.bp,h.pp⟩
theorem dm.rows{w:World}{base bb pm:Nat}{v:Value}{m:eA}(h:dm w base bb pm v m):Row w bb 0 [v]∧Row w bb 1 [.map (some pm)]:=⟨Row.of h.blk [] [.map (some pm)] rfl rfl,Row.of h.blk [v] [] rfl rfl⟩
theorem PF(w:World)(a0 a1 a2 a3 a4 a5 a6 a7 b0 b1 b2 b3 b4 b5 b6 b7:UInt8):(Instr.build 341 #[(0,.agg #[bv a0,bv a1,bv a2,bv a3,bv a4,bv a5,bv a6,bv a7]),(1,.agg #[bv b0,bv b1,bv b2,bv b3,bv b4,bv b5,bv b6,bv b7])]).run Tryz.prog w=
  .ok (.agg #[bv a0,bv a1,bv a2,bv a3,bv a4,bv a5,bv a6,bv a7,bv b0,bv b1,bv b2,bv b3,bv b4,bv b5,bv b6,bv b7]) w:=by kernel_rfl
theorem QP(w:World)(a b:Dg):(Instr.build 341 #[(0,dv a),(1,dv b)]).run Tryz.prog w= .ok (ER (a,b)) w:=by
 obtain⟨la,ha⟩:=a
 obtain⟨lb,hb⟩:=b
 match la,ha,lb,hb with
 |[a0,a1,a2,a3,a4,a5,a6,a7],_,[b0,b1,b2,b3,b4,b5,b6,b7],_=>exact PF w a0 a1 a2 a3 a4 a5 a6 a7 b0 b1 b2 b3 b4 b5 b6 b7
theorem Pj(w:World)(bb:Nat)(b0 b1 b2 b3 b4 b5 b6 b7:UInt8):(Instr.build 197 #[(0,.pointer (some ⟨bb,0,none⟩)),(1,.agg #[bv b0,bv b1,bv b2,bv b3,bv b4,bv b5,bv b6,bv b7])]).run Tryz.prog w=
  .ok (.agg #[.pointer (some ⟨bb,0,none⟩),bv b0,bv b1,bv b2,bv b3,bv b4,bv b5,bv b6,bv b7]) w:=by kernel_rfl
def Hz(bb:Nat)(d:Dg):List Value:= .pointer (some ⟨bb,0,none⟩)::dc d
def DH(bb:Nat)(d:Dg):Value:= .agg (Hz bb d).toArray
theorem Tq(w:World)(bb:Nat)(b:Dg):(Instr.build 197 #[(0,.pointer (some ⟨bb,0,none⟩)),(1,dv b)]).run Tryz.prog w= .ok (DH bb b) w:=by
 obtain⟨lb,hb⟩:=b
 match lb,hb with
 |[b0,b1,b2,b3,b4,b5,b6,b7],_=>exact Pj w bb b0 b1 b2 b3 b4 b5 b6 b7
theorem ID(w:World)(a0 a1 a2 a3 a4 a5 a6 a7 b0 b1 b2 b3 b4 b5 b6 b7:UInt8):(Instr.buildSlice 160 1 #[(0,.agg #[bv a0,bv a1,bv a2,bv a3,bv a4,bv a5,bv a6,bv a7,bv b0,bv b1,bv b2,bv b3,bv b4,bv b5,bv b6,bv b7])]).run Tryz.prog w=
  .ok (.slice (some ⟨w.heap.size,0,none⟩) 1 1) {w with heap:=w.heap.push (.cells #[bv a0,bv a1,bv a2,bv a3,bv a4,bv a5,bv a6,bv a7,bv b0,bv b1,bv b2,bv b3,bv b4,bv b5,bv b6,bv b7] 341)}:=by kernel_rfl
theorem Pw(x:Dg×Dg)(w:World):(Instr.buildSlice 160 1 #[(0,ER x)]).run Tryz.prog w= .ok (.slice (some ⟨w.heap.size,0,none⟩) 1 1) {w with heap:=w.heap.push (.cells (vl x).toArray 341)}:=by
 obtain⟨⟨la,ha⟩,⟨lb,hb⟩⟩:=x
 match la,ha,lb,hb with
 |[a0,a1,a2,a3,a4,a5,a6,a7],_,[b0,b1,b2,b3,b4,b5,b6,b7],_=>exact ID w a0 a1 a2 a3 a4 a5 a6 a7 b0 b1 b2 b3 b4 b5 b6 b7
theorem Pz(a b:UInt8)(w:World):(Instr.buildSlice 33 2 #[(0,bv a),(1,bv b)]).run Tryz.prog w= .ok (.slice (some ⟨w.heap.size,0,none⟩) 2 2) {w with heap:=w.heap.push (.cells #[bv a,bv b] 5)}:=by kernel_rfl
theorem TC(pm:Nat)(w:World):(Instr.build 162 #[(1,.map (some pm))]).run Tryz.prog w= .ok (.agg #[.slice none 0 0,.map (some pm)]) w:=by kernel_rfl
attribute [local irreducible] CG NG SG aK aI Row aF aE aM num c9 de cQ cJ
theorem sy(w:World):Calls Tryz.prog 33 #[] w (fun e w'=>∃bb pm,e= .returned (.pointer (some ⟨bb,0,none⟩))∧dm w' w.heap.size bb pm (.slice none 0 0) []∧bb≠pm∧Kp [] w w'):=by
 refine wY Tryz.func33 rfl Tryz.ntmps33 ?_
 repeat (first|apply aj|(apply ar;rfl;apply aD<;>rfl))
 refine SG.makeMap ER Es rfl rfl (fun pm w1 hk1 hpm hm=>?_)
 refine SG.val rfl rfl rfl rfl (aG rfl (TC pm)) ?_
 refine SG.box rfl rfl rfl (ag rfl) (fun bb w2 hk2 hbb hB=>?_)
 have lm:=hm.lt
 have s1:=hk1.size
 repeat (first|apply aj|(apply ar;rfl;apply aD<;>rfl))
 refine aO (Or.inl rfl) Tryz.results33 (aC.tmp rfl) ?_
 exact⟨bb,pm,rfl,⟨hB,⟨rfl,Or.inl ⟨rfl,rfl⟩⟩,hm.ay hk2,by omega,by omega⟩,by omega,hk1.trans hk2⟩
theorem oA(bb:Nat)(d:Dg)(w:World):dz Tryz.prog 51 #[.pointer (some ⟨bb,0,none⟩),dv d] w (.iface 197 (DH bb d)):=by
 refine bJ Tryz.func51 rfl Tryz.ntmps51 rfl ?_
 repeat apply aj
 refine SG.box rfl rfl rfl (ag rfl) (fun b3 w1 hk1 hb3 hB3=>?_)
 have r3:Row w1 b3 0 (dc d):=Row.all hB3 rfl
 repeat (first|apply aj|(apply ar;rfl;(first|apply az|apply aD|apply bj)<;>first|rfl|assumption|exact List.not_mem_nil|apply ah))
 refine SG.val rfl rfl rfl rfl (aG rfl (fun w=>Tq w bb d)) ?_
 repeat (first|apply aj|(apply ar;rfl;(first|apply D9|apply aD)<;>rfl))
 refine aO (Or.inl rfl) Tryz.results51 (aC.tmp rfl) ?_
 exact⟨rfl,hk1⟩
end
section
theorem sD{κ ν:Type}{enc:κ→Value}{V:ν→Value}{m:List (κ×ν)}{w:World}{base n sz pm:Nat}{T:TypeId}{v:Value}{xs:List Value}(ho:w.ownsRow base T sz v n xs)(hm:aE w pm enc V m):pm∉aP v:=fun h=>by
 have hb:=aH h
 obtain⟨es,c,h1,-⟩:=hm
 rcases ho.2 with⟨rfl,_⟩|⟨g,cap,cur,rfl,_,hg,_⟩
 ·cases hb
 ·cases hb
  have:=aF.uniq h1 hg
  cases this
theorem eB{κ ν:Type}{enc:κ→Value}{V:ν→Value}{m:List (κ×ν)}{w:World}{pm b:Nat}{T:TypeId}{cs:Array Value}(hb:aF w b (.cells cs T))(hm:aE w pm enc V m):pm≠b:=fun h=>by
 subst h
 obtain⟨es,c,h1,-⟩:=hm
 have:=aF.uniq h1 hb
 cases this
theorem dm.nn{w:World}{base bb pm:Nat}{v:Value}{m:eA}(h:dm w base bb pm v m):pm≠bb∧pm∉aP v∧bb∉aP v:=⟨eB h.blk h.map,sD h.own h.map,fun hm=>cK h.own (by decide) h.blk bb (aH hm) List.mem_cons_self⟩
def I3(w0 w:World)(e:Ending):Option Nat→Prop
 |some i=>∃b,e= .returned (.tuple #[.slice (some ⟨b,0,none⟩) 2 2,.int .i64 0])∧w0.heap.size≤b∧aF w b (.cells #[bv (UInt8.ofNat i),bv (UInt8.ofNat (i/256))] 5)
 |none=>e= .returned (.tuple #[.slice none 0 0,.int .i64 17])
def FV(w:World)(base bb pm:Nat)(v:Value)(m:eA)(k d:Dg)(e:Ending)(w':World):Prop:=
 ∃v',dm w' base bb pm v' (fP m k d)∧Kp (bb::pm::aP v) w w'∧(∀g,v'.ownBlock=some g→v.ownBlock=some g∨w.heap.size≤g)∧I3 w w' e (fQ m k d)
attribute [local irreducible] CG NG SG aK aI Row aF aE aM num c9 de cQ cJ
theorem yQ{w:World}{base bb pm:Nat}{v:Value}{m:eA}(h:dm w base bb pm v m)(hb0:base≤w.heap.size)(hl:m.length≤100000)(k d:Dg):
  Calls Tryz.prog 255 #[.pointer (some ⟨bb,0,none⟩),ER (k,d)] w (FV w base bb pm v m k d):=by
 refine bJ Tryz.func255 rfl Tryz.ntmps255 rfl ?_
 obtain⟨n1,n2,n3⟩:=h.nn
 have lb:=h.blk.lt
 have lm:=h.map.lt
 have lo:=cD h.own
 repeat apply aj
 refine SG.box rfl rfl rfl (ag rfl) (fun b3 w1 hk1 hb3 hB3=>?_)
 have h1:=h.ay hk1
 obtain⟨-,r1⟩:=h1.rows
 have hm:=h1.map
 have q3:Row w1 b3 0 (vl (k,d)):=Row.all hB3 rfl
 repeat (first|apply aj|(apply ar;rfl;apply aD<;>rfl))
 refine CG.eQ mixed [0,1,2,3,4,5,6,7,8,9,10] [] (by kernel_rfl) ?_
 obtain⟨z,c,hlk,hzc⟩:∃(z:Int) (c:Bool),Lk Es (.int .i64 0) m (k,d) (.int .i64 z) c∧((∃i:Nat,aB m (k,d)=some i∧z=(i:Int)∧c=true)∨(aB m (k,d)=none∧c=false)):=by
  cases hr:aB m (k,d) with
  |some i=>exact⟨_,_,kX (V:=Es) hr,Or.inl ⟨i,rfl,rfl,rfl⟩⟩
  |none=>exact⟨_,_,tv (V:=Es) hr,Or.inr ⟨rfl,rfl⟩⟩
 repeat (apply bZ;rfl;rfl;(first|apply az|apply aD|apply bf|apply bj|apply aW|apply bM|apply lL|apply dA)<;>first|rfl|assumption|exact List.not_mem_nil|apply fe)
 refine aI.fin (fun w2 hk2 _ _=>?_)
 have k2:=hk1.trans hk2
 have h2:=h1.ay hk2
 have q3:=q3.ay hk2
 have l3:=q3.lt
 clear hm r1 hB3
 refine NG.next ?_
 refine CG.seq ?_
 refine CG.iR (fun L w'=>∃(i:Nat) (v':Value),aS [(6,.int .i64 (i:Int))] L∧fQ m k d=some i∧dm w' base bb pm v' (fP m k d)∧Kp (bb::pm::aP v) w w'∧(∀g,v'.ownBlock=some g→v.ownBlock=some g∨w.heap.size≤g)) ?_ ?_
 ·rcases hzc with⟨i,hr,rfl,rfl⟩|⟨hr,rfl⟩
  ·repeat (first|apply aj|(apply ar;rfl;(first|apply az|apply fZ)<;>rfl))
   refine bG rfl ?_
   repeat apply aj
   refine NG.cut ⟨i,v,by(repeat' (first|exact True.intro|exact rfl|refine And.intro ?_ ?_)),by simp[fQ,hr],by simp only[fP,hr];exact h2,k2.any,fun _ h=>Or.inl h⟩
  ·obtain⟨r0,-⟩:=h2.rows
   obtain⟨a,cc,rfl,hc,hS⟩:=Sl.own fe h2.own (List.length_map _)
   by_cases hfull:65536≤m.length
   ·have g1:(65536:Int)≤(m.length:Int):=by omega
    repeat (first|apply aj|(apply ar;rfl;(first|apply az|apply fZ)<;>rfl))
    refine bL rfl ?_
    repeat (first|apply aj|(apply ar;rfl;(first|apply az|apply aD|apply bf|apply aW|apply bM|apply dy|apply jN)<;>first|rfl|assumption|(apply bK;first|assumption|omega)|exact List.not_mem_nil))
    refine bL rfl ?_
    repeat (first|apply aj|(apply ar;rfl;apply aD<;>rfl))
    refine dJ (Or.inl rfl) Tryz.results255 (aC.tmp rfl) (aC.tmp rfl) ?_
    exact⟨_,by simp only[fP,hr,if_pos hfull];exact h2,k2.any,fun _ h=>Or.inl h,by simp only[fQ,hr,if_pos hfull];rfl⟩
   have g1:¬(65536:Int)≤(m.length:Int):=by omega
   repeat (first|apply aj|(apply ar;rfl;(first|apply az|apply fZ)<;>rfl))
   refine bL rfl ?_
   repeat (first|apply aj|(apply ar;rfl;(first|apply az|apply aD|apply bf|apply aW|apply bM|apply dy|apply jN)<;>first|rfl|assumption|(apply bN;first|assumption|omega)|exact List.not_mem_nil))
   refine bG rfl ?_
   repeat apply aj
   have hSl:∀z∈aP (.slice a m.length cc),z<w2.heap.size:=fun z hz=>by have:=lo z (aH hz);have:=k2.size;omega
   have nb3:b3∉aP (.slice a m.length cc):=fun hm=>by have:=lo _ (aH hm);omega
   refine CG.dM mixed 8 [0,1,2,3,4,5,6,7] [6,7] (aP (.slice a m.length cc)) (fun w=>w.ownsRow base 341 16 (.slice a m.length cc) m.length (bO vl (m.map (·.1)))) (by kernel_rfl) h2.own (fun _ _ hk h=>aT h hk) ?_
   repeat (apply bZ;rfl;rfl;(first|apply az|apply bf|apply bj|apply aW|apply bM)<;>first|rfl|assumption|apply fe)
   refine aI.jt (cs:=(vl (k,d)).toArray) (E:=341) rfl rfl rfl rfl rfl (fun W=>Pw (k,d) W) hSl (fun W W' hk h=>trivial) (fun _ _ hk h=>aT h hk) (fun bn=>?_)
   apply aI.jy (P:=Tryz.prog) (t:=160) (base:=base) (e:=341) (i:=Tryz.t341) (f:=ty.i341) (v:= .slice a m.length cc) (nn:=m.length) (xs:=bO vl (m.map (·.1))) (b:=bn) (off:=0) (m:=1) (c:=1) (news:=vl (k,d))
   iterate 4 exact rfl
   iterate 2 exact ag rfl
   iterate 3 exact rfl
   ·exact fun W hk hF=>Row.all hF.2.2 rfl
   ·rw[fe];rfl
   ·exact ES _
   ·simp only[maxLen];omega
   ·show(m.length+1)*16≤_;omega
   ·exact Nat.le_trans hb0 k2.size
   ·exact fun _ h=>h
   ·exact fun W W' hk hF=>⟨trivial,hF.2.1,hF.2.2.kp hk (fun hm=>by have:=hSl _ hm;have:=hF.2.1;omega)⟩
   intro v5
   refine aI.tl (fun w5 hk5 hF ho5=>?_)
   obtain⟨-,hv5⟩:=hF
   have elen:(m++[((k,d),m.length)]).length=m.length+1:=by rw[List.length_append];rfl
   have ho5:w5.ownsRow base 341 16 v5 (m++[((k,d),m.length)]).length (bO vl ((m++[((k,d),m.length)]).map (·.1))):=by
    rw[elen,List.map_append,dx,List.map_cons,List.map_nil,gp]
    exact ho5
   have hB5:=h2.blk.kp hk5 n3
   have hm5:=h2.map.kp hk5 n2
   have n5:∀b,v5.ownBlock=some b→b∉[bb]:=cK ho5 (by decide) hB5
   have np5:=sD ho5 hm5
   obtain⟨a5,c5,rfl,-,-⟩:=Sl.own fe ho5 (List.length_map _)
   have q3:=q3.kp hk5 nb3
   clear r0
   refine SG.val rfl rfl rfl rfl (by first|(apply bM<;>(exact rfl))|fail) ?_
   refine SG.val rfl rfl rfl rfl (by first|(apply aW<;>(exact rfl))|fail) ?_
   refine SG.cr [] [.slice a m.length cc] [.map (some pm)] rfl rfl (ag rfl) (ag rfl) hB5 rfl rfl rfl rfl rfl (fun w6 hk6 hB6=>?_)
   have hB6:aF w6 bb (.cells #[.slice a5 (m++[((k,d),m.length)]).length c5,.map (some pm)] 162):=hB6
   have hm6:=hm5.kp hk6 (bP n1)
   have ho6:=bW ho5 hk6 n5
   have r1:Row w6 bb 1 [.map (some pm)]:=Row.of hB6 [.slice a5 (m++[((k,d),m.length)]).length c5] [] rfl rfl
   have s2:=k2.size
   have s5:=hk5.size
   have q3:=q3.kp hk6 (bP (by omega))
   repeat apply aj
   refine CG.tail mixed 6 [0,1,2,3,4,5] (by kernel_rfl) ?_
   repeat (apply bZ;rfl;rfl;(first|apply az|apply bf|apply bj|apply aW|apply bM)<;>first|rfl|assumption|exact List.not_mem_nil|apply fe)
   refine aI.tl (fun w7 hk7 _ _=>?_)
   refine SG.mapUpdate (enc:=ER) (V:=Es) (kx:=(k,d)) (vy:=m.length) rfl rfl (ag rfl) (ag rfl) (ag rfl) (hm6.ay hk7) Cx (fun w8 hk8 hm8=>?_)
   rw[hZ _ hr] at hm8
   repeat apply aj
   have hB8:=(hB6.ay hk7).kp hk8 (bP (fun e=>n1 e.symm))
   have ho8:=bW (aT ho6 hk7) hk8 (fun b hb=>bP (fun e=>np5 (e▸gg hb)))
   refine NG.cut ⟨m.length,_,by(repeat' (first|exact True.intro|exact rfl|refine And.intro ?_ ?_)),by simp only[fQ,hr,if_neg hfull],by simp only[fP,hr,if_neg hfull];exact⟨hB8,ho8,hm8,h.bp,h.pp⟩,?_,fun g hg=>?_⟩
   ·refine((k2.any.trans (hk5.mono (fun z hz=>List.mem_cons_of_mem _ (List.mem_cons_of_mem _ hz)))).trans (hk6.mono (fun z hz=>?_))).trans ((hk7.any).trans (hk8.mono (fun z hz=>?_)))
    ·rw[List.mem_singleton] at hz;rw[hz];exact List.mem_cons_self
    ·rw[List.mem_singleton] at hz;rw[hz];exact List.mem_cons_of_mem _ List.mem_cons_self
   ·rcases hv5 g hg with h|h
    ·exact Or.inl h
    ·exact Or.inr (by omega)
 ·rintro L w' ⟨i,v',hLL,hsi,hN,hk,hv'⟩
  refine CG.to _ hLL ?_
  clear hLL L
  repeat (first|apply aj|(apply ar;rfl;first|(apply Bo<;>(first|rfl|(apply Ar.mk;omega)))|((first|apply N6|apply az)<;>(first|rfl|(apply Ar.mk;omega)))))
  rw[vF,show(i:Int)/256=((i/256:Nat):Int) by omega,vF]
  refine SG.buildSlice rfl rfl rfl rfl (Pz _ _) (fun b w3 hk3 hb hB=>?_)
  repeat (first|apply aj|(apply ar;rfl;apply aD<;>rfl))
  refine dJ (Or.inl rfl) Tryz.results255 (aC.tmp rfl) (aC.tmp rfl) ?_
  refine⟨v',hN.ay hk3,hk.trans hk3.any,hv',?_⟩
  rw[hsi]
  exact⟨b,rfl,Nat.le_trans hk.size hb,hB⟩
end
section
theorem Aq{m:eA}{k d:Dg}{s:List UInt8}(h:s.length≠2):lF m k d s=false:=by
 unfold lF
 split
 ·exact absurd rfl h
 ·rfl
theorem tD{w:World}{b bb:Nat}{d:Dg}{T:TypeId}(h:aF w b (.cells (Hz bb d).toArray T)):Row w b 0 [.pointer (some ⟨bb,0,none⟩)]∧Row w b 1 (dc d):=⟨Row.of h [] (dc d) rfl rfl,Row.of h [.pointer (some ⟨bb,0,none⟩)] [] (by simp[Hz]) rfl⟩
attribute [local irreducible] CG NG SG aK aI Row aF aE aM num c9 de cQ cJ qw
theorem tG{w:World}{base bb pm:Nat}{v:Value}{m:eA}(h:dm w base bb pm v m)(k d:Dg){a:Option Addr}{c:Nat}{s:List UInt8}(hS:Sl gw 1 w a s):
  dz Tryz.prog 245 #[.pointer (some ⟨bb,0,none⟩),dv k,dv d,.slice a s.length c] w (.bool (lF m k d s)):=by
 refine fL (args:=[.pointer (some ⟨bb,0,none⟩),dv k,dv d,.slice a s.length c]) Tryz.func245 rfl Tryz.ntmps245 rfl ?_
 repeat apply aj
 refine SG.box rfl rfl rfl (ag rfl) (fun b5 w1 hk1 hb5 hB5=>?_)
 refine SG.box rfl rfl rfl (ag rfl) (fun b6 w2 hk2 hb6 hB6=>?_)
 have q5:Row w2 b5 0 (dc k):=(Row.all hB5 rfl).ay hk2
 have q6:Row w2 b6 0 (dc d):=Row.all hB6 rfl
 have k2:=hk1.trans hk2
 clear hB5 hB6
 by_cases h2:(s.length:Int)=2
 rotate_left
 ·rw[Aq (by omega)]
  repeat (first|apply aj|(apply ar;rfl;(first|apply iC|apply az|apply aD|apply cu|apply dK|apply dy)<;>first|rfl|(apply bN;first|assumption|omega)))
  refine bL rfl ?_
  repeat (first|apply aj|(apply ar;rfl;apply aD<;>rfl))
  refine aO (Or.inl rfl) Tryz.results245 (aC.tmp rfl) ?_
  exact⟨rfl,k2⟩
 have hn:=h.ay k2
 obtain⟨-,r1⟩:=hn.rows
 have hm:=hn.map
 have hlen:s.length=2:=by omega
 obtain⟨x,y,rfl⟩:∃x y,s=[x,y]:=by
  match s,hlen with
  |[x,y],_=>exact⟨x,y,rfl⟩
 have e2:([x,y]:List UInt8).length=2:=rfl
 obtain⟨ba,off,rfl,s0⟩:=(hS.ay k2).at (i:=0) (by simp)
 obtain⟨ba',off',he,s1⟩:=(hS.ay k2).at (i:=1) (by simp)
 cases he
 have s0:Row w2 ba off [bv x]:=by simpa using s0
 have s1:Row w2 ba (off+1) [bv y]:=by simpa using s1
 clear hlen h2
 repeat (first|apply aj|(apply ar;rfl;(first|apply iC|apply az|apply aD|apply cu|apply dK|apply dy)<;>first|rfl|(apply bK;first|assumption|omega)))
 refine bG rfl ?_
 repeat apply aj
 obtain⟨z,c',hlk,hzc⟩:∃(z:Int) (c':Bool),Lk Es (.int .i64 0) m (k,d) (.int .i64 z) c'∧((∃i:Nat,aB m (k,d)=some i∧z=(i:Int)∧c'=true)∨(aB m (k,d)=none∧c'=false)):=by
  cases hr:aB m (k,d) with
  |some i=>exact⟨_,_,kX (V:=Es) hr,Or.inl ⟨i,rfl,rfl,rfl⟩⟩
  |none=>exact⟨_,_,tv (V:=Es) hr,Or.inr ⟨rfl,rfl⟩⟩
 refine CG.eQ mixed [0,1,2,3,4,5,6,7,8,9,10,11,12] [] (by kernel_rfl) ?_
 repeat (apply bZ;rfl;rfl;(first|apply az|apply bf|apply bj|apply aW|apply bM)<;>first|rfl|assumption|exact List.not_mem_nil|apply ah)
 refine aI.val rfl rfl rfl (aG rfl (fun w=>QP w k d)) ?_
 repeat (apply bZ;rfl;rfl;(first|apply az|apply aD|apply lL|apply dA)<;>first|rfl|assumption|exact List.not_mem_nil)
 refine aI.fin (fun w3 hk3 _ _=>?_)
 have k3:=k2.trans hk3
 have s0:=s0.ay hk3
 have s1:=s1.ay hk3
 clear hm r1 q5 q6
 rcases hzc with⟨i,hr,rfl,rfl⟩|⟨hr,rfl⟩
 rotate_left
 ·have e0:lF m k d [x,y]=false:=by simp[lF,hr]
  rw[e0]
  repeat apply aj
  refine CG.eQ mixed [0,1,2,3,4,5,6,7,8,9,10,11,12,13,14,15] [] (by kernel_rfl) ?_
  repeat (first|(apply bZ;rfl;rfl;(first|apply az|apply aD|apply cu)<;>rfl)|refine aI.skip rfl rfl ?_)
  refine aI.fin (fun w4 hk4 _ _=>?_)
  repeat apply aj
  refine aO (Or.inl rfl) Tryz.results245 (aC.tmp rfl) ?_
  exact⟨rfl,k3.trans hk4⟩
 have hx:=x.toNat_lt
 have hy:=y.toNat_lt
 have e0:lF m k d [x,y]=decide ((i:Int)=((x.toNat+256*y.toNat:Nat):Int)):=by
  simp only[lF,hr]
  congr 1
  exact propext ⟨fun h=>by omega,fun h=>by omega⟩
 rw[e0,←El]
 repeat apply aj
 refine CG.eQ mixed [0,1,2,3,4,5,6,7,8,9,10,11,12,13,14,15] [] (by kernel_rfl) ?_
 repeat (apply bZ;rfl;rfl;(first|apply Fz|apply N7|apply Oa|apply az|apply aD|apply bf|apply Bn|apply cu|apply fF)<;>first|rfl|(apply Ar.mk;omega)|assumption|exact List.not_mem_nil|exact CA)
 refine aI.fin (fun w4 hk4 _ _=>?_)
 repeat apply aj
 refine aO (Or.inl rfl) Tryz.results245 (aC.tmp rfl) ?_
 exact⟨rfl,k3.trans hk4⟩
theorem yE(bb:Nat)(d:Dg)(w:World):dz Tryz.prog 253 #[DH bb d] w (dv d):=by
 refine bA Tryz.func253 rfl Tryz.ntmps253 rfl ?_
 repeat apply aj
 refine SG.box rfl rfl rfl (ag rfl) (fun b1 w1 hk1 hb1 hB1=>?_)
 have hB1:aF w1 b1 (.cells (Hz bb d).toArray 197):=hB1
 refine SG.alloc rfl rfl rfl (fun b2 w2 hk2 hb2 hB2=>?_)
 obtain⟨-,r1⟩:=tD (hB1.ay hk2)
 have s1:=hk1.size
 repeat (first|apply aj|(apply ar;rfl;(first|apply bj|apply aW)<;>first|rfl|assumption|exact List.not_mem_nil|apply ah))
 refine SG.aN (old:=dc zd) (l:=dc d) rfl rfl (ag rfl) (ag rfl) hB2 (ah _) (ah _) (bu _) (fun w3 hk3 hB3=>?_)
 have r3:Row w3 b2 0 (dc d):=Row.all hB3 rfl
 clear r1
 repeat apply aj
 refine aO (Or.inl rfl) Tryz.results253 (aC.agg rfl rfl r3 (ah _)) ?_
 exact⟨rfl,(hk1.trans hk2).ai hk3 (aV (by omega))⟩
theorem pj{w:World}{base bb pm:Nat}{v:Value}{m:eA}(h:dm w base bb pm v m)(hb0:base≤w.heap.size)(hl:m.length≤100000)(k d:Dg):
  Calls Tryz.prog 254 #[DH bb k,dv d] w (FV w base bb pm v m k d):=by
 refine bJ Tryz.func254 rfl Tryz.ntmps254 rfl ?_
 repeat apply aj
 refine SG.box rfl rfl rfl (ag rfl) (fun b1 w1 hk1 hb1 hB1=>?_)
 have hB1:aF w1 b1 (.cells (Hz bb k).toArray 197):=hB1
 refine SG.box rfl rfl rfl (ag rfl) (fun b2 w2 hk2 hb2 hB2=>?_)
 obtain⟨r0,r1⟩:=tD (hB1.ay hk2)
 have q2:Row w2 b2 0 (dc d):=Row.all hB2 rfl
 have k2:=hk1.trans hk2
 repeat (first|apply aj|(apply ar;rfl;(first|apply iC|apply aD|apply bf|apply aW)<;>first|rfl|assumption|exact List.not_mem_nil))
 refine bG rfl ?_
 repeat (first|apply aj|(apply ar;rfl;(first|apply bf|apply bj|apply aW)<;>first|rfl|assumption|exact List.not_mem_nil|apply ah))
 refine SG.val rfl rfl rfl rfl (aG rfl (fun w=>QP w k d)) ?_
 refine SG.call rfl rfl rfl (vs:=[.pointer (some ⟨bb,0,none⟩),ER (k,d)]) (bz.of rfl) ((yQ (h.ay k2) (Nat.le_trans hb0 k2.size) hl k d).mono (fun e w3 hh=>?_))
 obtain⟨v',hN,hk3,hv',hsg⟩:=hh
 have fin:∀(x y:Value),e= .returned (.tuple #[x,y])→∃u,e= .returned u∧∀(L:Env),True:=fun x y he=>⟨_,he,fun _=>trivial⟩
 cases hsi:fQ m k d with
 |some i=>
  rw[hsi] at hsg
  obtain⟨b,rfl,hb,hB⟩:=hsg
  refine⟨_,rfl,?_⟩
  repeat (first|apply aj|(apply ar;rfl;(first|apply aD|apply dA)<;>rfl))
  refine dJ (Or.inl rfl) Tryz.results254 (aC.tmp rfl) (aC.tmp rfl) ?_
  exact⟨v',hN,k2.any.trans hk3,fun g hg=>(hv' g hg).imp id (fun h=>Nat.le_trans k2.size h),by rw[hsi];exact⟨b,rfl,Nat.le_trans k2.size hb,hB⟩⟩
 |none=>
  rw[hsi] at hsg
  refine⟨_,hsg,?_⟩
  repeat (first|apply aj|(apply ar;rfl;(first|apply aD|apply dA)<;>rfl))
  refine dJ (Or.inl rfl) Tryz.results254 (aC.tmp rfl) (aC.tmp rfl) ?_
  exact⟨v',hN,k2.any.trans hk3,fun g hg=>(hv' g hg).imp id (fun h=>Nat.le_trans k2.size h),by rw[hsi];rfl⟩
end
section
def cV(t:Tx):Dg:=dB (kV (dP t)) [116,120]
def iE(d:Dg)(n:Int):List UInt8:=cP (num d)++cP (db n)
noncomputable def fl(m:eA)(t:Tx):Int:=if bg t≠0 then bg t else if lF m t.frm (cV t) t.sig then 0 else 16
attribute [local irreducible] CG NG SG aK aI Row aF aE aM num c9 de cQ cJ qw cP bg dB kV dP bE
theorem lZ{w:World}{n0:Nat}{x:Tm}(hx:x.In n0 w):dz Tryz.prog 105 #[eR x] w (dv (cV x.t)):=by
 refine bA Tryz.func105 rfl Tryz.ntmps105 rfl ?_
 have hl1:=hx.l1
 have hh1:=nN x.t
 repeat apply aj
 refine SG.box rfl rfl rfl (ag rfl) (fun b1 w1 hk1 hb1 hB1=>?_)
 have hB1:aF w1 b1 (.cells (bV x).toArray 52):=hB1
 refine SG.alloc rfl rfl rfl (fun b2 w2 hk2 hb2 hB2=>?_)
 have hB2:aF w2 b2 (.cells (dc zd).toArray 47):=hB2
 have k2:=hk1.trans hk2
 obtain⟨r,-,-,-,-,-,-⟩:=aZ (hB1.ay hk2)
 repeat (first|apply aj|(apply ar;rfl;apply bj<;>first|rfl|assumption|exact List.not_mem_nil|apply au))
 refine SG.call rfl rfl rfl (vs:=[eR x]) (bz.of rfl) ((lj (hx.b.ay k2) hl1).mono (fun e w3 hh=>?_))
 obtain⟨v3,he,ho3,hk3⟩:=hh
 refine⟨_,he,?_⟩
 clear r he
 obtain⟨a3,c3,rfl,hS3⟩:=Bs.own ho3
 refine SG.ret rfl rfl rfl (vs:=[.slice a3 (dP x.t).length c3]) (bz.of rfl) (mJ hS3.sl (pI ho3) (fun b off e=>cD ho3 b (by subst e;rfl)) (by omega) hS3.len) (fun w4 hk4=>?_)
 refine SG.ret rfl rfl rfl (vs:=[dv (kV (dP x.t)),sv [116,120]]) (bz.of rfl) (gu _ [116,120] (by decide) w4) (fun w5 hk5=>?_)
 refine SG.aN (l:=dc (cV x.t)) rfl rfl (ag rfl) (ag rfl) (((hB2.ay hk3).ay hk4).ay hk5) (ah _) rfl (bu _) (fun w6 hk6 hB6=>?_)
 have hr:Row w6 b2 0 (dc (cV x.t)):=Row.all hB6 rfl
 repeat apply aj
 refine aO (Or.inl rfl) Tryz.results105 (by exact aC.agg rfl rfl (by assumption) (by first|exact ah _|exact nc_length _|exact rc_length _ _ _|exact aL _|exact dl_length _ _ _ _|exact aX _|exact aU _|exact bC _|exact au _|rfl)) ?_
 exact⟨rfl,(((k2.trans hk3).trans hk4).trans hk5).ai hk6 (aV (by have:=hk1.size;omega))⟩
theorem pG(d:Dg)(n:Int)(w:World):kt Tryz.prog 5 gw 1 49 #[dv d,.int .i64 n] w (iE d n):=by
 refine bJ Tryz.func49 rfl Tryz.ntmps49 rfl ?_
 have p1:=bU (num d)
 have z1:=mh n
 repeat apply aj
 refine SG.box rfl rfl rfl (ag rfl) (fun b1 w1 hk1 hb1 hB1=>?_)
 have r1:Row w1 b1 0 (dc d):=Row.all hB1 rfl
 repeat (first|apply aj|(apply ar;rfl;(first|apply aD|apply bj)<;>first|rfl|assumption|exact List.not_mem_nil|apply ah))
 refine SG.ret rfl rfl rfl (vs:=[dv d]) (bz.of rfl) (eG d w1) (fun w2 hk2=>?_)
 refine SG.call rfl rfl rfl (vs:=[.slice none 0 0,.int .u64 (num d:Int)]) (bz.of rfl) ((cW (l:=[]) Bs.nil (num d) (pJ _) (by simp)).mono (fun e w3 hh=>?_))
 obtain⟨v3,he,ho3,hk3⟩:=hh
 refine⟨_,he,?_⟩
 rw[List.nil_append] at ho3
 obtain⟨a3,c3,rfl,hS3⟩:=Bs.own ho3
 have k3:=(hk1.trans hk2).trans hk3
 repeat (apply ar;rfl;(first|apply az|apply vj)<;>rfl)
 rw[iX]
 refine SG.call rfl rfl rfl (vs:=[.slice a3 (cP (num d)).length c3,.int .u64 (db n:Int)]) (bz.of rfl) ((cW hS3 (db n) z1 (by omega)).mono (fun e w4 hh=>?_))
 obtain⟨v4,he,ho4,hk4⟩:=hh
 refine⟨_,he,?_⟩
 repeat (first|apply aj|(apply ar;rfl;apply aD<;>rfl))
 refine aO (Or.inl rfl) Tryz.results49 (aC.tmp rfl) ?_
 exact⟨_,rfl,cX ho4 k3.size,k3.trans hk4⟩
theorem mj{w:World}{n0 base bb pm:Nat}{v:Value}{m:eA}(hN:dm w base bb pm v m){x:Tm}(hx:x.In n0 w):dz Tryz.prog 72 #[eR x,.iface 40 (.pointer (some ⟨bb,0,none⟩))] w (.int .i64 (fl m x.t)):=by
 refine bJ Tryz.func72 rfl Tryz.ntmps72 rfl ?_
 repeat apply aj
 refine SG.box rfl rfl rfl (ag rfl) (fun b1 w1 hk1 hb1 hB1=>?_)
 have hB1:aF w1 b1 (.cells (bV x).toArray 52):=hB1
 obtain⟨r,-,-,-,-,-,r5⟩:=aZ hB1
 have hl2:=hx.l2
 repeat (first|apply aj|(apply ar;rfl;(first|apply Gd|apply az|apply aD)<;>rfl))
 refine bG rfl ?_
 repeat (first|apply aj|(apply ar;rfl;apply bj<;>first|rfl|assumption|exact List.not_mem_nil|apply au))
 refine SG.ret rfl rfl rfl (vs:=[eR x]) (bz.of rfl) (js (hx.ay hk1)) (fun w2 hk2=>?_)
 have k2:=hk1.trans hk2
 by_cases h0:bg x.t=0
 rotate_left
 ·have e0:fl m x.t=bg x.t:=by unfold fl;rw[if_pos h0]
  rw[e0]
  repeat (first|apply aj|(apply ar;rfl;(first|apply az|apply aD|apply dK)<;>first|rfl|(apply bN;first|assumption|omega)))
  refine bL rfl ?_
  repeat (first|apply aj|(apply ar;rfl;(first|apply az|apply aD)<;>rfl))
  refine aO (Or.inl rfl) Tryz.results72 (aC.tmp rfl) ?_
  exact⟨rfl,k2⟩
 have e0:fl m x.t=if lF m x.t.frm (cV x.t) x.t.sig then 0 else 16:=by unfold fl;rw[if_neg (fun h=>h h0)]
 rw[e0,h0]
 have r5:=r5.ay hk2
 have r6:=r.ay hk2
 clear r
 repeat (first|apply aj|(apply ar;rfl;(first|apply az|apply aD|apply dK)<;>first|rfl|(apply bK;first|assumption|omega)))
 refine bG rfl ?_
 repeat apply aj
 obtain⟨-,r0,-⟩:=aZ (hB1.ay hk2)
 refine CG.dM mixed 11 [0,1,2,5,6,8,9,10,3,4,7] [7] [] (fun _=>True) (by kernel_rfl) trivial (fun _ _ _ _=>trivial) ?_
 iterate 8 (refine aI.val rfl rfl rfl (by first|((first|apply Jd|apply D8|apply az|apply bf|apply bj|apply aW)<;>(first|exact rfl|assumption|exact List.not_mem_nil|apply ah|infer_instance))|fail) ?_)
 clear r0
 have r6':=r6
 repeat (apply bZ;rfl;rfl;apply bj<;>first|rfl|assumption|exact List.not_mem_nil|apply au)
 clear r6 r6'
 refine aI.call rfl rfl rfl (vs:=[eR x]) (bz.of rfl) (fun W hk _=>lZ ((hx.ay k2).ay hk)) ?_
 skip
 refine aI.kl (X:=Option Addr×Nat) (vs:=[x.s]) (fun q=> .slice q.1 x.t.sig.length q.2) (fun q W=>Sl gw 1 W q.1 x.t.sig) rfl rfl rfl rfl (bz.of rfl) (fun q W W' hk h=>h.ay hk) (fun _ _ _ h=>h) (fun W hk _=>(fV x.c2 ((hx.ay k2).ay hk).s.sl (by omega)).mono (fun e W' hh=>?_)) (fun q=>?_)
 ·obtain⟨v',he,ho,hk'⟩:=hh
  obtain⟨a',c',rfl,hS⟩:=Bs.own ho
  exact⟨(a',c'),he,hS.sl,hk'⟩
 skip
 refine aI.tl (fun w3 hk3 hF _=>?_)
 refine SG.HV rfl rfl rfl (vs:=[dv x.t.frm,dv (cV x.t),.slice q.1 x.t.sig.length q.2]) (ag rfl) (bz.of rfl) (tG (hN.ay (k2.trans hk3)) _ _ hF.2) (fun w4 hk4=>?_)
 have k4:=(k2.trans hk3).trans hk4
 cases lF m x.t.frm (cV x.t) x.t.sig with
 |true=>
  repeat (first|apply aj|(apply ar;rfl;apply fZ<;>rfl))
  refine bG rfl ?_
  repeat (first|apply aj|(apply ar;rfl;apply aD<;>rfl))
  refine aO (Or.inl rfl) Tryz.results72 (aC.tmp rfl) ?_
  exact⟨rfl,k4⟩
 |false=>
  repeat (first|apply aj|(apply ar;rfl;apply fZ<;>rfl))
  refine bL rfl ?_
  repeat (first|apply aj|(apply ar;rfl;apply aD<;>rfl))
  refine aO (Or.inl rfl) Tryz.results72 (aC.tmp rfl) ?_
  exact⟨rfl,k4⟩
end
section
def HF:Tx:=⟨zd,0,0,0,[],[]⟩
def yL:Tm:=⟨HF,none,0,none,0⟩
theorem AX(n:Nat)(w:World):yL.In n w:=⟨Bs.nil,Bs.nil,Or.inl (fun h=>absurd rfl h),Or.inl (fun h=>absurd rfl h),by decide,by decide⟩
theorem IB(w:World):(Instr.build 52 #[]).run Tryz.prog w= .ok (eR yL) w:=by kernel_rfl
def jI(t:Tx)(k:Dg):Tx:={t with frm:=k,sig:=[]}
noncomputable def je(m:eA)(t:Tx)(k:Dg):Int×Tx×eA:=if bg (jI t k)≠0 then(bg (jI t k),HF,m) else match fQ m k (cV (jI t k)) with
 |some i=>(0,{t with frm:=k,sig:=ie i},fP m k (cV (jI t k)))
 |none=>(17,HF,m)
theorem vK{m:eA}{k d:Dg}(h:fQ m k d=none):fP m k d=m:=by
 unfold fQ at h
 unfold fP
 cases hr:aB m (k,d) with
 |some i=>rfl
 |none=>
  rw[hr] at h
  simp only at h⊢
  by_cases hf:65536≤m.length
  ·rw[if_pos hf]
  ·rw[if_neg hf] at h;cases h
def tf(w:World)(base bb pm:Nat)(v:Value)(m:eA)(t:Tx)(k:Dg)(e:Ending)(w':World):Prop:=
 ∃(y:Tm) (v':Value),e= .returned (.tuple #[eR y,.int .i64 (je m t k).1])∧y.t=(je m t k).2.1∧y.In 0 w'∧dm w' base bb pm v' (je m t k).2.2∧Kp (bb::pm::aP v) w w'∧(∀g,v'.ownBlock=some g→v.ownBlock=some g∨w.heap.size≤g)∧w'.ownsRow w.heap.size 5 1 y.s y.t.sig.length (bO gw y.t.sig)∧(y.t.body≠[]→∀b off,y.a1=some ⟨b,off,none⟩→b∉aP y.s)
theorem qG{w:World}{b:Nat}{cs:Array Value}{T:TypeId}(h:aF w b (.cells cs T))(hT:T≠5):dh 0 w [b]:=dh.cons (Nat.zero_le _) (dh.cells h hT) dh.nil
theorem dm.Hu{w:World}{base bb pm:Nat}{v:Value}{m:eA}(h:dm w base bb pm v m):dh 0 w (bb::pm::aP v):=by
 refine dh.cons (Nat.zero_le _) (dh.cells h.blk (by decide)) (dh.cons (Nat.zero_le _) (fun cs f e=>?_) (dh.own h.own (Nat.zero_le _) (by decide)))
 obtain⟨es,c,h1,-⟩:=h.map
 have:=aF.uniq h1 e
 cases this
theorem dm.Dz{w w':World}{base bb pm b:Nat}{v:Value}{m:eA}{cs:Array Value}{T:TypeId}(h:dm w base bb pm v m)(hk:Kp [b] w w')(hB:aF w b (.cells cs T))(h1:T≠162)(h2:T≠341):dm w' base bb pm v m:=by
 have hb:bb≠b:=fun e=>by
  subst e
  have:=aF.uniq hB h.blk
  simp only[Obj.cells.injEq] at this
  exact h1 this.2.1
 exact⟨h.blk.kp hk (bP hb),bW h.own hk (cK h.own h2 hB),h.map.kp hk (bP (eB hB h.map)),h.bp,h.pp⟩
attribute [local irreducible] CG NG SG aK aI Row aF aE aM num c9 de cQ cJ qw cP bg dB kV dP bE cV
theorem pA{w:World}{n0 base bb pm:Nat}{v:Value}{m:eA}(hN:dm w base bb pm v m)(hb0:base≤w.heap.size)(hml:m.length≤100000){x:Tm}(hx:x.In n0 w)(k:Dg):
  Calls Tryz.prog 50 #[eR x,.iface 197 (DH bb k)] w (tf w base bb pm v m x.t k):=by
 refine bJ Tryz.func50 rfl Tryz.ntmps50 rfl ?_
 have hl1:=hx.l1
 obtain⟨n1,n2,n3⟩:=hN.nn
 have lb:=hN.blk.lt
 have lm:=hN.map.lt
 have lo:=cD hN.own
 repeat apply aj
 refine SG.box rfl rfl rfl (ag rfl) (fun b2 w1 hk1 hb2 hB2=>?_)
 have hB2:aF w1 b2 (.cells (bV x).toArray 52):=hB2
 refine SG.alloc rfl rfl rfl (fun b4 w2 hk2 hb4 hB4=>?_)
 have hB4:aF w2 b4 (.cells (bV yL).toArray 52):=hB4
 have k2:=hk1.trans hk2
 obtain⟨r,-⟩:=aZ (hB2.ay hk2)
 repeat (first|apply aj|(apply ar;rfl;(first|apply Gd|apply az|apply aD)<;>rfl))
 refine bG rfl ?_
 repeat (first|apply aj|(apply ar;rfl;apply bj<;>first|rfl|assumption|exact List.not_mem_nil|apply au))
 refine SG.call rfl rfl rfl (vs:=[eR x]) (bz.of rfl) ((fO (hx.ay k2)).mono (fun e w3 hh=>?_))
 obtain⟨y,hy,he,hyI,hk3,g1,g2⟩:=hh
 refine⟨_,he,?_⟩
 clear he r hB2
 obtain⟨t,a1,c1,a2,c2⟩:=y
 simp only at hy g1 g2
 subst hy
 refine SG.alloc rfl rfl rfl (fun b6 w4 hk4 hb6 hB6=>?_)
 refine SG.aN (l:=bV ⟨x.t,a1,c1,a2,c2⟩) rfl rfl (ag rfl) (ag rfl) hB6 (au _) rfl (cC _) (fun w5 hk5 hB6=>?_)
 have hB6:aF w5 b6 (.cells (bV ⟨x.t,a1,c1,a2,c2⟩).toArray 52):=hB6
 have s1:=hk1.size
 have s2:=hk2.size
 have s3:=hk3.size
 have s4:=hk4.size
 have s5:=hk5.size
 have e4:=hB4.lt
 have k5:Kp [] w w5:=(k2.trans (hk3.trans hk4)).ai hk5 (aV (by omega))
 have k45:Kp [] w3 w5:=hk4.ai hk5 (aV hb6)
 have hyI:=hyI.ay k45
 have hB4:aF w5 b4 (.cells (bV yL).toArray 52):=(hB4.ay hk3).ay k45
 repeat (first|apply aj|(apply ar;rfl;apply az<;>rfl))
 refine SG.HV rfl rfl rfl (vs:=[]) (ag rfl) True.intro (yE bb k w5) (fun w6 hk6=>?_)
 repeat (apply ar;rfl;apply aW<;>rfl)
 refine SG.cr [] (dc x.t.frm) [.int .i64 x.t.non,.int .i64 x.t.fee,.int .i64 x.t.kind,.slice a1 x.t.body.length c1,.slice a2 x.t.sig.length c2] rfl rfl (ag rfl) (ag rfl) (hB6.ay hk6) (by simp[bV,Tm.b,Tm.s]) (by exact ah k) (ah _) rfl (by exact bu k) (fun w7 hk7 hB7=>?_)
 have hB7:aF w7 b6 (.cells (bV ⟨{x.t with frm:=k},a1,c1,a2,c2⟩).toArray 52):=hB7
 repeat (first|apply aj|(apply ar;rfl;apply aW<;>rfl))
 refine SG.cr (dc k++[.int .i64 x.t.non,.int .i64 x.t.fee,.int .i64 x.t.kind,.slice a1 x.t.body.length c1]) [.slice a2 x.t.sig.length c2] [] rfl rfl (ag rfl) (ag rfl) hB7 (by simp[bV,Tm.b,Tm.s]) rfl rfl (by simp[ah]) rfl (fun w8 hk8 hB8=>?_)
 have hB8:aF w8 b6 (.cells (bV ⟨jI x.t k,a1,c1,none,0⟩).toArray 52):=by
  have e:bV ⟨jI x.t k,a1,c1,none,0⟩=(dc k++[.int .i64 x.t.non,.int .i64 x.t.fee,.int .i64 x.t.kind,.slice a1 x.t.body.length c1])++([.slice none 0 0]++[]):=by simp[bV,Tm.b,Tm.s,jI]
  rw[e]
  exact hB8
 have s6:=hk6.size
 have s7:=hk7.size
 have s8:=hk8.size
 have e6:=hB6.lt
 have k58:Kp [b6] w5 w8:=(hk6.any.trans hk7).trans hk8
 have k8:Kp [] w w8:=k5.ai k58 (aV (by omega))
 have hO:dh 0 w5 [b6]:=qG hB6 (by decide)
 have hyI:=hyI.gd k58 hO
 have hoI:Tm.In ⟨jI x.t k,a1,c1,none,0⟩ 0 w8:=⟨hyI.b,Bs.nil,hyI.t1,Or.inl (fun h=>absurd rfl h),hyI.l1,Nat.zero_le _⟩
 have hB4:aF w8 b4 (.cells (bV yL).toArray 52):=hB4.kp k58 (bP (by omega))
 have hN8:=hN.ay k8
 clear hB6 hB7 hyI
 obtain⟨o,ho⟩:∃o,jI x.t k=o:=⟨_,rfl⟩
 rw[ho] at hB8 hoI
 obtain⟨r,-⟩:=aZ hB8
 repeat (first|apply aj|(apply ar;rfl;apply bj<;>first|rfl|assumption|exact List.not_mem_nil|apply au))
 refine SG.ret rfl rfl rfl (vs:=[eR ⟨o,a1,c1,none,0⟩]) (bz.of rfl) (js hoI) (fun w9 hk9=>?_)
 have k9:=k8.trans hk9
 have hN9:=hN8.ay hk9
 clear r
 by_cases h0:bg o=0
 rotate_left
 ·have e0:je m x.t k=(bg o,HF,m):=by unfold je;rw[ho,if_pos h0]
  unfold tf
  rw[e0]
  generalize bg o=z at h0⊢
  repeat (first|apply aj|(apply ar;rfl;(first|apply az|apply aD|apply dK)<;>first|rfl|(apply bN;first|assumption|omega)))
  refine bL rfl ?_
  repeat apply aj
  refine SG.val rfl rfl rfl rfl (aG rfl IB) ?_
  repeat (apply ar;rfl;apply az<;>rfl)
  refine SG.aN (l:=bV yL) rfl rfl (ag rfl) (ag rfl) (hB4.ay hk9) (au _) rfl (cC _) (fun wa hka hB=>?_)
  have hr:Row wa b4 0 (bV yL):=Row.all hB rfl
  repeat (first|apply aj|(apply ar;rfl;apply aD<;>rfl))
  refine dJ (Or.inl rfl) Tryz.results50 (aC.agg rfl rfl hr (au _)) (aC.tmp rfl) ?_
  have ka:=k9.ai hka (aV (by omega))
  exact⟨yL,v,rfl,rfl,AX _ _,hN.ay ka,ka.any,fun _ h=>Or.inl h,⟨rfl,Or.inl ⟨rfl,rfl⟩⟩,fun h=>absurd rfl h⟩
 rw[h0]
 have h00:(0:Int)=0:=rfl
 have e0:je m x.t k=match fQ m k (cV o) with
   |some i=>(0,{x.t with frm:=k,sig:=ie i},fP m k (cV o))
   |none=>(17,HF,m):=by unfold je;rw[ho,if_neg (fun h=>h h0)]
 repeat (first|apply aj|(apply ar;rfl;(first|apply az|apply aD|apply dK)<;>first|rfl|(apply bK;first|assumption|omega)))
 refine bG rfl ?_
 have hB8:=hB8.ay hk9
 have hoI:=hoI.ay hk9
 have hB4:=hB4.ay hk9
 obtain⟨r,-⟩:=aZ hB8
 have s9:=k9.size
 have hSl:∀z∈bb::pm::aP v,z<w9.heap.size:=fun z hz=>by
  rcases List.mem_cons.1 hz with rfl|hz
  ·omega
  ·rcases List.mem_cons.1 hz with rfl|hz
   ·omega
   ·have:=lo z (aH hz);omega
 have nS:∀{z:Nat},w.heap.size≤z→z∉bb::pm::aP v:=fun hz hm=>by
  rcases List.mem_cons.1 hm with rfl|hm
  ·omega
  ·rcases List.mem_cons.1 hm with rfl|hm
   ·omega
   ·have:=lo _ (aH hm);omega
 have nb6:b6∉bb::pm::aP v:=nS (by omega)
 repeat apply aj
 cases hsi:fQ m k (cV o) with
 |none=>
  rw[hsi] at e0
  unfold tf
  rw[e0]
  refine CG.draw mixed [0,3,4,5,1,2,6,7,8,9,10,11] [6] [] (bb::pm::aP v) (fun W=>dm W base bb pm v m) (by kernel_rfl) hSl (by simp) hN9 (fun W W' hk h=>h.ay hk) (Or.inl rfl) ?_
  repeat (apply bZ;rfl;rfl;(first|apply Jd|apply D8|apply az|apply bj)<;>first|rfl|assumption|apply au|infer_instance)
  refine aI.call rfl rfl rfl (vs:=[eR ⟨o,a1,c1,none,0⟩]) (bz.of rfl) (fun W hk _=>lZ (hoI.gd hk hN9.Hu)) ?_
  skip
  refine aI.xj (t:=197) (v:=DH bb k) (X:=Value) (vs:=[dv (cV o)]) (fun _=> .tuple #[.slice none 0 0,.int .i64 17]) (fun _ _=>True) (fun v' W=>dm W base bb pm v' m∧∀g,v'.ownBlock=some g→v.ownBlock=some g∨w9.heap.size≤g) rfl rfl rfl rfl (ag rfl) (bz.of rfl) (fun _ _ _ _ _=>trivial) (fun _ W W' hk h=>⟨h.1.ay hk,h.2⟩) (fun _ _ _ _=>trivial) (fun W hk _ hR=>(pj hR (Nat.le_trans hb0 (Nat.le_trans s9 hk.size)) hml k (cV o)).mono (fun e W' hh=>?_)) (fun v'=>?_)
  ·obtain⟨v',hN',hk',hg,hs⟩:=hh
   rw[hsi] at hs
   rw[vK hsi] at hN'
   exact⟨v',hs,trivial,⟨hN',fun g hgg=>(hg g hgg).imp id (fun h=>Nat.le_trans hk.size h)⟩,hk'⟩
  repeat (apply bZ;rfl;rfl;(first|apply az|apply aD|apply dA)<;>rfl)
  refine aI.fin (fun wa hka _ hR=>?_)
  obtain⟨hNa,hga⟩:=hR
  have hB4:=hB4.kp hka (nS (by omega))
  clear r
  repeat (first|apply aj|(apply ar;rfl;(first|apply az|apply dK)<;>first|rfl|(apply bN;first|assumption|omega)))
  refine bL rfl ?_
  repeat apply aj
  refine SG.val rfl rfl rfl rfl (aG rfl IB) ?_
  repeat (apply ar;rfl;apply az<;>rfl)
  refine SG.aN (l:=bV yL) rfl rfl (ag rfl) (ag rfl) hB4 (au _) rfl (cC _) (fun wb hkb hB=>?_)
  have hr:Row wb b4 0 (bV yL):=Row.all hB rfl
  repeat (first|apply aj|(apply ar;rfl;apply aD<;>rfl))
  refine dJ (Or.inl rfl) Tryz.results50 (aC.agg rfl rfl hr (au _)) (aC.tmp rfl) ?_
  exact⟨yL,v',rfl,rfl,AX _ _,hNa.Dz hkb hB4 (by decide) (by decide),(k9.any.trans hka).ai hkb (fun z hz=>Or.inr (by rw[List.mem_singleton] at hz;omega)),fun g hg=>(hga g hg).imp id (fun h=>by omega),⟨rfl,Or.inl ⟨rfl,rfl⟩⟩,fun h=>absurd rfl h⟩
 |some i=>
  rw[hsi] at e0
  unfold tf
  rw[e0]
  refine CG.draw mixed [0,3,4,5,1,2,6,7,8,9,10,11] [6] [] (bb::pm::aP v) (fun W=>dm W base bb pm v m) (by kernel_rfl) hSl (by simp) hN9 (fun W W' hk h=>h.ay hk) (Or.inl rfl) ?_
  repeat (apply bZ;rfl;rfl;(first|apply Jd|apply D8|apply az|apply bj)<;>first|rfl|assumption|apply au|infer_instance)
  refine aI.call rfl rfl rfl (vs:=[eR ⟨o,a1,c1,none,0⟩]) (bz.of rfl) (fun W hk _=>lZ (hoI.gd hk hN9.Hu)) ?_
  skip
  refine aI.xj (t:=197) (v:=DH bb k) (X:=Nat×Value) (vs:=[dv (cV o)]) (fun q=> .tuple #[.slice (some ⟨q.1,0,none⟩) 2 2,.int .i64 0]) (fun q W=>w9.heap.size≤q.1∧aF W q.1 (.cells #[bv (UInt8.ofNat i),bv (UInt8.ofNat (i/256))] 5)) (fun q W=>dm W base bb pm q.2 (fP m k (cV o))∧∀g,q.2.ownBlock=some g→v.ownBlock=some g∨w9.heap.size≤g) rfl rfl rfl rfl (ag rfl) (bz.of rfl) (fun q W W' hk h=>⟨h.1,h.2.kp hk (fun hm=>by have:=hSl _ hm;have:=h.1;omega)⟩) (fun _ W W' hk h=>⟨h.1.ay hk,h.2⟩) (fun _ _ _ _=>trivial) (fun W hk _ hR=>(pj hR (Nat.le_trans hb0 (Nat.le_trans s9 hk.size)) hml k (cV o)).mono (fun e W' hh=>?_)) (fun q=>?_)
  ·obtain⟨v',hN',hk',hg,hs⟩:=hh
   rw[hsi] at hs
   obtain⟨b,he,hb,hB⟩:=hs
   exact⟨(b,v'),he,⟨Nat.le_trans hk.size hb,hB⟩,⟨hN',fun g hgg=>(hg g hgg).imp id (fun h=>Nat.le_trans hk.size h)⟩,hk'⟩
  obtain⟨bs,v'⟩:=q
  simp only
  repeat (apply bZ;rfl;rfl;(first|apply az|apply aD|apply dA)<;>rfl)
  refine aI.fin (fun wa hka hF hR=>?_)
  obtain⟨hNa,hga⟩:=hR
  obtain⟨-,hbs,hBs⟩:=hF
  have hB4:=hB4.kp hka (nS (by omega))
  have hB8:=hB8.kp hka nb6
  have hoI:=hoI.gd hka hN9.Hu
  have hbl:=hoI.b.lt
  have eb:o.body=x.t.body:=by rw[←ho];rfl
  rw[eb] at hbl
  have ka:Kp (bb::pm::aP v) w wa:=k9.any.trans hka
  clear r
  repeat (first|apply aj|(apply ar;rfl;(first|apply az|apply dK)<;>first|rfl|(apply bK;first|assumption|omega)))
  refine bG rfl ?_
  repeat (first|apply aj|(apply ar;rfl;apply az<;>rfl))
  have hSs:Sl gw 1 wa (some ⟨bs,0,none⟩) (ie i):=Sl.gH (pre:=[]) (post:=[]) fA (l:=ie i) (T:=5) hBs
  refine SG.call rfl rfl rfl (vs:=[.slice (some ⟨bs,0,none⟩) (ie i).length 2]) (bz.of rfl) ((fV 2 hSs (by simp[ie])).mono (fun e wb hh=>?_))
  obtain⟨vb,he,hob,hkb⟩:=hh
  refine⟨_,he,?_⟩
  clear he
  obtain⟨aq,cq,rfl,hS⟩:=Bs.own hob
  have gs:=fN hob
  have ts:Ty 5 wb aq (ie i):=Ty.own hob
  have hB8:=hB8.ay hkb
  have hB4:=hB4.ay hkb
  have hoI:=hoI.ay hkb
  have kb:=ka.trans hkb.any
  have s9':=hk9.size
  have sa':=hka.size
  have sa:=ka.size
  have sb:=hkb.size
  repeat (apply ar;rfl;apply aW<;>rfl)
  refine SG.cr (dc o.frm++[.int .i64 o.non,.int .i64 o.fee,.int .i64 o.kind,.slice a1 o.body.length c1]) [.slice none o.sig.length 0] [] rfl rfl (ag rfl) (ag rfl) hB8 (by simp[bV,Tm.b,Tm.s]) rfl rfl (by simp[ah]) rfl (fun wc hkc hB8c=>?_)
  have es:({o with sig:=ie i}:Tx)={x.t with frm:=k,sig:=ie i}:=by rw[←ho];rfl
  have hB8c:aF wc b6 (.cells (bV ⟨{o with sig:=ie i},a1,c1,aq,cq⟩).toArray 52):=by
   have e:bV ⟨{o with sig:=ie i},a1,c1,aq,cq⟩=(dc o.frm++[.int .i64 o.non,.int .i64 o.fee,.int .i64 o.kind,.slice a1 o.body.length c1])++([.slice aq (ie i).length cq]++[]):=by simp[bV,Tm.b,Tm.s]
   rw[e]
   exact hB8c
  have hoI:=hoI.gd hkc (qG hB8 (by decide))
  have hS:=hS.kp hkc (fun b off e=>bP (by have:=gs b off e;omega))
  have ts:=ts.kp hkc (fun _ b off e=>bP (by have:=gs b off e;omega))
  have hB4:=hB4.kp hkc (bP (by omega))
  have hNc:=(hNa.ay hkb).Dz hkc hB8 (by decide) (by decide)
  rw[es] at hB8c
  have hyI:Tm.In ⟨{x.t with frm:=k,sig:=ie i},a1,c1,aq,cq⟩ 0 wc:=by
   rw[←es]
   exact⟨hoI.b,hS,hoI.t1,Or.inl ts,hoI.l1,by simp[ie]⟩
  obtain⟨r,-⟩:=aZ hB8c
  repeat (first|apply aj|(apply ar;rfl;apply bj<;>first|rfl|assumption|exact List.not_mem_nil|apply au))
  refine SG.aN (l:=bV ⟨{x.t with frm:=k,sig:=ie i},a1,c1,aq,cq⟩) rfl rfl (ag rfl) (ag rfl) hB4 (au _) rfl (cC _) (fun wd hkd hB=>?_)
  have hr:Row wd b4 0 (bV ⟨{x.t with frm:=k,sig:=ie i},a1,c1,aq,cq⟩):=Row.all hB rfl
  clear r
  repeat (first|apply aj|(apply ar;rfl;apply aD<;>rfl))
  refine dJ (Or.inl rfl) Tryz.results50 (aC.agg rfl rfl hr (au _)) (aC.tmp rfl) ?_
  exact⟨⟨{x.t with frm:=k,sig:=ie i},a1,c1,aq,cq⟩,v',rfl,rfl,hyI.gd hkd (qG hB4 (by decide)),hNc.Dz hkd hB4 (by decide) (by decide),(kb.ai hkc (fun z hz=>Or.inr (by rw[List.mem_singleton] at hz;omega))).ai hkd (fun z hz=>Or.inr (by rw[List.mem_singleton] at hz;omega)),fun g hg=>(hga g hg).imp id (fun h=>by omega),dS (dS (cX hob (by omega)) hkc (fun b e=>bP (by have:=cp hob b e;omega))) hkd (fun b e=>bP (by have:=cp hob b e;omega)),fun hn b off e hm=>by have h1:=hbl hn b off e;have h2:=cp hob b (aH hm);omega⟩
end
section
open Go.Proofs
abbrev Ai(z:Int):Value:= .int .i64 z
def Aj(L:List (Dg×Int))(e:En):Bool:=L.any (fun p=>decide (p.1=e.key∧e.non≤p.2))
theorem DM{m L:List (Dg×Int)}{e:En}(h:nq m L):Aj L e=true↔∃n,aB m e.key=some n∧e.non≤n:=by
 rw[h e.key e.non]
 unfold Aj
 rw[List.any_eq_true]
 constructor
 ·rintro⟨p,h1,h2⟩;exact⟨p,h1,of_decide_eq_true h2⟩
 ·rintro⟨p,h1,h2⟩;exact⟨p,h1,decide_eq_true h2⟩
def BB(e:En):Dg×Int:=(e.key,e.non)
def Pe(h leave:Int)(e:En):Bool:=decide (leave≤h-e.since-1)
def S6(l:List En)(h leave:Int):List (Dg×Int):=(l.filter (Pe h leave)).map BB
def yh(n:Int):Prop:= -9223372036854775808≤n∧n≤9223372036854775807
attribute [local irreducible] CG NG SG aK aI Row aF aE aM aR bg
theorem xc{w:World}{b7 bm:Nat}{m L:List (Dg×Int)}(e:Em)(h7:Row w b7 0 [.map (some bm)])(hm:aE w bm (dv (n:=8)) Ai m)(hM:nq m L):dz Tryz.prog 143 #[ev e,.pointer (some ⟨b7,0,none⟩)] w (.bool (Aj L e.en)):=by
 refine fL (args:=[ev e,.pointer (some ⟨b7,0,none⟩)]) Tryz.func143 rfl Tryz.ntmps143 rfl ?_
 repeat apply aj
 refine SG.box rfl rfl rfl (ag rfl) (fun b1 w1 hk1 hb1 hB1=>?_)
 have hB1:aF w1 b1 (.cells (ec e).toArray 216):=hB1
 obtain⟨-,q0,q1,-⟩:=eE (Row.all hB1 rfl)
 simp only[Nat.zero_add] at q1
 have h7:=h7.ay hk1
 have hm:=hm.ay hk1
 have hup:=DM (e:=e.en) hM
 cases hl:aB m e.x.t.frm with
 |none=>
  have e1:Aj L e.en=false:=by
   cases hb:Aj L e.en with
   |false=>rfl
   |true=>
    obtain⟨n,h1,h2⟩:=hup.1 hb
    have h1:aB m e.x.t.frm=some n:=h1
    rw[hl] at h1
    cases h1
  rw[e1]
  repeat (first|apply aj|(apply ar;rfl;(first|apply az|apply aD|apply bf|apply bj|apply aW|apply cu|apply lL|apply dA)<;>first|rfl|assumption|exact List.not_mem_nil|apply ah|exact tv (by assumption)|fail)|refine SG.skip rfl rfl ?_)
  refine aO (Or.inl rfl) Tryz.results143 (aC.tmp rfl) ?_
  exact⟨rfl,hk1⟩
 |some n=>
  by_cases g:e.x.t.non≤n
  ·have e1:Aj L e.en=true:=hup.2 ⟨n,hl,g⟩
   rw[e1]
   repeat (first|apply aj|(apply ar;rfl;(first|apply az|apply aD|apply bf|apply bj|apply aW|apply cu|apply Dt|apply lL|apply dA)<;>first|rfl|assumption|(apply bK;first|assumption|omega)|exact List.not_mem_nil|apply ah|exact kX (by assumption)|fail))
   refine aO (Or.inl rfl) Tryz.results143 (aC.tmp rfl) ?_
   exact⟨rfl,hk1⟩
  ·have e1:Aj L e.en=false:=by
    cases hb:Aj L e.en with
    |false=>rfl
    |true=>
     obtain⟨n',h1,h2⟩:=hup.1 hb
     have h1:aB m e.x.t.frm=some n':=h1
     rw[hl] at h1
     cases h1
     exact absurd h2 g
   rw[e1]
   repeat (first|apply aj|(apply ar;rfl;(first|apply az|apply aD|apply bf|apply bj|apply aW|apply cu|apply Dt|apply lL|apply dA)<;>first|rfl|assumption|(apply bN;first|assumption|omega)|exact List.not_mem_nil|apply ah|exact kX (by assumption)|fail))
   refine aO (Or.inl rfl) Tryz.results143 (aC.tmp rfl) ?_
   exact⟨rfl,hk1⟩
end
section
open Go.Proofs
def dX(T:TypeId)(n:Nat)(w:World)(S:List Nat):Prop:=∀b∈S,n≤b∧∀cs f,w.heap[b]?≠some (.cells cs T f)
def Tg{α:Type}(T:TypeId)(n:Nat)(w:World)(a:Option Addr)(l:List α):Prop:=Ty T w a l∨∀b off,a=some ⟨b,off,none⟩→b<n
theorem Sl.Al{α:Type}{enc:α→List Value}{sz n:Nat}{T:TypeId}{S:List Nat}{w w':World}{a:Option Addr}{l:List α}(h:Sl enc sz w a l)(ht:Tg T n w a l)(hk:Kp S w w')(hS:dX T n w S):Sl enc sz w' a l∧Tg T n w' a l:=by
 have key:l≠[]→∀b off,a=Option.some ⟨b,off,Option.none⟩→b∉S:=fun hn b off e hm=>by
  rcases ht with ht|ht
  ·obtain⟨cs,f,hc⟩:=ht hn b off e
   exact(hS b hm).2 cs f hc
  ·have:=ht b off e
   have:=(hS b hm).1
   omega
 exact⟨h.Jh hk key,ht.elim (fun h=>Or.inl (h.kp hk key)) Or.inr⟩
theorem dX.cells{T T':TypeId}{w:World}{b:Nat}{cs:Array Value}(h:aF w b (.cells cs T'))(hT:T'≠T):∀cs f,w.heap[b]?≠some (.cells cs T f):=fun cs' f e=>by
 have:=h.uniq e
 simp only[Obj.cells.injEq] at this
 exact hT this.2.1
theorem dX.own{T T':TypeId}{w:World}{n0 base n sz:Nat}{v:Value}{xs:List Value}(ho:w.ownsRow base T' sz v n xs)(hn:n0≤base)(hT:T'≠T):dX T n0 w (aP v):=fun b hb=>by
 have hb':=aH hb
 refine⟨Nat.le_trans hn (cp ho b hb'),?_⟩
 rcases ho.2 with⟨rfl,_⟩|⟨g,cap,cur,rfl,_,hg,_⟩
 ·cases hb'
 ·cases hb'
  exact dX.cells hg hT
theorem dX.cons{T:TypeId}{n:Nat}{w:World}{b:Nat}{S:List Nat}(hb:n≤b)(h:∀cs f,w.heap[b]?≠some (.cells cs T f))(hS:dX T n w S):dX T n w (b::S):=fun z hz=>by
 rcases List.mem_cons.1 hz with rfl|hz
 ·exact⟨hb,h⟩
 ·exact hS z hz
theorem dX.nil{T:TypeId}{n:Nat}{w:World}:dX T n w []:=fun z hz=>(by cases hz)
theorem Pl.BL{w:World}{base p:Nat}{v:Value}{room:Int}{ms:List Em}(h:Pl w base p v room ms){T:TypeId}(h1:214≠T)(h2:216≠T):dX T base w (p::aP v):=dX.cons h.bp (dX.cells h.blk h1) (dX.own h.own (Nat.le_refl _) h2)
structure l4(w:World)(n:Nat)(a:Option Addr)(xs:List Tm):Prop where
 sl:Sl bV 13 w a xs
 tg:Tg 52 n w a xs
 ins:∀x∈xs,x.In n w
theorem l4.kp{w w':World}{n:Nat}{a:Option Addr}{xs:List Tm}{S:List Nat}(h:l4 w n a xs)(hk:Kp S w w')(hO:dh n w S)(hT:dX 52 n w S):l4 w' n a xs:=
 ⟨(h.sl.Al h.tg hk hT).1,(h.sl.Al h.tg hk hT).2,fun x hx=>(h.ins x hx).gd hk hO⟩
theorem l4.ay{w w':World}{n:Nat}{a:Option Addr}{xs:List Tm}(h:l4 w n a xs)(hk:Kp [] w w'):l4 w' n a xs:=h.kp hk dh.nil dX.nil
theorem l4.S0{w w':World}{base p:Nat}{v:Value}{room:Int}{ms:List Em}{a:Option Addr}{xs:List Tm}(h:l4 w base a xs)(hP:Pl w base p v room ms)(hk:Kp (p::aP v) w w'):l4 w' base a xs:=h.kp hk hP.Hu (hP.BL (by decide) (by decide))
theorem jL.Sp{w:World}{base n:Nat}{v:Value}{xs:List Tm}(h:jL w base v xs):∃a c,v= .slice a xs.length c∧xs.length≤c∧l4 w n a xs:=by
 obtain⟨a,c,rfl,hc,hS⟩:=h.sl
 exact⟨a,c,rfl,hc,hS,Or.inl (Ty.own h.own),fun x hx=>(h.ins x hx).mono (Nat.zero_le _)⟩
def mH(t:Tx):Dg×Int:=(t.frm,t.non)
def pY(l:List En)(ts:List Tx):List En:=l.filter (fun e=> !Aj (ts.map mH) e)
theorem Cz(l:List En)(ts:List Tx):(pY l ts).length≤l.length:=List.length_filter_le _ _
theorem zM{room:Int}{l:List En}{ts:List Tx}(h:dF room l):dF room (pY l ts):=
 ⟨List.Pairwise.sublist List.filter_sublist h.dst,by have:=h.len;have:=Cz l ts;omega,fun e he=>h.ok e (List.mem_filter.1 he).1,fun e he=>h.sc e (List.mem_filter.1 he).1⟩
theorem Cn(ms:List Em)(q:En→Bool):(ms.filter (fun e=> !q e.en)).map Em.en=(ms.map Em.en).filter (fun e=> !q e):=by
 rw[List.filter_map]
 rfl
attribute [local irreducible] CG NG SG aK aI Row aF aE aM aR bg
theorem vW{w:World}{base p:Nat}{v:Value}{room:Int}{ms:List Em}(hP:Pl w base p v room ms)(hll:ms.length≤1024){f:FuncId}[Fn:bQ Tryz.prog f]{caps:List Value}(q:Em→Bool)(hq:∀o∈ms,∀W,Kp (aP v) w W→dz Tryz.prog f (ev o::caps).toArray W (.bool (q o))):
  Calls Tryz.prog 142 #[.pointer (some ⟨p,0,none⟩),j8 f caps] w (fun e w'=>e= .returned (.int .i64 ((ms.length:Int)-((ms.filter (fun e=> !q e)).length:Int)))∧∃v',Pl w' base p v' room (ms.filter (fun e=> !q e))∧Kp (p::aP v) w w'∧∀g,v'.ownBlock=some g→v.ownBlock=some g):=by
 refine bJ Tryz.func142 rfl Tryz.ntmps142 rfl ?_
 obtain⟨a,c,hv,hc,hS⟩:=hP.sl
 obtain⟨-,q1⟩:=hP.rows
 rw[hv] at q1
 repeat (first|apply aj|(apply ar;rfl;(first|apply az|apply aD|apply bf|apply aW|apply bM|apply dy)<;>first|rfl|assumption|exact List.not_mem_nil))
 rw[←hv]
 refine SG.call rfl rfl rfl (vs:=[v,j8 f caps]) (bz.of rfl) ((zO (Fn:=Fn) hP.own (by omega) hq).mono (fun e w1 hh=>?_))
 obtain⟨v1,he,ho1,hk1,hv1⟩:=hh
 refine⟨_,he,?_⟩
 clear q1 he
 have hB1:=hP.blk.kp hk1 hP.np
 have hn1:∀b,v1.ownBlock=some b→b∉[p]:=cK ho1 (by decide) hB1
 have hfl:(ms.filter (fun e=> !q e)).length≤ms.length:=List.length_filter_le _ _
 obtain⟨a1,c1,rfl,-,-⟩:=Sl.own (l:=ms.filter (fun e=> !q e)) aL ho1 rfl
 subst hv
 repeat (apply ar;rfl;(first|apply aW|apply bM)<;>rfl)
 refine SG.cr [.int .i64 room] [.slice a ms.length c] [] rfl rfl (ag rfl) (ag rfl) hB1 rfl rfl rfl rfl rfl (fun w2 hk2 hB2=>?_)
 have hB2:aF w2 p (.cells #[.int .i64 room,.slice a1 (ms.filter (fun e=> !q e)).length c1] 214):=hB2
 have hP2:Pl w2 base p (.slice a1 (ms.filter (fun e=> !q e)).length c1) room (ms.filter (fun e=> !q e)):=by
  refine⟨hB2,bW ho1 hk2 hn1,fun e he=>?_,hP.bp⟩
  exact((hP.ins e (List.mem_filter.1 he).1).gd hk1 (dh.own hP.own (Nat.le_refl _) (by decide))).gd hk2 (dh.cons hP.bp (dh.cells hB1 (by decide)) dh.nil)
 obtain⟨-,q2⟩:=hP2.rows
 repeat (first|apply aj|(apply ar;rfl;(first|apply az|apply aD|apply bf|apply aW|apply bM|apply dy|apply xL)<;>first|rfl|(apply Ar.mk;omega)|assumption|exact List.not_mem_nil))
 refine aO (Or.inl rfl) Tryz.results142 (aC.tmp rfl) ?_
 exact⟨rfl,_,hP2,(hk1.mono (fun z hz=>List.mem_cons_of_mem _ hz)).trans (hk2.mono (fun z hz=>by rw[List.mem_singleton] at hz;rw[hz];exact List.mem_cons_self)),hv1⟩
theorem zL{w:World}{base p:Nat}{v:Value}{room:Int}{ms:List Em}(hP:Pl w base p v room ms)(hI:dF room (ms.map Em.en))(hr:room≤1024){a:Option Addr}{c:Nat}{xs:List Tm}(hX:Sl bV 13 w a xs)(hxl:xs.length≤1000000):
  Calls Tryz.prog 102 #[.pointer (some ⟨p,0,none⟩),.slice a xs.length c] w (fun e w'=>e= .returned (.int .i64 ((ms.length:Int)-((pY (ms.map Em.en) (xs.map (·.t))).length:Int)))∧∃v' ms',Pl w' base p v' room ms'∧ms'.map Em.en=pY (ms.map Em.en) (xs.map (·.t))∧Kp (p::aP v) w w'∧∀g,v'.ownBlock=some g→v.ownBlock=some g):=by
 refine bJ Tryz.func102 rfl Tryz.ntmps102 rfl ?_
 have hll:ms.length≤1024:=by have:=hI.len;rw[List.length_map] at this;omega
 have hlp:=hP.blk.lt
 have hvp:∀b,v.ownBlock=some b→b<w.heap.size:=cD hP.own
 repeat (first|apply aj|(apply ar;rfl;(first|apply iC|apply az|apply aD)<;>rfl))
 refine bG rfl ?_
 repeat apply aj
 refine SG.makeMap (dv (n:=8)) Ai rfl rfl (fun bm w2 hk2 hbm hm=>?_)
 refine SG.alloc rfl rfl rfl (fun b7 w3 hk3 hb7 hB7=>?_)
 have k3:=hk2.trans hk3
 have s2:=hk2.size
 have ltm:=hm.lt
 have hm:=hm.ay hk3
 refine SG.kD rfl rfl (ag rfl) (ag rfl) hB7 rfl rfl (fun w4 hk4 hB7=>?_)
 have hm:aE w4 bm (dv (n:=8)) Ai []:=hm.kp hk4 (bP (by omega))
 have r7:Row w4 b7 0 [.map (some bm)]:=Row.all hB7 rfl
 have k4:Kp [] w w4:=k3.ai hk4 (aV (by omega))
 have lt7:=hB7.lt
 have s4:=k4.size
 have hX4:=hX.ay k4
 clear hB7
 repeat (first|apply aj|(apply ar;rfl;(first|apply az|apply dy)<;>rfl))
 refine CG.loop (X:=Nat×List (Dg×Int)) (fun x=>[(0,.pointer (some ⟨p,0,none⟩)),(5,.pointer (some ⟨b7,0,none⟩)),(13,.slice a xs.length c),(14,.int .i64 (xs.length:Int)),(15,.int .i64 (x.1:Int))])
  (fun x w'=>x.1≤xs.length∧Kp [bm] w4 w'∧aE w' bm (dv (n:=8)) Ai x.2∧nq x.2 (((xs.map (·.t)).take x.1).map mH)) (fun x=>xs.length-x.1) (0,[]) ⟨Nat.zero_le _,Kp.refl _ _,hm,nq.nil⟩ (aS.of rfl) ?_
 rintro⟨i,m⟩ w5 ⟨hi,hk5,hm5,hM⟩
 simp only at hi hm5 hM
 refine CG.to [(0,.pointer (some ⟨p,0,none⟩)),(5,.pointer (some ⟨b7,0,none⟩)),(13,.slice a xs.length c),(14,.int .i64 (xs.length:Int)),(15,.int .i64 (i:Int))] (aS.of rfl) ?_
 have k5:Kp [] w w5:=k4.ai hk5 (aV (by omega))
 have hP5:=hP.ay k5
 have r7':Row w5 b7 0 [.map (some bm)]:=r7.kp hk5 (bP (by omega))
 have s5:=hk5.size
 by_cases hlt:i<xs.length
 rotate_left
 ·have g1:¬(i:Int)<(xs.length:Int):=by omega
  rw[List.take_of_length_le (by rw[List.length_map];omega)] at hM
  have hfm:=Cn ms (Aj ((xs.map (·.t)).map mH))
  have hfl:(ms.filter (fun e=> !Aj ((xs.map (·.t)).map mH) e.en)).length=(pY (ms.map Em.en) (xs.map (·.t))).length:=by
   rw[←List.length_map (f:=Em.en),hfm]
   rfl
  repeat (first|apply aj|(apply ar;rfl;apply cG<;>first|rfl|(apply bN;first|assumption|omega)))
  refine bG rfl ?_
  repeat (first|apply aj|(apply ar;rfl;apply az<;>rfl))
  refine SG.val rfl rfl rfl rfl (Ht (vs:=[.pointer (some ⟨b7,0,none⟩)]) rfl) ?_
  refine SG.call rfl rfl rfl (vs:=[.pointer (some ⟨p,0,none⟩),j8 143 [.pointer (some ⟨b7,0,none⟩)]]) (bz.of rfl) ((vW (Fn:=by infer_instance) hP5 hll (fun e=>Aj ((xs.map (·.t)).map mH) e.en) (fun e _ W hk=>xc e (r7'.kp hk (fun hm=>by have:=hvp _ (aH hm);omega)) (hm5.kp hk (fun hm=>by have:=hvp _ (aH hm);omega)) hM)).mono (fun e w6 hh=>?_))
  obtain⟨he,v',hP6,hk6,hv6⟩:=hh
  refine⟨_,he,?_⟩
  rw[hfl]
  repeat (first|apply aj|(apply ar;rfl;apply aD<;>rfl))
  refine aO (Or.inl rfl) Tryz.results102 (aC.tmp rfl) ?_
  exact⟨rfl,v',_,hP6,hfm,k5.any.trans hk6,hv6⟩
 have g1:(i:Int)<(xs.length:Int):=by omega
 have hS5:Sl bV 13 w5 a xs:=hX4.Jh hk5 (fun hn b off e=>bP (by have:=hX.Oq hn b off e;omega))
 obtain⟨g,o1,rfl,hri⟩:=hS5.at hlt
 have hsu:((xs.map (·.t)).take (i+1)).map mH=((xs.map (·.t)).take i).map mH++[(xs[i].t.frm,xs[i].t.non)]:=by
  rw[List.take_succ_eq_append_getElem (by simpa using hlt),List.map_append,List.getElem_map]
  rfl
 repeat (first|apply aj|(apply ar;rfl;apply cG<;>first|rfl|(apply bK;first|assumption|omega)))
 refine bL rfl ?_
 repeat (first|apply aj|(apply ar;rfl;(first|apply bj|apply fv)<;>first|rfl|(apply Ar.mk;omega)|assumption|exact List.not_mem_nil|apply au))
 refine SG.alloc rfl rfl rfl (fun b9 w6 hk6 hb9 hB9=>?_)
 refine SG.aN (l:=bV xs[i]) rfl rfl (ag rfl) (ag rfl) hB9 (au _) rfl (cC _) (fun w7 hk7 hB9=>?_)
 have k58:Kp [] w5 w7:=hk6.ai hk7 (aV (by omega))
 have r9:Row w7 b9 0 (bV xs[i]):=Row.all hB9 rfl
 obtain⟨q0,q1,-⟩:=nB r9
 simp only[Nat.zero_add] at q0 q1
 have r7':=r7'.ay k58
 have hm8:=hm5.ay k58
 clear hri r9
 have put:(∀n,aB m xs[i].t.frm=some n→n<xs[i].t.non)→nq (cF m xs[i].t.frm xs[i].t.non) (((xs.map (·.t)).take (i+1)).map mH):=fun hn=>by rw[hsu];exact hM.put hn
 cases hlk:aB m xs[i].t.frm with
 |none=>
  have hput:=put (fun n hn=>by rw[hlk] at hn;cases hn)
  repeat (first|apply aj|(apply ar;rfl;(first|apply az|apply aD|apply bf|apply bj|apply aW|apply cu|apply lL|apply dA|apply fZ)<;>first|rfl|assumption|exact List.not_mem_nil|apply ah|exact tv (by assumption)|fail)|refine SG.skip rfl rfl ?_)
  refine bL rfl ?_
  repeat (first|apply aj|(apply ar;rfl;(first|apply bf|apply bj|apply aW)<;>first|rfl|assumption|exact List.not_mem_nil|apply ah))
  refine SG.mapUpdate (enc:=dv (n:=8)) (V:=Ai) (kx:=xs[i].t.frm) (vy:=xs[i].t.non) rfl rfl (ag rfl) (ag rfl) (ag rfl) hm8 gr.key (fun w9 hk9 hm9=>?_)
  repeat (first|apply aj|(apply ar;rfl;(first|apply az|apply dG)<;>first|rfl|(apply Ar.mk;omega)))
  refine NG.round (i+1,_) (aS.of rfl) ⟨by simp only;omega,(hk5.trans k58.any).trans hk9,hm9,hput⟩ (by simp only;omega)
 |some n=>
  by_cases hlt2:n<xs[i].t.non
  ·have hput:=put (fun n' hn=>by rw[hlk] at hn;cases hn;exact hlt2)
   repeat (first|apply aj|(apply ar;rfl;(first|apply az|apply aD|apply bf|apply bj|apply aW|apply cu|apply cG|apply lL|apply dA|apply fZ)<;>first|rfl|assumption|(apply bK;first|assumption|omega)|exact List.not_mem_nil|apply ah|exact kX (by assumption)|fail))
   refine bL rfl ?_
   repeat (first|apply aj|(apply ar;rfl;(first|apply bf|apply bj|apply aW)<;>first|rfl|assumption|exact List.not_mem_nil|apply ah))
   refine SG.mapUpdate (enc:=dv (n:=8)) (V:=Ai) (kx:=xs[i].t.frm) (vy:=xs[i].t.non) rfl rfl (ag rfl) (ag rfl) (ag rfl) hm8 gr.key (fun w9 hk9 hm9=>?_)
   repeat (first|apply aj|(apply ar;rfl;(first|apply az|apply dG)<;>first|rfl|(apply Ar.mk;omega)))
   refine NG.round (i+1,_) (aS.of rfl) ⟨by simp only;omega,(hk5.trans k58.any).trans hk9,hm9,hput⟩ (by simp only;omega)
  ·have hkeep:nq m (((xs.map (·.t)).take (i+1)).map mH):=by rw[hsu];exact hM.wN hlk hlt2
   repeat (first|apply aj|(apply ar;rfl;(first|apply az|apply aD|apply bf|apply bj|apply aW|apply cu|apply cG|apply lL|apply dA|apply fZ)<;>first|rfl|assumption|(apply bN;first|assumption|omega)|exact List.not_mem_nil|apply ah|exact kX (by assumption)|fail))
   refine bG rfl ?_
   repeat (first|apply aj|(apply ar;rfl;(first|apply az|apply dG)<;>first|rfl|(apply Ar.mk;omega)))
   refine NG.round (i+1,m) (aS.of rfl) ⟨by simp only;omega,hk5.trans k58.any,hm8,hkeep⟩ (by simp only;omega)
end
section
def Good(m:Bk):Prop:=∀k,0≤(cg m k).money∧(cg m k).money≤2000000000000000000∧0≤(cg m k).nonce∧(cg m k).nonce≤2000000000000000000
def oo(k:Dg)(p:Pu):Ac:=⟨k,p.money,p.nonce⟩
theorem IW(w:World)(a0 a1 a2 a3 a4 a5 a6 a7:UInt8)(x y:Int):(Instr.build 59 #[(0,.agg #[bv a0,bv a1,bv a2,bv a3,bv a4,bv a5,bv a6,bv a7]),(1,Value.int .i64 x),(2,Value.int .i64 y)]).run Tryz.prog w=
  .ok (.agg #[bv a0,bv a1,bv a2,bv a3,bv a4,bv a5,bv a6,bv a7,Value.int .i64 x,Value.int .i64 y]) w:=by kernel_rfl
theorem PI(w:World)(k:Dg)(x y:Int):(Instr.build 59 #[(0,dv k),(1,Value.int .i64 x),(2,Value.int .i64 y)]).run Tryz.prog w= .ok (Fl ⟨k,x,y⟩) w:=by
 obtain⟨la,ha⟩:=k
 match la,ha with
 |[a0,a1,a2,a3,a4,a5,a6,a7],_=>exact IW w a0 a1 a2 a3 a4 a5 a6 a7 x y
theorem ji{w:World}{b:Nat}{T:TypeId}{p:Pu}(h:aF w b (.cells (tu p).toArray T)):Row w b 0 [.int .i64 p.money]∧Row w b 1 [.int .i64 p.nonce]∧Row w b 0 (tu p):=
 ⟨Row.of h [] [.int .i64 p.nonce] rfl rfl,Row.of h [.int .i64 p.money] [] rfl rfl,Row.all h rfl⟩
theorem te{w:World}{b:Nat}{T:TypeId}{e:Ac}(h:aF w b (.cells (acl e).toArray T)):Row w b 0 (dc e.key)∧Row w b 8 [.int .i64 e.money]∧Row w b 9 [.int .i64 e.nonce]∧Row w b 0 (acl e):=
 ⟨Row.of h [] [.int .i64 e.money,.int .i64 e.nonce] (by simp[acl]) rfl,Row.of h (dc e.key) [.int .i64 e.nonce] (by simp[acl]) (ah _),Row.of h (dc e.key++[.int .i64 e.money]) [] (by simp[acl]) (by simp[ah]),Row.all h rfl⟩
attribute [local irreducible] CG NG SG aK aI Row aF aE aM
theorem mW{w:World}{bt bm:Nat}{m:Bk}(hB:bS w bt bm m)(k:Dg):dz Tryz.prog 19 #[.pointer (some ⟨bt,0,none⟩),dv k] w (Fl (oo k (cg m k))):=by
 refine bJ Tryz.func19 rfl Tryz.ntmps19 rfl ?_
 repeat apply aj
 refine SG.box rfl rfl rfl (ag rfl) (fun b3 w1 hk1 hb3 hB3=>?_)
 refine SG.alloc rfl rfl rfl (fun b4 w2 hk2 hb4 hB4=>?_)
 have hR3:Row w2 b3 0 (dc k):=Row.all (hB3.ay hk2) rfl
 have h2:=(hB.ay hk1).ay hk2
 have hr0:=h2.r0
 have hm:=h2.map
 repeat (first|apply aj|(apply ar;rfl;(first|apply az|apply iC)<;>rfl))
 refine bG rfl ?_
 repeat apply aj
 refine CG.gZ mixed [0,1,2,3,4,5] [(6,7,5,.tmp 15)] (by kernel_rfl) (by kernel_rfl) ?_
 repeat (apply bZ;rfl;rfl;(first|apply az|apply bf|apply bj|apply aW|apply bM|apply qu)<;>first|rfl|assumption|exact List.not_mem_nil|apply ah|exact Hx)
 refine aI.one (fC.of (by rfl) rfl rfl rfl (ag rfl) rfl (by rfl) rfl) (fun b5 w3 hk3 hb5 hB5=>?_)
 obtain⟨q0,q1,q2⟩:=ji hB5
 have hR3:=hR3.ay hk3
 repeat (first|apply aj|(apply ar;rfl;(first|apply bf|apply bj|apply aW)<;>first|rfl|assumption|exact List.not_mem_nil|apply ah))
 refine SG.val rfl rfl rfl rfl (aG rfl (fun w=>PI w k (cg m k).money (cg m k).nonce)) ?_
 refine SG.aN (old:=acl ⟨zd,0,0⟩) (l:=acl (oo k (cg m k))) rfl rfl (ag rfl) (ag rfl) (hB4.ay hk3) (aX _) (aX _) (nh _) (fun w4 hk4 hB4=>?_)
 have hR4:Row w4 b4 0 (acl (oo k (cg m k))):=Row.all hB4 rfl
 repeat apply aj
 refine aO (Or.inl rfl) Tryz.results19 (by exact aC.agg rfl rfl (by assumption) (by first|exact ah _|exact nc_length _|exact rc_length _ _ _|exact aL _|exact dl_length _ _ _ _|exact aX _|exact aU _|exact bC _|exact au _|rfl)) ?_
 have:=hk1.size
 have:=hk2.size
 exact⟨rfl,((hk1.trans hk2).trans hk3).ai hk4 (by first|exact aV (by omega)|exact gj (by omega) (by omega))⟩
def lz(m:Bk)(f:Dg)(n:Int):Int:=if n<0∨1125899906842624<n then 2 else if(cg m f).money<n then 21 else 0
def lP(m:Bk)(f t:Dg)(n:Int):Bk:=if lz m f n=0∧f≠t then gJ (gJ m f ⟨(cg m f).money-n,(cg m f).nonce⟩) t ⟨(cg m t).money+n,(cg m t).nonce⟩ else m
theorem lX{w:World}{bt bm:Nat}{m:Bk}(hB:bS w bt bm m)(hg:Good m)(f t:Dg)(n:Int):Calls Tryz.prog 120 #[.pointer (some ⟨bt,0,none⟩),dv f,dv t,.int .i64 n] w (fun e w'=>e= .returned (.int .i64 (lz m f n))∧bS w' bt bm (lP m f t n)∧Kp [bm] w w'):=by
 refine nV Tryz.func120 rfl Tryz.ntmps120 rfl ?_
 have hne:=hB.ne
 have hgf:=hg f
 have hgt:=hg t
 have lt1:=hB.blk.lt
 have lt2:=hB.map.lt
 repeat apply aj
 refine SG.box rfl rfl rfl (ag rfl) (fun b5 w1 hk1 hb5 hB5=>?_)
 refine SG.box rfl rfl rfl (ag rfl) (fun b6 w2 hk2 hb6 hB6=>?_)
 have hR5:Row w2 b5 0 (dc f):=Row.all (hB5.ay hk2) rfl
 have hR6:Row w2 b6 0 (dc t):=Row.all hB6 rfl
 have h2:=(hB.ay hk1).ay hk2
 have hr0:=h2.r0
 have hm:=h2.map
 have s1:=hk1.size
 have s2:=hk2.size
 repeat (first|apply aj|(apply ar;rfl;(first|apply az|apply aD|apply iC)<;>rfl))
 refine bG rfl ?_
 by_cases hbad:n<0∨1125899906842624<n
 ·have hcase:n<0∨(¬n<0∧1125899906842624<n):=by omega
  have e2:lz m f n=2:=by unfold lz;rw[if_pos hbad]
  have eM:lP m f t n=m:=by unfold lP;rw[if_neg (by rw[e2];simp)]
  rcases hcase with g1|⟨g1,g2⟩
  all_goals
   repeat (first|apply aj|(apply ar;rfl;(first|apply az|apply cu|apply cG|apply fW)<;>first|rfl|(apply bK;first|assumption|omega)|(apply bN;first|assumption|omega))|refine SG.skip rfl rfl ?_)
   refine bL rfl ?_
   repeat (first|apply aj|(apply ar;rfl;apply aD<;>rfl))
   refine aO (Or.inl rfl) Tryz.results120 (aC.tmp rfl) ?_
   exact⟨by rw[e2],by rw[eM];exact h2,(hk1.trans hk2).any⟩
 have g1:¬n<0:=fun h=>hbad (Or.inl h)
 have g2:¬1125899906842624<n:=fun h=>hbad (Or.inr h)
 repeat (first|apply aj|(apply ar;rfl;(first|apply az|apply cu|apply cG|apply fW)<;>first|rfl|(apply bN;first|assumption|omega)))
 refine bG rfl ?_
 repeat apply aj
 refine CG.gZ mixed [0,1,2,3,4,5] [(6,7,9,.tmp 24)] (by kernel_rfl) (by kernel_rfl) ?_
 repeat (apply bZ;rfl;rfl;(first|apply az|apply bf|apply bj|apply aW|apply bM|apply qu)<;>first|rfl|assumption|exact List.not_mem_nil|apply ah|exact Hx)
 refine aI.one (fC.of (by rfl) rfl rfl rfl (ag rfl) rfl (by rfl) rfl) (fun b9 w3 hk3 hb9 hB9=>?_)
 obtain⟨q0,q1,q2⟩:=ji hB9
 have h3:=h2.ay hk3
 have s3:=hk3.size
 by_cases g3:(cg m f).money<n
 ·have e2:lz m f n=21:=by unfold lz;rw[if_neg hbad,if_pos g3]
  have eM:lP m f t n=m:=by unfold lP;rw[if_neg (by rw[e2];simp)]
  repeat (first|apply aj|(apply ar;rfl;(first|apply az|apply bf|apply aW|apply cG)<;>first|rfl|assumption|(apply bK;first|assumption|omega)|exact List.not_mem_nil))
  refine bL rfl ?_
  repeat (first|apply aj|(apply ar;rfl;apply aD<;>rfl))
  refine aO (Or.inl rfl) Tryz.results120 (aC.tmp rfl) ?_
  exact⟨by rw[e2],by rw[eM];exact h3,((hk1.trans hk2).trans hk3).any⟩
 have e0:lz m f n=0:=by unfold lz;rw[if_neg hbad,if_neg g3]
 have hR5:=hR5.ay hk3
 have hR6:=hR6.ay hk3
 have hr0:=h3.r0
 have hm:=h3.map
 repeat (first|apply aj|(apply ar;rfl;(first|apply az|apply bf|apply aW|apply cG)<;>first|rfl|assumption|(apply bN;first|assumption|omega)|exact List.not_mem_nil))
 refine bG rfl ?_
 by_cases g4:f=t
 ·have eM:lP m f t n=m:=by unfold lP;rw[if_neg (by simp[g4])]
  repeat (first|apply aj|(apply ar;rfl;(first|apply bj|apply zf)<;>first|rfl|assumption|(apply bK;first|assumption|omega)|exact List.not_mem_nil|apply ah))
  refine bL rfl ?_
  repeat (first|apply aj|(apply ar;rfl;apply aD<;>rfl))
  refine aO (Or.inl rfl) Tryz.results120 (aC.tmp rfl) ?_
  exact⟨by rw[e0],by rw[eM];exact h3,((hk1.trans hk2).trans hk3).any⟩
 have eM:lP m f t n=gJ (gJ m f ⟨(cg m f).money-n,(cg m f).nonce⟩) t ⟨(cg m t).money+n,(cg m t).nonce⟩:=by unfold lP;rw[if_pos ⟨e0,g4⟩]
 repeat (first|apply aj|(apply ar;rfl;(first|apply bj|apply zf)<;>first|rfl|assumption|(apply bN;first|assumption|omega)|exact List.not_mem_nil|apply ah))
 refine bG rfl ?_
 repeat apply aj
 refine CG.gZ mixed [0,1,2,3,4,5] [(6,7,10,.tmp 37)] (by kernel_rfl) (by kernel_rfl) ?_
 repeat (apply bZ;rfl;rfl;(first|apply az|apply bf|apply bj|apply aW|apply bM|apply qu)<;>first|rfl|assumption|exact List.not_mem_nil|apply ah|exact Hx)
 refine aI.one (fC.of (by rfl) rfl rfl rfl (ag rfl) rfl (by rfl) rfl) (fun b10 w4 hk4 hb10 hB10=>?_)
 have q0:=q0.ay hk4
 have s4:=hk4.size
 have l9:=hB9.lt
 repeat (first|apply aj|(apply ar;rfl;(first|apply az|apply bf|apply aW|apply xL)<;>first|rfl|(apply Ar.mk;omega)|assumption|exact List.not_mem_nil))
 refine SG.cr [] [.int .i64 (cg m f).money] [.int .i64 (cg m f).nonce] rfl rfl (ag rfl) (ag rfl) (hB9.ay hk4) rfl rfl rfl rfl rfl (fun w5 hk5 hB9=>?_)
 have hB9:aF w5 b9 (.cells (tu ⟨(cg m f).money-n,(cg m f).nonce⟩).toArray 133):=hB9
 obtain⟨r0,r1,r2⟩:=ji (hB10.kp hk5 (bP (by omega)))
 repeat (first|apply aj|(apply ar;rfl;(first|apply az|apply bf|apply aW|apply dG)<;>first|rfl|(apply Ar.mk;omega)|assumption|exact List.not_mem_nil))
 refine SG.cr [] [.int .i64 (cg m t).money] [.int .i64 (cg m t).nonce] rfl rfl (ag rfl) (ag rfl) (hB10.kp hk5 (bP (by omega))) rfl rfl rfl rfl rfl (fun w6 hk6 hB10=>?_)
 have hB10:aF w6 b10 (.cells (tu ⟨(cg m t).money+n,(cg m t).nonce⟩).toArray 133):=hB10
 have hB9:=hB9.kp hk6 (bP (by omega))
 obtain⟨_,_,r9⟩:=ji hB9
 have k26:Kp [] w2 w6:=((hk3.trans hk4).ai hk5 (aV (by omega))).ai hk6 (aV (by omega))
 have h6:=h2.ay k26
 have s6:=k26.size
 have hR5:Row w6 b5 0 (dc f):=(Row.all (hB5.ay hk2) rfl:Row w2 b5 0 (dc f)).ay k26
 have hB6':=hB6.ay k26
 have l5:=hB5.lt
 have l6:=hB6.lt
 have n1:b6≠bm:=by omega
 have n2:b10≠bm:=by omega
 repeat (first|apply aj|(apply ar;rfl;(first|apply az|apply bj)<;>first|rfl|assumption|exact List.not_mem_nil|apply ah))
 refine SG.call rfl rfl rfl (by repeat' (first|exact True.intro|exact ag rfl|refine And.intro ?_ ?_)) ((kM h6 f ⟨(cg m f).money-n,(cg m f).nonce⟩ (by unfold Pu.Fit;simp only;omega)).mono (fun e w7 hh=>?_))
 obtain⟨he7,h7,hk7⟩:=hh
 refine⟨_,he7,?_⟩
 have hR6:Row w7 b6 0 (dc t):=(Row.all hB6' rfl:Row w6 b6 0 (dc t)).kp hk7 (bP n1)
 obtain⟨_,_,r10⟩:=ji (hB10.kp hk7 (bP n2))
 repeat (first|apply aj|(apply ar;rfl;(first|apply az|apply bj)<;>first|rfl|assumption|exact List.not_mem_nil|apply ah))
 refine SG.call rfl rfl rfl (by repeat' (first|exact True.intro|exact ag rfl|refine And.intro ?_ ?_)) ((kM h7 t ⟨(cg m t).money+n,(cg m t).nonce⟩ (by unfold Pu.Fit;simp only;omega)).mono (fun e w8 hh=>?_))
 obtain⟨he8,h8,hk8⟩:=hh
 refine⟨_,he8,?_⟩
 repeat (first|apply aj|(apply ar;rfl;apply aD<;>rfl))
 refine aO (Or.inl rfl) Tryz.results120 (aC.tmp rfl) ?_
 exact⟨by rw[e0],by rw[eM];exact h8,(((hk1.trans hk2).trans k26).any.trans hk7).trans hk8⟩
def qN(m:Bk)(k:Dg)(n:Int):Int:=if n<(cg m k).nonce then 17 else if(cg m k).nonce<n then 20 else if 1099511627776≤n then 2 else 0
def ou(m:Bk)(k:Dg)(n:Int):Bk:=if qN m k n=0 then gJ m k ⟨(cg m k).money,(cg m k).nonce+1⟩ else m
theorem zT{w:World}{bt bm:Nat}{m:Bk}(hB:bS w bt bm m)(hg:Good m)(k:Dg)(n:Int):Calls Tryz.prog 119 #[.pointer (some ⟨bt,0,none⟩),dv k,.int .i64 n] w (fun e w'=>e= .returned (.int .i64 (qN m k n))∧bS w' bt bm (ou m k n)∧Kp [bm] w w'):=by
 refine ey Tryz.func119 rfl Tryz.ntmps119 rfl ?_
 have hne:=hB.ne
 have hgk:=hg k
 have lt1:=hB.blk.lt
 have lt2:=hB.map.lt
 repeat apply aj
 refine SG.box rfl rfl rfl (ag rfl) (fun b4 w1 hk1 hb4 hB4=>?_)
 have hR4:Row w1 b4 0 (dc k):=Row.all hB4 rfl
 have h1:=hB.ay hk1
 have hr0:=h1.r0
 have hm:=h1.map
 have s1:=hk1.size
 repeat (first|apply aj|(apply ar;rfl;(first|apply az|apply aD|apply iC)<;>rfl))
 refine bG rfl ?_
 repeat apply aj
 refine CG.gZ mixed [0,1,2,3,4,5] [(6,7,7,.tmp 15)] (by kernel_rfl) (by kernel_rfl) ?_
 repeat (apply bZ;rfl;rfl;(first|apply az|apply bf|apply bj|apply aW|apply bM|apply qu)<;>first|rfl|assumption|exact List.not_mem_nil|apply ah|exact Hx)
 refine aI.one (fC.of (by rfl) rfl rfl rfl (ag rfl) rfl (by rfl) rfl) (fun b7 w2 hk2 hb7 hB7=>?_)
 obtain⟨q0,q1,q2⟩:=ji hB7
 have h2:=h1.ay hk2
 have s2:=hk2.size
 by_cases g1:n<(cg m k).nonce
 ·have e2:qN m k n=17:=by unfold qN;rw[if_pos g1]
  have eM:ou m k n=m:=by unfold ou;rw[if_neg (by rw[e2];decide)]
  repeat (first|apply aj|(apply ar;rfl;(first|apply az|apply aD|apply bf|apply aW|apply cG)<;>first|rfl|assumption|(apply bK;first|assumption|omega)|exact List.not_mem_nil))
  refine bL rfl ?_
  repeat (first|apply aj|(apply ar;rfl;apply aD<;>rfl))
  refine aO (Or.inl rfl) Tryz.results119 (aC.tmp rfl) ?_
  exact⟨by rw[e2],by rw[eM];exact h2,(hk1.trans hk2).any⟩
 repeat (first|apply aj|(apply ar;rfl;(first|apply az|apply aD|apply bf|apply aW|apply cG)<;>first|rfl|assumption|(apply bN;first|assumption|omega)|exact List.not_mem_nil))
 refine bG rfl ?_
 by_cases g2:(cg m k).nonce<n
 ·have e2:qN m k n=20:=by unfold qN;rw[if_neg g1,if_pos g2]
  have eM:ou m k n=m:=by unfold ou;rw[if_neg (by rw[e2];decide)]
  repeat (first|apply aj|(apply ar;rfl;(first|apply az|apply aD|apply bf|apply aW|apply fW)<;>first|rfl|assumption|(apply bK;first|assumption|omega)|exact List.not_mem_nil))
  refine bL rfl ?_
  repeat (first|apply aj|(apply ar;rfl;apply aD<;>rfl))
  refine aO (Or.inl rfl) Tryz.results119 (aC.tmp rfl) ?_
  exact⟨by rw[e2],by rw[eM];exact h2,(hk1.trans hk2).any⟩
 repeat (first|apply aj|(apply ar;rfl;(first|apply az|apply aD|apply bf|apply aW|apply fW)<;>first|rfl|assumption|(apply bN;first|assumption|omega)|exact List.not_mem_nil))
 refine bG rfl ?_
 by_cases g3:1099511627776≤n
 ·have e2:qN m k n=2:=by unfold qN;rw[if_neg g1,if_neg g2,if_pos g3]
  have eM:ou m k n=m:=by unfold ou;rw[if_neg (by rw[e2];decide)]
  repeat (first|apply aj|(apply ar;rfl;(first|apply az|apply aD|apply jN)<;>first|rfl|(apply bK;first|assumption|omega)))
  refine bL rfl ?_
  repeat (first|apply aj|(apply ar;rfl;apply aD<;>rfl))
  refine aO (Or.inl rfl) Tryz.results119 (aC.tmp rfl) ?_
  exact⟨by rw[e2],by rw[eM];exact h2,(hk1.trans hk2).any⟩
 have e0:qN m k n=0:=by unfold qN;rw[if_neg g1,if_neg g2,if_neg g3]
 have eM:ou m k n=gJ m k ⟨(cg m k).money,(cg m k).nonce+1⟩:=by unfold ou;rw[if_pos e0]
 repeat (first|apply aj|(apply ar;rfl;(first|apply az|apply aD|apply jN)<;>first|rfl|(apply bN;first|assumption|omega)))
 refine bG rfl ?_
 repeat (first|apply aj|(apply ar;rfl;(first|apply bf|apply aW|apply dG)<;>first|rfl|(apply Ar.mk;omega)|assumption|exact List.not_mem_nil))
 refine SG.cr [.int .i64 (cg m k).money] [.int .i64 (cg m k).nonce] [] rfl rfl (ag rfl) (ag rfl) hB7 rfl rfl rfl rfl rfl (fun w3 hk3 hB7=>?_)
 have hB7:aF w3 b7 (.cells (tu ⟨(cg m k).money,(cg m k).nonce+1⟩).toArray 133):=hB7
 obtain⟨_,_,r7⟩:=ji hB7
 have k13:Kp [] w1 w3:=hk2.ai hk3 (aV (by omega))
 have hR4:=hR4.ay k13
 repeat (first|apply aj|(apply ar;rfl;(first|apply az|apply bj)<;>first|rfl|assumption|exact List.not_mem_nil|apply ah))
 refine SG.call rfl rfl rfl (by repeat' (first|exact True.intro|exact ag rfl|refine And.intro ?_ ?_)) ((kM (h1.ay k13) k ⟨(cg m k).money,(cg m k).nonce+1⟩ (by unfold Pu.Fit;simp only;omega)).mono (fun e w4 hh=>?_))
 obtain⟨he4,h4,hk4⟩:=hh
 refine⟨_,he4,?_⟩
 repeat (first|apply aj|(apply ar;rfl;apply aD<;>rfl))
 refine aO (Or.inl rfl) Tryz.results119 (aC.tmp rfl) ?_
 exact⟨by rw[e0],by rw[eM];exact h4,(hk1.trans k13).any.trans hk4⟩
end
section
theorem Good.fit{m:Bk}(h:Good m)(k:Dg):(cg m k).Fit:=by
 have:=h k
 unfold Pu.Fit
 omega
theorem pg{m:Bk}(hn:(m.map (·.1)).Nodup){p:Dg×Pu}(hp:p∈m):cg m p.1=p.2:=by
 unfold cg
 rw[dE hn hp]
 rfl
def tot(m:Bk):Int:=(m.map (fun p=>p.2.money)).sum
theorem du(p:Dg×Pu)(b:Bk):tot (p::b)=p.2.money+tot b:=by simp[tot]
theorem AU{m:Bk}(h:∀p∈m,0≤p.2.money):0≤tot m:=by
 induction m with
 |nil=>simp[tot]
 |cons p m ih=>
  rw[du]
  have:=h p (by simp)
  have:=ih (fun q hq=>h q (by simp[hq]))
  omega
theorem SG.mM{P:Program}{n:Nat}{Q:Exit→Act→World→Prop}{L:Env}{w:World}{ops:List Oper}{rest:List Oper}{ty:TypeId}{pos:String}{af:Array Edge}{g:Option (Nat×Bool)}{κ ν:Type}(enc:κ→Value)(V:ν→Value){d:Nat}{T k E:TypeId}[u:Ut P T (.map k E)]{x:Operand}{q:IntKind}{z:Int}(hd:Nat.blt d n=true)(hw:want ops L ⟨some d,.makeMap T (some x),ty,pos,af,g⟩=some true)
  (hk:known L x=true) (hx:bB L x= .int q z) (h:∀b w',Kp [] w w'→w.heap.size≤b→aE w' b enc V []→SG P n ops Q rest ((d,.map (some b))::L) w'):SG P n ops Q (⟨some d,.makeMap T (some x),ty,pos,af,g⟩::rest) L w:=by
 refine SG.op (by simpa using hd) rfl hw (by simpa[Op.operands] using hk) ?_
 unfold bh
 have:(execOp (bB L) ⟨some d,.makeMap T (some x),ty,pos,af,g⟩).run P w= .ok (.value (.map (some w.heap.size))) {w with heap:=w.heap.push (.map #[] 0)}:=by
  simp only[execOp,Option.map_some,hx,Sem.run_bind,mv (u:=u),Result.andThen,Sem.run_pure]
 rw[this]
 exact h w.heap.size _ (Kp.push w _ rfl) (Nat.le_refl _) (aE.made w enc V)
attribute [local irreducible] CG NG SG aK aI Row aF aE aM
theorem IV(w:World)(bm:Nat):(Instr.build 136 #[(0,Value.map (some bm))]).run Tryz.prog w= .ok (.agg #[Value.map (some bm)]) w:=by kernel_rfl
theorem jz{κ ν:Type}[DecidableEq κ]{m m':List (κ×ν)}(hp:m.Perm m')(hn:(m.map (·.1)).Nodup)(x:κ):aB m x=aB m' x:=by
 have hn':(m'.map (·.1)).Nodup:=(hp.map _).nodup_iff.1 hn
 cases h:aB m x with
 |none=>
  rw[dV] at h
  symm
  rw[dV]
  exact fun p hp'=>h p (hp.mem_iff.2 hp')
 |some y=>
  have:∃p∈m,p.1=x∧p.2=y:=by
   clear hn hn' hp
   induction m with
   |nil=>simp[aB] at h
   |cons p m ih=>
    obtain⟨k,v⟩:=p
    by_cases e:k=x
    ·simp only[aB,e,if_true,Option.some.injEq] at h
     exact⟨(k,v),by simp,e,h⟩
    ·simp only[aB,e,if_false] at h
     obtain⟨p,hp,h1⟩:=ih h
     exact⟨p,by simp[hp],h1⟩
  obtain⟨p,hpm,rfl,rfl⟩:=this
  exact(dE hn' (hp.mem_iff.1 hpm)).symm
theorem ju{w:World}{bt bm:Nat}{m:Bk}(hT:bS w bt bm m):Calls Tryz.prog 54 #[.pointer (some ⟨bt,0,none⟩)] w (fun e w'=>∃bt' bm' m',e= .returned (.pointer (some ⟨bt',0,none⟩))∧bS w' bt' bm' m'∧m'.Perm m∧w.heap.size≤bt'∧w.heap.size≤bm'∧Kp [] w w'):=by
 refine bA Tryz.func54 rfl Tryz.ntmps54 rfl ?_
 have hr0:=hT.r0
 have hm:=hT.map
 repeat (first|apply aj|(apply ar;rfl;(first|apply az|apply aD|apply iC)<;>rfl))
 refine bG rfl ?_
 repeat (first|apply aj|(apply ar;rfl;(first|apply az|apply bf|apply aW|apply bM|apply D7)<;>first|rfl|assumption|exact List.not_mem_nil))
 refine SG.mM (dv (n:=8)) qV rfl rfl rfl (ag rfl) (fun bm' w1 hk1 hbm' hm'=>?_)
 refine SG.val rfl rfl rfl rfl (aG rfl (fun w=>IV w bm')) ?_
 refine SG.box rfl rfl rfl (ag rfl) (fun bt' w2 hk2 hbt' hBt'=>?_)
 have hT1:=(hT.ay hk1).ay hk2
 have hr0:=hT1.r0
 repeat (first|apply aj|(apply ar;rfl;(first|apply az|apply aD|apply bf|apply aW|apply bM)<;>first|rfl|assumption|exact List.not_mem_nil))
 refine SG.range rfl rfl rfl (ag rfl) hT1.map (fun r w3 hk3 hr3 hI=>?_)
 have eT:=hT.blk.lt
 have eM:=hT.map.lt
 have s1:=hk1.size
 have s2:=hk2.size
 have e1:=hm'.lt
 have e2:=hBt'.lt
 have hT3:=hT1.ay hk3
 have hm':=(hm'.ay hk2).ay hk3
 have hBt':=hBt'.ay hk3
 have hk:=(hk1.trans hk2).trans hk3
 have hnd:=hT.map.nodup
 repeat apply aj
 refine CG.loop (X:=Bk×Bk×Option (Dg×Pu)) (fun _=>[(0,.pointer (some ⟨bt,0,none⟩)),(3,.pointer (some ⟨bt',0,none⟩)),(20,.pointer (some ⟨r,0,none⟩))])
  (fun x w'=>Kp [] w w'∧w3.heap.size≤w'.heap.size∧bS w' bt bm m∧aM w' r bm (dv (n:=8)) qV m x.2.1 x.2.2∧bS w' bt' bm' x.1∧(x.1++x.2.1).Perm m)
  (fun x=>x.2.1.length) ([],m,none) ⟨hk,Nat.le_refl _,hT3,hI,⟨hBt',hm'⟩,by simp⟩ (aS.of rfl) ?_
 rintro⟨done,left,cur⟩ w4 ⟨hk,hsz,hT4,hI,hC,hp⟩
 simp only at hI hC hp
 have eI:=hI.Dw
 repeat apply aj
 refine SG.next rfl rfl rfl (ag rfl) hI (fun h0=>?_) (fun pre p post w5 hl hk5 hI5=>?_)
 ·repeat (first|apply aj|(apply ar;rfl;apply dA<;>rfl))
  refine bG rfl ?_
  repeat (first|apply aj|(apply ar;rfl;(first|apply az|apply aD)<;>rfl))
  refine aO (Or.inl rfl) Tryz.results54 (aC.tmp rfl) ?_
  subst h0
  rw[List.append_nil] at hp
  exact⟨bt',bm',_,rfl,hC,hp,by omega,by omega,hk⟩
 ·repeat (first|apply aj|(apply ar;rfl;apply dA<;>rfl))
  refine bL rfl ?_
  repeat (first|apply aj|(apply ar;rfl;(first|apply dA|apply Ge)<;>first|rfl|assumption|exact List.not_mem_nil))
  refine SG.alloc rfl rfl rfl (fun b4 w6 hk6 hb4 hB4=>?_)
  refine SG.alloc rfl rfl rfl (fun b5 w7 hk7 hb5 hB5=>?_)
  have eT:=hT4.blk.lt
  have eM:=hT4.map.lt
  have eC:=hC.blk.lt
  have eD:=hC.map.lt
  have s5:=hk5.size
  have s6:=hk6.size
  have e4:=hB4.lt
  refine SG.aN (old:=dc zd) rfl rfl (ag rfl) (ag rfl) (hB4.ay hk7) (ah _) (ah _) (bu _) (fun w8 hk8 hB4=>?_)
  refine SG.aN (old:=tu pz) rfl rfl (ag rfl) (ag rfl) (hB5.kp hk8 (by first|exact bP (by omega)|exact fG (by omega) (by omega))) rfl rfl rfl (fun w9 hk9 hB5=>?_)
  have hB4:=hB4.kp hk9 (by first|exact bP (by omega)|exact fG (by omega) (by omega))
  have hk59:=((hk6.trans hk7).ai hk8 (by first|exact aV (by omega)|exact gj (by omega) (by omega))).ai hk9 (by first|exact aV (by omega)|exact gj (by omega) (by omega))
  have hT9:=(hT4.kp hk5 (by first|exact bP (by omega)|exact fG (by omega) (by omega)) (by first|exact bP (by omega)|exact fG (by omega) (by omega))).ay hk59
  have hC9:=(hC.kp hk5 (by first|exact bP (by omega)|exact fG (by omega) (by omega)) (by first|exact bP (by omega)|exact fG (by omega) (by omega))).ay hk59
  have hI9:=hI5.ay hk59
  have s9:=hk59.size
  have hk:=hk.ai (hk5.trans hk59.any) (by first|exact aV (by omega)|exact gj (by omega) (by omega))
  have hR4:Row w9 b4 0 (dc p.1):=Row.all hB4 rfl
  have hR5:Row w9 b5 0 (tu p.2):=Row.all hB5 rfl
  have hr0:=hC9.r0
  repeat apply aj
  refine CG.tail mixed 6 [0,1,2,3,4,5] (by kernel_rfl) ?_
  repeat (apply bZ;rfl;rfl;(first|apply az|apply bf|apply bj|apply aW|apply bM)<;>first|rfl|assumption|exact List.not_mem_nil|apply ah)
  refine aI.tl (fun w10 hk10 _ _=>?_)
  have hT10:=hT9.ay hk10
  have hC10:=hC9.ay hk10
  have hI10:=hI9.ay hk10
  have s10:=hk10.size
  refine SG.mapUpdate (enc:=dv (n:=8)) (V:=qV) (kx:=p.1) (vy:=p.2) rfl rfl (ag rfl) (ag rfl) (ag rfl) hC10.map gr.key (fun w11 hk11 hm11=>?_)
  repeat apply aj
  have hp2:(done++p::(pre++post)).Perm m:=by
   refine List.Perm.trans ?_ hp
   rw[hl]
   exact List.Perm.append_left done (List.perm_middle.symm)
  have hnone:aB done p.1=none:=by
   rw[dV]
   intro q hq e
   have hn2:((done++p::(pre++post)).map (·.1)).Nodup:=(hp2.map _).nodup_iff.2 hnd
   rw[List.map_append,List.map_cons] at hn2
   exact(List.nodup_append.1 hn2).2.2 q.1 (List.mem_map.2 ⟨q,hq,rfl⟩) p.1 (by simp) e
  rw[hZ _ hnone] at hm11
  have s11:=hk11.size
  exact NG.round (done++[p],pre++post,some p) (aS.of rfl) ⟨(hk.trans hk10).ai hk11 (by first|exact aV (by omega)|exact gj (by omega) (by omega)),by omega,hT10.kp hk11 (by first|exact bP (by omega)|exact fG (by omega) (by omega)) (by first|exact bP (by omega)|exact fG (by omega) (by omega)),hI10.kp hk11 (by first|exact bP (by omega)|exact fG (by omega) (by omega)) (by first|exact bP (by omega)|exact fG (by omega) (by omega)),⟨hC10.blk.kp hk11 (by first|exact bP (by omega)|exact fG (by omega) (by omega)),hm11⟩,by simpa using hp2⟩ (by simp only[hl];simp)
def jS(m m':Bk):Bool:=decide (m.length=m'.length)&&m.all (fun p=>decide (cg m' p.1=p.2))
theorem uX{w:World}{bt bm bt' bm':Nat}{m m':Bk}(hT:bS w bt bm m)(hT':bS w bt' bm' m')(hg:Good m)(hg':Good m'):dz Tryz.prog 32 #[.pointer (some ⟨bt,0,none⟩),.pointer (some ⟨bt',0,none⟩)] w (.bool (jS m m')):=by
 refine bJ Tryz.func32 rfl Tryz.ntmps32 rfl ?_
 repeat (first|apply aj|(apply ar;rfl;(first|apply az|apply aD|apply cu|apply iC)<;>rfl))
 refine bG rfl ?_
 repeat apply aj
 have hr0:=hT.r0
 have hm:=hT.map
 have kr0:=hT'.r0
 have km:=hT'.map
 refine CG.eQ mixed [0,1,2,3,4,5,6,7,8,9,10] [] (by kernel_rfl) ?_
 by_cases h4:(m.length:Int)=(m'.length:Int)
 case neg=>
  repeat (apply bZ;rfl;rfl;(first|apply az|apply bf|apply aW|apply bM|apply dK|apply D7)<;>first|rfl|assumption|(apply bN;first|assumption|omega)|exact List.not_mem_nil)
  refine aI.fin (fun w1 hk1 _ _=>?_)
  repeat apply aj
  refine bL rfl ?_
  repeat (first|apply aj|(apply ar;rfl;apply aD<;>rfl))
  have h4':¬m.length=m'.length:=by omega
  refine aO (Or.inl rfl) Tryz.results32 (aC.tmp rfl) ?_
  exact⟨by simp[jS,h4'],hk1⟩
 repeat (apply bZ;rfl;rfl;(first|apply az|apply bf|apply aW|apply bM|apply dK|apply D7)<;>first|rfl|assumption|(apply bK;first|assumption|omega)|exact List.not_mem_nil)
 refine aI.fin (fun w1 hk1 _ _=>?_)
 repeat apply aj
 refine bG rfl ?_
 have hT1:=hT.ay hk1
 have hr0:=hT1.r0
 have hnd:=hT.map.nodup
 repeat (first|apply aj|(apply ar;rfl;(first|apply az|apply bf|apply aW|apply bM)<;>first|rfl|assumption|exact List.not_mem_nil))
 refine SG.range rfl rfl rfl (ag rfl) hT1.map (fun r w2 hk2 hr2 hI=>?_)
 repeat apply aj
 have h4':m.length=m'.length:=by omega
 have eT:=hT.blk.lt
 have eM:=hT.map.lt
 have eT':=hT'.blk.lt
 have eM':=hT'.map.lt
 have s1:=hk1.size
 refine CG.loop (X:=Bk×Option (Dg×Pu)) (fun _=>[(0,.pointer (some ⟨bt,0,none⟩)),(1,.pointer (some ⟨bt',0,none⟩)),(34,.pointer (some ⟨r,0,none⟩))])
  (fun x w'=>Kp [] w w'∧aM w' r bm (dv (n:=8)) qV m x.1 x.2∧(∀p∈x.1,p∈m)∧(∀p∈m,p∈x.1∨cg m' p.1=p.2))
  (fun x=>x.1.length) (m,none) ⟨hk1.trans hk2,hI,fun p hp=>hp,fun p hp=>Or.inl hp⟩ (aS.of rfl) ?_
 rintro⟨left,cur⟩ w3 ⟨hk,hI,hin,hall⟩
 simp only at hI hin hall
 have eI:=hI.Dw
 repeat apply aj
 refine SG.next rfl rfl rfl (ag rfl) hI (fun h0=>?_) (fun pre p post w4 hl hk4 hI4=>?_)
 ·repeat (first|apply aj|(apply ar;rfl;apply dA<;>rfl))
  refine bG rfl ?_
  repeat (first|apply aj|(apply ar;rfl;apply aD<;>rfl))
  refine aO (Or.inl rfl) Tryz.results32 (aC.tmp rfl) ?_
  subst h0
  have:jS m m'=true:=by
   simp only[jS,h4',decide_true,Bool.true_and,List.all_eq_true,decide_eq_true_eq]
   intro p hp
   rcases hall p hp with h|h
   ·cases h
   ·exact h
  exact⟨by rw[this],hk⟩
 ·have hpm:p∈m:=hin p (by rw[hl];simp)
  repeat (first|apply aj|(apply ar;rfl;apply dA<;>rfl))
  refine bL rfl ?_
  repeat (first|apply aj|(apply ar;rfl;(first|apply dA|apply Ge)<;>first|rfl|assumption|exact List.not_mem_nil))
  refine SG.alloc rfl rfl rfl (fun b5 w5 hk5 hb5 hB5=>?_)
  refine SG.alloc rfl rfl rfl (fun b6 w6 hk6 hb6 hB6=>?_)
  have s4:=hk4.size
  have s5:=hk5.size
  have s0:=hk.size
  have e5:=hB5.lt
  refine SG.aN (old:=dc zd) rfl rfl (ag rfl) (ag rfl) (hB5.ay hk6) (ah _) (ah _) (bu _) (fun w7 hk7 hB5=>?_)
  refine SG.aN (old:=tu pz) rfl rfl (ag rfl) (ag rfl) (hB6.kp hk7 (by first|exact bP (by omega)|exact fG (by omega) (by omega))) rfl rfl rfl (fun w8 hk8 hB6=>?_)
  have hB5:=hB5.kp hk8 (by first|exact bP (by omega)|exact fG (by omega) (by omega))
  have hk48:=((hk5.trans hk6).ai hk7 (by first|exact aV (by omega)|exact gj (by omega) (by omega))).ai hk8 (by first|exact aV (by omega)|exact gj (by omega) (by omega))
  have hI8:=hI4.ay hk48
  have hk:=hk.ai (hk4.trans hk48.any) (by first|exact aV (by omega)|exact gj (by omega) (by omega))
  have hT8:=hT'.ay hk
  have kr0:=hT8.r0
  have km:=hT8.map
  have hR5:Row w8 b5 0 (dc p.1):=Row.all hB5 rfl
  have hR6:Row w8 b6 0 (tu p.2):=Row.all hB6 rfl
  have hf1:p.2.Fit:=by rw[←pg hnd hpm];exact hg.fit _
  have hf2:=hg'.fit p.1
  repeat apply aj
  refine CG.eQ mixed [0,1,2,3,4,5,6,7] [] (by kernel_rfl) ?_
  by_cases e:cg m' p.1=p.2
  ·repeat (apply bZ;rfl;rfl;(first|apply PZ|apply az|apply bf|apply bj|apply aW|apply bM|apply qu)<;>first|rfl|assumption|(apply bK;first|assumption|omega)|exact List.not_mem_nil|apply ah|exact Hx)
   refine aI.fin (fun w9 hk9 _ _=>?_)
   repeat apply aj
   refine bG rfl ?_
   repeat apply aj
   refine NG.round (pre++post,some p) (aS.of rfl) ⟨hk.trans hk9,hI8.ay hk9,fun q hq=>hin q (by rw[hl];simp at hq⊢;rcases hq with h|h<;>simp[h]),fun q hq=>?_⟩ (by simp only[hl];simp)
   rcases hall q hq with h|h
   ·rw[hl] at h
    simp only[List.mem_append,List.mem_cons] at h
    rcases h with h|rfl|h
    ·exact Or.inl (by simp[h])
    ·exact Or.inr e
    ·exact Or.inl (by simp[h])
   ·exact Or.inr h
  ·repeat (apply bZ;rfl;rfl;(first|apply PZ|apply az|apply bf|apply bj|apply aW|apply bM|apply qu)<;>first|rfl|assumption|(apply bN;first|assumption|omega)|exact List.not_mem_nil|apply ah|exact Hx)
   refine aI.fin (fun w9 hk9 _ _=>?_)
   repeat apply aj
   refine bL rfl ?_
   repeat (first|apply aj|(apply ar;rfl;apply aD<;>rfl))
   refine aO (Or.inl rfl) Tryz.results32 (aC.tmp rfl) ?_
   refine⟨?_,hk.trans hk9⟩
   have:jS m m'=false:=by
    cases hb:jS m m' with
    |false=>rfl
    |true=>
     simp only[jS,Bool.and_eq_true,List.all_eq_true,decide_eq_true_eq] at hb
     exact absurd (hb.2 p hpm) e
   rw[this]
end
section
structure Kn where
 parent:Dg
 height:Nat
def kc(x:Kn):List Value:=dc x.parent++[.int .i64 x.height]
@[reducible] def sF (x:Kn):Value:= .agg (kc x).toArray
structure Tr where
 first:Dg
 tip:Dg
 depth:Nat
 nodes:List (Dg×Kn)
def H9(t:Tr)(bm:Nat):List Value:=dc t.first++(dc t.tip++[.int .i64 t.depth,.map (some bm)])
structure cj(w:World)(bt bm:Nat)(t:Tr):Prop where
 blk:aF w bt (.cells (H9 t bm).toArray 200)
 map:aE w bm (dv (n:=8)) sF t.nodes
theorem cj.kp{S:List Nat}{w w':World}{bt bm:Nat}{t:Tr}(h:cj w bt bm t)(hk:Kp S w w')(h1:bt∉S)(h2:bm∉S):cj w' bt bm t:=⟨h.blk.kp hk h1,h.map.kp hk h2⟩
theorem cj.ay{w w':World}{bt bm:Nat}{t:Tr}(h:cj w bt bm t)(hk:Kp [] w w'):cj w' bt bm t:=h.kp hk (by simp) (by simp)
theorem cj.r0{w:World}{bt bm:Nat}{t:Tr}(h:cj w bt bm t):Row w bt 0 (dc t.first):=Row.of h.blk [] (dc t.tip++[.int .i64 t.depth,.map (some bm)]) (by simp[H9]) rfl
theorem cj.r8{w:World}{bt bm:Nat}{t:Tr}(h:cj w bt bm t):Row w bt 8 (dc t.tip):=Row.of h.blk (dc t.first) [.int .i64 t.depth,.map (some bm)] (by simp[H9]) (ah _)
theorem cj.HW{w:World}{bt bm:Nat}{t:Tr}(h:cj w bt bm t):Row w bt 16 [.int .i64 t.depth]:=Row.of h.blk (dc t.first++dc t.tip) [.map (some bm)] (by simp[H9]) (by simp[ah])
theorem cj.vT{w:World}{bt bm:Nat}{t:Tr}(h:cj w bt bm t):Row w bt 17 [.map (some bm)]:=Row.of h.blk (dc t.first++dc t.tip++[.int .i64 t.depth]) [] (by simp[H9]) (by simp[ah])
def Tr.height(t:Tr)(x:Dg):Int:=match aB t.nodes x with
 |some n=>n.height
 |none=> -1
def xZ:Kn:=⟨⟨[0,0,0,0,0,0,0,0],rfl⟩,0⟩
theorem aU(x:Kn):(kc x).length=9:=by simp[kc,ah]
theorem fK(x:Kn):bF (kc x)=true:=by
 have:=bu x.parent
 unfold bF at*
 simp[kc,this,jJ]
theorem Row.P7{w:World}{b:Nat}{x:Kn}(h:Row w b 0 (kc x)):Row w b 0 (dc x.parent):=by
 obtain⟨cs,T,f,h1,h2⟩:=h
 refine⟨cs,T,f,h1,fun i v hv=>h2 i v ?_⟩
 have hi:i<(dc x.parent).length:=(List.getElem?_eq_some_iff.1 hv).1
 rw[kc,List.getElem?_append_left hi]
 exact hv
theorem Row.Ji{w:World}{b:Nat}{x:Kn}(h:Row w b 0 (kc x)):Row w b 8 [.int .i64 x.height]:=by
 obtain⟨cs,T,f,h1,h2⟩:=h
 refine⟨cs,T,f,h1,fun i v hv=>?_⟩
 have hi:i<1:=(List.getElem?_eq_some_iff.1 hv).1
 have hi0:i=0:=by omega
 subst hi0
 have:=h2 8 v (by rw[kc,List.getElem?_append_right (by rw[ah];omega),ah];exact hv)
 simpa using this
attribute [local irreducible] CG NG SG aK aI Row aF aE
theorem gl{w:World}{bt bm:Nat}{t:Tr}(hT:cj w bt bm t)(x:Dg):dz Tryz.prog 87 #[.pointer (some ⟨bt,0,none⟩),dv x] w (.int .i64 (t.height x)):=by
 refine bJ Tryz.func87 rfl Tryz.ntmps87 rfl ?_
 repeat apply aj
 refine SG.box rfl rfl rfl (ag rfl) (fun b3 w1 hk1 hb3 hB3=>?_)
 repeat (first|apply aj|(apply ar;rfl;(first|apply az|apply aD|apply iC)<;>rfl))
 refine bG rfl ?_
 repeat apply aj
 have hR3:Row w1 b3 0 (dc x):=Row.all hB3 rfl
 have hT1:=hT.ay hk1
 have hr17:=hT1.vT
 have hm:=hT1.map
 refine CG.gZ mixed [0,1,2,3,4,5,6,7,8,11] [(9,10,5,.tmp 16)] (by kernel_rfl) (by kernel_rfl) ?_
 rcases hr:aB t.nodes x with _|nd
 ·repeat (apply bZ;rfl;rfl;(first|apply az|apply aD|apply bf|apply bj|apply aW|apply bM|apply lL|apply dA)<;>first|rfl|assumption|exact List.not_mem_nil|apply ah|exact tv (by assumption)|fail)
  refine aI.one (fC.of (by rfl) rfl rfl rfl (ag rfl) (by first|exact aU _|rfl) (by rfl) (by first|exact fK _|rfl)) (fun b5 w2 hk2 hb5 hB5=>?_)
  repeat (first|apply aj|(apply ar;rfl;(first|apply az|apply fZ)<;>rfl))
  refine bL rfl ?_
  repeat (first|apply aj|(apply ar;rfl;apply aD<;>rfl))
  refine aO (Or.inl rfl) Tryz.results87 (aC.tmp rfl) ?_
  exact⟨by simp[Tr.height,hr],hk1.trans hk2⟩
 ·repeat (apply bZ;rfl;rfl;(first|apply az|apply aD|apply bf|apply bj|apply aW|apply bM|apply lL|apply dA)<;>first|rfl|assumption|exact List.not_mem_nil|apply ah|exact kX (by assumption)|fail)
  refine aI.one (fC.of (by rfl) rfl rfl rfl (ag rfl) (by first|exact aU _|rfl) (by rfl) (by first|exact fK _|rfl)) (fun b5 w2 hk2 hb5 hB5=>?_)
  have hR5:Row w2 b5 0 (kc nd):=Row.all hB5 rfl
  have hR5h:=hR5.Ji
  repeat (first|apply aj|(apply ar;rfl;(first|apply az|apply fZ)<;>rfl))
  refine bG rfl ?_
  repeat (first|apply aj|(apply ar;rfl;(first|apply aD|apply bf|apply aW)<;>first|rfl|assumption|exact List.not_mem_nil))
  refine aO (Or.inl rfl) Tryz.results87 (aC.tmp rfl) ?_
  exact⟨by simp[Tr.height,hr],hk1.trans hk2⟩
end
section
attribute [local irreducible] CG NG SG aK aI Row aF aE
def Tr.nd(t:Tr)(x:Dg):Kn:=(aB t.nodes x).getD xZ
def Tr.has(t:Tr)(x:Dg):Bool:=(aB t.nodes x).isSome
def Tr.ht(t:Tr)(x:Dg):Nat:=(t.nd x).height
def Tr.par(t:Tr)(x:Dg):Dg:=(t.nd x).parent
def Tr.fi(t:Tr):Nat→Dg→Dg→Dg
 |0,a,_=>a
 |n+1,a,b=>if a=b then a else t.fi n (if t.ht b≤t.ht a then t.par a else a) (if t.ht a≤t.ht b then t.par b else b)
def Tr.part(t:Tr)(a b:Dg):Dg:=t.fi (t.ht a+t.ht b+1) a b
structure Tr.WF(t:Tr):Prop where
 first:t.has t.first=true
 h0:t.ht t.first=0
 tip:t.has t.tip=true
 up:∀x,t.has x=true→x≠t.first→t.has (t.par x)=true∧t.ht x=t.ht (t.par x)+1
 top:∀x,t.has x=true→t.ht x≤t.ht t.tip
 small:t.nodes.length≤4096
 low:t.ht t.tip<t.nodes.length
theorem Tr.eU{t:Tr}{x:Dg}(h:t.has x=true):aB t.nodes x=some (t.nd x):=by
 unfold Tr.has at h
 unfold Tr.nd
 cases hh:aB t.nodes x with
 |none=>rw[hh] at h;cases h
 |some n=>rfl
theorem Tr.WF.pT{t:Tr}(wf:t.WF){x:Dg}(hx:t.has x=true)(h:t.ht x=0):x=t.first:=by
 by_cases e:x=t.first
 ·exact e
 ·have:=(wf.up x hx e).2
  omega
theorem Tr.WF.bound{t:Tr}(wf:t.WF){x:Dg}(hx:t.has x=true):t.ht x<4096:=by
 have h1:=wf.top x hx
 have h2:=wf.low
 have h3:=wf.small
 omega
theorem Tr.WF.round{t:Tr}(wf:t.WF){a b:Dg}(ha:t.has a=true)(hb:t.has b=true)(hne:a≠b):
  t.has (if t.ht b≤t.ht a then t.par a else a)=true∧t.has (if t.ht a≤t.ht b then t.par b else b)=true∧
  t.ht (if t.ht b≤t.ht a then t.par a else a)+t.ht (if t.ht a≤t.ht b then t.par b else b)<t.ht a+t.ht b∧
  t.part (if t.ht b≤t.ht a then t.par a else a) (if t.ht a≤t.ht b then t.par b else b)=t.part a b:=by
 have key:∀{a b:Dg},t.has a=true→t.has b=true→a≠b→t.ht b≤t.ht a→t.has (t.par a)=true∧t.ht a=t.ht (t.par a)+1:=by
  intro a b ha hb hne hle
  refine wf.up a ha (fun e=>hne ?_)
  have h1:t.ht a=0:=by rw[e];exact wf.h0
  have h2:=wf.pT hb (by omega)
  rw[e,h2]
 have mono:∀(n m:Nat) (a b:Dg),t.has a=true→t.has b=true→t.ht a+t.ht b<n→t.ht a+t.ht b<m→t.fi n a b=t.fi m a b:=by
  intro n
  induction n with
  |zero=>intro m a b _ _ h;omega
  |succ n ih=>
   intro m a b ha hb h1 h2
   cases m with
   |zero=>omega
   |succ m=>
    simp only[Tr.fi]
    by_cases e:a=b
    ·simp[e]
    ·rw[if_neg e,if_neg e]
     by_cases h3:t.ht b≤t.ht a<;>by_cases h4:t.ht a≤t.ht b
     ·have k1:=key ha hb e h3
      have k2:=key hb ha (fun e1=>e e1.symm) h4
      simp only[h3,h4,if_true]
      exact ih m _ _ k1.1 k2.1 (by omega) (by omega)
     ·have k1:=key ha hb e h3
      simp only[h3,h4,if_true,if_false]
      exact ih m _ _ k1.1 hb (by omega) (by omega)
     ·have k2:=key hb ha (fun e1=>e e1.symm) h4
      simp only[h3,h4,if_true,if_false]
      exact ih m _ _ ha k2.1 (by omega) (by omega)
     ·omega
 by_cases h3:t.ht b≤t.ht a<;>by_cases h4:t.ht a≤t.ht b
 ·have k1:=key ha hb hne h3
  have k2:=key hb ha (fun e1=>hne e1.symm) h4
  simp only[h3,h4,if_true]
  refine⟨k1.1,k2.1,by omega,?_⟩
  conv=>rhs;unfold Tr.part;rw[Tr.fi,if_neg hne,if_pos h3,if_pos h4]
  exact mono _ _ _ _ k1.1 k2.1 (by omega) (by omega)
 ·have k1:=key ha hb hne h3
  simp only[h3,h4,if_true,if_false]
  refine⟨k1.1,hb,by omega,?_⟩
  conv=>rhs;unfold Tr.part;rw[Tr.fi,if_neg hne,if_pos h3,if_neg h4]
  exact mono _ _ _ _ k1.1 hb (by omega) (by omega)
 ·have k2:=key hb ha (fun e1=>hne e1.symm) h4
  simp only[h3,h4,if_true,if_false]
  refine⟨ha,k2.1,by omega,?_⟩
  conv=>rhs;unfold Tr.part;rw[Tr.fi,if_neg hne,if_neg h3,if_pos h4]
  exact mono _ _ _ _ ha k2.1 (by omega) (by omega)
 ·omega
theorem Tr.qX(t:Tr)(a:Dg):t.part a a=a:=by simp[Tr.part,Tr.fi]
theorem pP{w:World}{bt bm:Nat}{t:Tr}(hT:cj w bt bm t)(wf:t.WF){a b:Dg}(ha:t.has a=true)(hb:t.has b=true):dz Tryz.prog 122 #[.pointer (some ⟨bt,0,none⟩),dv a,dv b] w (dv (t.part a b)):=by
 refine ey Tryz.func122 rfl Tryz.ntmps122 rfl ?_
 repeat apply aj
 refine SG.box rfl rfl rfl (ag rfl) (fun b4 w1 hk1 hb4 hB4=>?_)
 refine SG.box rfl rfl rfl (ag rfl) (fun b5 w2 hk2 hb5 hB5=>?_)
 refine SG.alloc rfl rfl rfl (fun b6 w3 hk3 hb6 hB6=>?_)
 repeat apply aj
 have e4:b4<w1.heap.size:=hB4.lt
 have e5:b5<w2.heap.size:=hB5.lt
 have eT:bt<w.heap.size:=hT.blk.lt
 have eM:bm<w.heap.size:=hT.map.lt
 have hk03:=(hk1.trans hk2).trans hk3
 refine CG.loop (X:=Dg×Dg) (fun _=>[(0,.pointer (some ⟨bt,0,none⟩)),(4,.pointer (some ⟨b4,0,none⟩)),(5,.pointer (some ⟨b5,0,none⟩)),(6,.pointer (some ⟨b6,0,none⟩))])
  (fun x w'=>Kp [] w w'∧cj w' bt bm t∧aF w' b4 (.cells (dc x.1).toArray 47)∧aF w' b5 (.cells (dc x.2).toArray 47)∧(∃z:Dg,aF w' b6 (.cells (dc z).toArray 47))∧t.has x.1=true∧t.has x.2=true∧t.part x.1 x.2=t.part a b)
  (fun x=>t.ht x.1+t.ht x.2) (a,b) ⟨hk03,hT.ay hk03,(hB4.ay hk2).ay hk3,hB5.ay hk3,⟨⟨[0,0,0,0,0,0,0,0],rfl⟩,hB6⟩,ha,hb,rfl⟩ (aS.of rfl) ?_
 rintro⟨a',b'⟩ w4 ⟨hk,hT4,hB4,hB5,⟨z6,hB6⟩,ha',hb',hp⟩
 simp only at hB4 hB5 ha' hb' hp
 have hR4:Row w4 b4 0 (dc a'):=Row.all hB4 rfl
 have hR5:Row w4 b5 0 (dc b'):=Row.all hB5 rfl
 by_cases hab:a'=b'
 ·repeat (first|apply aj|(apply ar;rfl;(first|apply bj|apply xM)<;>first|rfl|assumption|(apply bK;first|assumption|omega)|exact List.not_mem_nil|apply ah))
  refine bG rfl ?_
  repeat (first|apply aj|(apply ar;rfl;apply bj<;>first|rfl|assumption|exact List.not_mem_nil|apply ah))
  refine SG.aN rfl rfl (ag rfl) (ag rfl) hB6 (ah _) (ah _) (bu _) (fun w5 hk5 hB6'=>?_)
  have hR6:Row w5 b6 0 (dc a'):=Row.all hB6' rfl
  repeat apply aj
  refine aO (Or.inl rfl) Tryz.results122 (by exact aC.agg rfl rfl (by assumption) (by first|exact ah _|exact nc_length _|exact rc_length _ _ _|exact aL _|exact dl_length _ _ _ _|exact aX _|exact aU _|exact bC _|exact au _|rfl)) ?_
  subst hab
  rw[Tr.qX] at hp
  exact⟨by rw[hp],hk.ai hk5 (by first|exact aV (by omega)|exact gj (by omega) (by omega))⟩
 ·repeat (first|apply aj|(apply ar;rfl;(first|apply bj|apply xM)<;>first|rfl|assumption|(apply bN;first|assumption|omega)|exact List.not_mem_nil|apply ah))
  refine bL rfl ?_
  repeat apply aj
  have hr17:=hT4.vT
  have hm:=hT4.map
  have hra:=Tr.eU ha'
  have hrb:=Tr.eU hb'
  obtain⟨n1,n2,n3,n4⟩:=wf.round ha' hb' hab
  refine CG.gZ mixed [0,1,2,3,4,5,6,7,8,9,10,11] [(12,14,7,.tmp 17),(13,15,8,.tmp 23)] (by kernel_rfl) (by kernel_rfl) ?_
  repeat (apply bZ;rfl;rfl;(first|apply az|apply bf|apply bj|apply aW|apply bM|apply qu)<;>first|rfl|assumption|exact List.not_mem_nil|apply ah|exact kX (by assumption)|fail)
  refine aI.two (fC.of (by rfl) rfl rfl rfl (ag rfl) (by first|exact aU _|rfl) (by rfl) (by first|exact fK _|rfl)) (fC.of (by rfl) rfl rfl rfl (ag rfl) (by first|exact aU _|rfl) (by rfl) (by first|exact fK _|rfl)) rfl (fun b7 b8 w5 hk5 hb7 hb8 h78 hB7 hB8=>?_)
  have e4':=hB4.lt
  have e5':=hB5.lt
  have hk05:=hk.trans hk5
  have hT5:=hT4.ay hk5
  have hB4:=hB4.ay hk5
  have hB5:=hB5.ay hk5
  have hB6:=hB6.ay hk5
  have hR7:Row w5 b7 0 (kc (t.nd a')):=Row.all hB7 rfl
  have hR8:Row w5 b8 0 (kc (t.nd b')):=Row.all hB8 rfl
  have hR7h:=hR7.Ji
  have hR8h:=hR8.Ji
  have hR7p:=hR7.P7
  have hR8p:=hR8.P7
  have f1:(t.nd a').height=t.ht a':=rfl
  have f2:(t.nd b').height=t.ht b':=rfl
  by_cases h3:t.ht b'≤t.ht a'
  ·have g3:((t.nd b').height:Int)≤((t.nd a').height:Int):=by omega
   rw[if_pos h3] at n1 n3 n4
   repeat (first|apply aj|(apply ar;rfl;(first|apply bf|apply aW|apply jN)<;>first|rfl|assumption|(apply bK;first|assumption|omega)|exact List.not_mem_nil))
   refine bL rfl ?_
   repeat (first|apply aj|(apply ar;rfl;(first|apply bj|apply aW)<;>first|rfl|assumption|exact List.not_mem_nil|apply ah))
   refine SG.aN rfl rfl (ag rfl) (ag rfl) hB4 (ah _) (ah _) (bu _) (fun w6 hk6 hB4=>?_)
   have hk06:=hk05.ai hk6 (by first|exact aV (by omega)|exact gj (by omega) (by omega))
   have hT6:=hT5.kp hk6 (by first|exact bP (by omega)|exact fG (by omega) (by omega)) (by first|exact bP (by omega)|exact fG (by omega) (by omega))
   have hB5:=hB5.kp hk6 (by first|exact bP (by omega)|exact fG (by omega) (by omega))
   have hB6:=hB6.kp hk6 (by first|exact bP (by omega)|exact fG (by omega) (by omega))
   have hR7h:=hR7h.kp hk6 (by first|exact bP (by omega)|exact fG (by omega) (by omega))
   have hR8h:=hR8h.kp hk6 (by first|exact bP (by omega)|exact fG (by omega) (by omega))
   have hR8p:=hR8p.kp hk6 (by first|exact bP (by omega)|exact fG (by omega) (by omega))
   by_cases h4:t.ht a'≤t.ht b'
   ·have g4:((t.nd a').height:Int)≤((t.nd b').height:Int):=by omega
    rw[if_pos h4] at n2 n3 n4
    repeat (first|apply aj|(apply ar;rfl;(first|apply bf|apply aW|apply jN)<;>first|rfl|assumption|(apply bK;first|assumption|omega)|exact List.not_mem_nil))
    refine bL rfl ?_
    repeat (first|apply aj|(apply ar;rfl;(first|apply bj|apply aW)<;>first|rfl|assumption|exact List.not_mem_nil|apply ah))
    refine SG.aN rfl rfl (ag rfl) (ag rfl) hB5 (ah _) (ah _) (bu _) (fun w7 hk7 hB5=>?_)
    repeat apply aj
    refine NG.round (t.par a',t.par b') (aS.of rfl) ⟨hk06.ai hk7 (by first|exact aV (by omega)|exact gj (by omega) (by omega)),hT6.kp hk7 (by first|exact bP (by omega)|exact fG (by omega) (by omega)) (by first|exact bP (by omega)|exact fG (by omega) (by omega)),hB4.kp hk7 (by first|exact bP (by omega)|exact fG (by omega) (by omega)),hB5,⟨z6,hB6.kp hk7 (by first|exact bP (by omega)|exact fG (by omega) (by omega))⟩,n1,n2,n4.trans hp⟩ n3
   ·have g4:¬((t.nd a').height:Int)≤((t.nd b').height:Int):=by omega
    rw[if_neg h4] at n2 n3 n4
    repeat (first|apply aj|(apply ar;rfl;(first|apply bf|apply aW|apply jN)<;>first|rfl|assumption|(apply bN;first|assumption|omega)|exact List.not_mem_nil))
    refine bG rfl ?_
    repeat apply aj
    refine NG.round (t.par a',b') (aS.of rfl) ⟨hk06,hT6,hB4,hB5,⟨z6,hB6⟩,n1,n2,n4.trans hp⟩ n3
  ·have g3:¬((t.nd b').height:Int)≤((t.nd a').height:Int):=by omega
   have h4:t.ht a'≤t.ht b':=by omega
   have g4:((t.nd a').height:Int)≤((t.nd b').height:Int):=by omega
   rw[if_neg h3] at n1 n3 n4
   rw[if_pos h4] at n2 n3 n4
   repeat (first|apply aj|(apply ar;rfl;(first|apply bf|apply aW|apply jN)<;>first|rfl|assumption|(apply bN;first|assumption|omega)|exact List.not_mem_nil))
   refine bG rfl ?_
   repeat (first|apply aj|(apply ar;rfl;(first|apply bf|apply aW|apply jN)<;>first|rfl|assumption|(apply bK;first|assumption|omega)|exact List.not_mem_nil))
   refine bL rfl ?_
   repeat (first|apply aj|(apply ar;rfl;(first|apply bj|apply aW)<;>first|rfl|assumption|exact List.not_mem_nil|apply ah))
   refine SG.aN rfl rfl (ag rfl) (ag rfl) hB5 (ah _) (ah _) (bu _) (fun w7 hk7 hB5=>?_)
   repeat apply aj
   refine NG.round (a',t.par b') (aS.of rfl) ⟨hk05.ai hk7 (by first|exact aV (by omega)|exact gj (by omega) (by omega)),hT5.kp hk7 (by first|exact bP (by omega)|exact fG (by omega) (by omega)) (by first|exact bP (by omega)|exact fG (by omega) (by omega)),hB4.kp hk7 (by first|exact bP (by omega)|exact fG (by omega) (by omega)),hB5,⟨z6,hB6.kp hk7 (by first|exact bP (by omega)|exact fG (by omega) (by omega))⟩,n1,n2,n4.trans hp⟩ n3
end
section
attribute [local irreducible] CG NG SG aK aI Row aF aE
theorem kH{w:World}{bt bm:Nat}{t:Tr}(hT:cj w bt bm t):dz Tryz.prog 56 #[.pointer (some ⟨bt,0,none⟩)] w (dv t.tip):=by
 refine bA Tryz.func56 rfl Tryz.ntmps56 rfl ?_
 repeat apply aj
 refine SG.alloc rfl rfl rfl (fun b2 w1 hk1 hb2 hB2=>?_)
 have hT1:=hT.ay hk1
 have hr8:=hT1.r8
 repeat (first|apply aj|(apply ar;rfl;(first|apply az|apply iC)<;>rfl))
 refine bG rfl ?_
 repeat (first|apply aj|(apply ar;rfl;(first|apply az|apply bj|apply aW|apply bM)<;>first|rfl|assumption|exact List.not_mem_nil|apply ah))
 refine SG.aN (old:=dc (n:=8) ⟨[0,0,0,0,0,0,0,0],rfl⟩) rfl rfl (ag rfl) (ag rfl) hB2 (ah _) (ah _) (bu _) (fun w2 hk2 hB2=>?_)
 have hR2:Row w2 b2 0 (dc t.tip):=Row.all hB2 rfl
 repeat apply aj
 refine aO (Or.inl rfl) Tryz.results56 (by exact aC.agg rfl rfl (by assumption) (by first|exact ah _|exact nc_length _|exact rc_length _ _ _|exact aL _|exact dl_length _ _ _ _|exact aX _|exact aU _|exact bC _|exact au _|rfl)) ?_
 exact⟨rfl,hk1.ai hk2 (by first|exact aV (by omega)|exact gj (by omega) (by omega))⟩
def Tr.new(first:Dg)(depth:Nat):Tr:=⟨first,first,depth,[(first,xZ)]⟩
theorem B8(w:World)(first:Dg)(depth:Int)(h:depth<0∨1000<depth):dz Tryz.prog 77 #[dv first,.int .i64 depth] w (.tuple #[.pointer none,.int .i64 2]):=by
 refine bJ Tryz.func77 rfl Tryz.ntmps77 rfl ?_
 repeat apply aj
 refine SG.box rfl rfl rfl (ag rfl) (fun b2 w1 hk1 hb2 hB2=>?_)
 by_cases h0:depth<0
 ·repeat (first|apply aj|(apply ar;rfl;(first|apply az|apply aD|apply cG)<;>first|rfl|(apply bK;first|assumption|omega)))
  refine SG.skip rfl rfl ?_
  refine SG.skip rfl rfl ?_
  repeat (first|apply aj|(apply ar;rfl;apply cu<;>rfl))
  refine bL rfl ?_
  repeat (first|apply aj|(apply ar;rfl;apply aD<;>rfl))
  refine dJ (Or.inl rfl) Tryz.results77 (aC.tmp rfl) (aC.tmp rfl) ?_
  exact⟨rfl,hk1⟩
 ·have h1:1000<depth:=by omega
  repeat (first|apply aj|(apply ar;rfl;(first|apply az|apply aD|apply cu|apply cG|apply fW)<;>first|rfl|(apply bK;first|assumption|omega)|(apply bN;first|assumption|omega)))
  refine bL rfl ?_
  repeat (first|apply aj|(apply ar;rfl;apply aD<;>rfl))
  refine dJ (Or.inl rfl) Tryz.results77 (aC.tmp rfl) (aC.tmp rfl) ?_
  exact⟨rfl,hk1⟩
theorem IP(w:World)(a0 a1 a2 a3 a4 a5 a6 a7 b0 b1 b2 b3 b4 b5 b6 b7:UInt8)(n:Int)(bm:Nat):(Instr.build 200 #[(0,.agg #[bv a0,bv a1,bv a2,bv a3,bv a4,bv a5,bv a6,bv a7]),(1,.agg #[bv b0,bv b1,bv b2,bv b3,bv b4,bv b5,bv b6,bv b7]),(2,Value.int .i64 n),(3,Value.map (some bm))]).run Tryz.prog w=
  .ok (.agg #[bv a0,bv a1,bv a2,bv a3,bv a4,bv a5,bv a6,bv a7,bv b0,bv b1,bv b2,bv b3,bv b4,bv b5,bv b6,bv b7,Value.int .i64 n,Value.map (some bm)]) w:=by kernel_rfl
theorem IQ(w:World)(a b:Dg)(n:Int)(bm:Nat):(Instr.build 200 #[(0,dv a),(1,dv b),(2,Value.int .i64 n),(3,Value.map (some bm))]).run Tryz.prog w= .ok (.agg (dc a++(dc b++[Value.int .i64 n,Value.map (some bm)])).toArray) w:=by
 obtain⟨la,ha⟩:=a
 obtain⟨lb,hb⟩:=b
 match la,ha with
 |[a0,a1,a2,a3,a4,a5,a6,a7],_=>
  match lb,hb with
  |[b0,b1,b2,b3,b4,b5,b6,b7],_=>exact IP w a0 a1 a2 a3 a4 a5 a6 a7 b0 b1 b2 b3 b4 b5 b6 b7 n bm
theorem zv(w:World)(first:Dg)(depth:Nat)(h:depth≤1000):Calls Tryz.prog 77 #[dv first,.int .i64 depth] w (fun e w'=>∃bt bm,e= .returned (.tuple #[.pointer (some ⟨bt,0,none⟩),.int .i64 0])∧cj w' bt bm (Tr.new first depth)∧w.heap.size≤bt∧w.heap.size≤bm∧bt≠bm∧Kp [] w w'):=by
 refine bJ Tryz.func77 rfl Tryz.ntmps77 rfl ?_
 repeat apply aj
 refine SG.box rfl rfl rfl (ag rfl) (fun b2 w1 hk1 hb2 hB2=>?_)
 have h0:¬(depth:Int)<0:=by omega
 have h1:¬(1000:Int)<(depth:Int):=by omega
 have hR2:Row w1 b2 0 (dc first):=Row.all hB2 rfl
 repeat (first|apply aj|(apply ar;rfl;(first|apply az|apply aD|apply cu|apply cG|apply fW)<;>first|rfl|(apply bN;first|assumption|omega)))
 refine bG rfl ?_
 repeat apply aj
 refine CG.dM mixed 9 [0,1,2,4,5,3,6,7,8] [3,6] [] (fun _=>True) (by kernel_rfl) trivial (fun _ _ _ _=>trivial) ?_
 repeat (apply bZ;rfl;rfl;(first|apply az|apply bj)<;>first|rfl|assumption|exact List.not_mem_nil|apply ah)
 refine aI.val rfl rfl rfl (aG (v:=sF xZ) rfl (fun w=>by kernel_rfl)) ?_
 refine aI.makeMap (dv (n:=8)) sF rfl rfl rfl (fun bm=>?_)
 refine aI.insert (enc:=dv (n:=8)) (V:=sF) (kx:=first) (vy:=xZ) rfl rfl rfl rfl (ag rfl) (ag rfl) (ag rfl) gr.key ?_
 repeat (apply bZ;rfl;rfl;apply az<;>rfl)
 refine aI.val rfl rfl rfl (aG rfl (fun w=>IQ w first first depth bm)) ?_
 refine aI.tl (fun w2 hk2 _ hR=>?_)
 refine SG.box rfl rfl rfl (ag rfl) (fun bt w3 hk3 hbt hBt=>?_)
 repeat (first|apply aj|(apply ar;rfl;apply aD<;>rfl))
 refine dJ (Or.inl rfl) Tryz.results77 (aC.tmp rfl) (aC.tmp rfl) ?_
 obtain⟨hbm,hm⟩:=hR
 have:=hm.lt
 have:=hk1.size
 have:=hk2.size
 exact⟨bt,bm,rfl,⟨hBt,hm.ay hk3⟩,by omega,by omega,by omega,(hk1.trans hk2).trans hk3⟩
end
section
theorem Aw{S:List Nat}{w0:World}{F:World→Prop}{L:Env}{d:Option Nat}{ty:TypeId}{pos:String}{af:Array Edge}{g:Option (Nat×Bool)}{x:Operand}{n:Kn}(hx:bB L x=sF n):aK Tryz.prog S w0 F L ⟨d,.field 211 x 0,ty,pos,af,g⟩ (dv n.parent):=
 pw [] (dc n.parent) [.int .i64 n.height] hx rfl rfl rfl (ah _)
theorem Av{S:List Nat}{w0:World}{F:World→Prop}{L:Env}{d:Option Nat}{ty:TypeId}{pos:String}{af:Array Edge}{g:Option (Nat×Bool)}{x:Operand}{n:Kn}(hx:bB L x=sF n):aK Tryz.prog S w0 F L ⟨d,.field 211 x 1,ty,pos,af,g⟩ (.int .i64 n.height):=
 fX (dc n.parent) [] hx rfl rfl (ah _)
theorem SC{S:List Nat}{w0:World}{F:World→Prop}{L:Env}{d:Option Nat}{ty:TypeId}{pos:String}{af:Array Edge}{g:Option (Nat×Bool)}{x:Operand}{n:Kn}(hx:ro L x=some (sF n)):aK Tryz.prog S w0 F L ⟨d,.field 211 x 0,ty,pos,af,g⟩ (dv n.parent):=Aw (ag hx)
theorem Od{S:List Nat}{w0:World}{F:World→Prop}{L:Env}{d:Option Nat}{ty:TypeId}{pos:String}{af:Array Edge}{g:Option (Nat×Bool)}{x:Operand}{n:Kn}(hx:ro L x=some (sF n)):aK Tryz.prog S w0 F L ⟨d,.field 211 x 1,ty,pos,af,g⟩ (.int .i64 n.height):=Av (ag hx)
attribute [local irreducible] CG NG SG aK aI Row aF aE
theorem IU(w:World)(a0 a1 a2 a3 a4 a5 a6 a7:UInt8)(n:Int):(Instr.build 211 #[(0,.agg #[bv a0,bv a1,bv a2,bv a3,bv a4,bv a5,bv a6,bv a7]),(1,Value.int .i64 n)]).run Tryz.prog w= .ok (.agg #[bv a0,bv a1,bv a2,bv a3,bv a4,bv a5,bv a6,bv a7,Value.int .i64 n]) w:=by kernel_rfl
theorem PH(w:World)(a:Dg)(n:Nat):(Instr.build 211 #[(0,dv a),(1,Value.int .i64 (n:Int))]).run Tryz.prog w= .ok (sF ⟨a,n⟩) w:=by
 obtain⟨la,ha⟩:=a
 match la,ha with
 |[a0,a1,a2,a3,a4,a5,a6,a7],_=>exact IU w a0 a1 a2 a3 a4 a5 a6 a7 n
def Tr.deep(t:Tr)(p:Dg):Bool:=decide (t.depth+t.ht (t.part p t.tip)<t.ht t.tip)
def Tr.addE(t:Tr)(x p:Dg):Int:=if t.has x then 7 else if !t.has p then 24 else if 4096≤t.nodes.length then 8 else if t.deep p then 25 else 0
def Tr.put(t:Tr)(x p:Dg):Tr:={t with nodes:=cF t.nodes x ⟨p,t.ht p+1⟩,tip:=if t.ht t.tip<t.ht p+1 then x else t.tip}
def Tr.add(t:Tr)(x p:Dg):Tr:=if t.addE x p=0 then t.put x p else t
theorem qY{t:Tr}(wf:t.WF):∀(n:Nat) (a b:Dg),t.has a=true→t.has b=true→t.has (t.fi n a b)=true
 |0,a,b,ha,hb=>ha
 |n+1,a,b,ha,hb=>by
  simp only[Tr.fi]
  by_cases e:a=b
  ·rw[if_pos e];exact ha
  ·rw[if_neg e]
   obtain⟨h1,h2,_⟩:=wf.round ha hb e
   exact qY wf n _ _ h1 h2
theorem uf{t:Tr}(wf:t.WF){a b:Dg}(ha:t.has a=true)(hb:t.has b=true):t.has (t.part a b)=true:=qY wf _ a b ha hb
theorem Tr.mR{t:Tr}{x:Dg}(h:¬t.has x=true):aB t.nodes x=none:=by
 unfold Tr.has at h
 cases hh:aB t.nodes x with
 |none=>rfl
 |some n=>rw[hh] at h;simp at h
theorem zA{w:World}{bt bm:Nat}{t:Tr}(hT:cj w bt bm t)(hbm:bt≠bm)(wf:t.WF)(hdep:t.depth≤1000)(x p:Dg):Calls Tryz.prog 74 #[.pointer (some ⟨bt,0,none⟩),dv x,dv p] w
  (fun e w'=>e= .returned (.int .i64 (t.addE x p))∧cj w' bt bm (t.add x p)∧Kp [bt,bm] w w'):=by
 refine ey Tryz.func74 rfl Tryz.ntmps74 rfl ?_
 repeat apply aj
 refine SG.box rfl rfl rfl (ag rfl) (fun b4 w1 hk1 hb4 hB4=>?_)
 refine SG.box rfl rfl rfl (ag rfl) (fun b5 w2 hk2 hb5 hB5=>?_)
 have e4:=hB4.lt
 have hk02:=hk1.trans hk2
 have hT2:=hT.ay hk02
 have eT:=hT.blk.lt
 have eM:=hT.map.lt
 have hR4:Row w2 b4 0 (dc x):=Row.all (hB4.ay hk2) rfl
 have hR5:Row w2 b5 0 (dc p):=Row.all hB5 rfl
 have hr17:=hT2.vT
 have hm:=hT2.map
 repeat (first|apply aj|(apply ar;rfl;(first|apply az|apply aD|apply iC)<;>rfl))
 refine bG rfl ?_
 repeat apply aj
 refine CG.gZ mixed [0,1,2,3,4,5,6,7,8,11] [(9,10,7,.tmp 21)] (by kernel_rfl) (by kernel_rfl) ?_
 by_cases hx:t.has x=true
 ·have hrx:=Tr.eU hx
  repeat (apply bZ;rfl;rfl;(first|apply az|apply aD|apply bf|apply bj|apply aW|apply bM|apply lL|apply dA)<;>first|rfl|assumption|exact List.not_mem_nil|apply ah|exact kX (by assumption)|fail)
  refine aI.one (fC.of (by rfl) rfl rfl rfl (ag rfl) (by first|exact aU _|rfl) (by rfl) (by first|exact fK _|rfl)) (fun b7 w3 hk3 hb7 hB7=>?_)
  repeat (first|apply aj|(apply ar;rfl;apply az<;>rfl))
  refine bL rfl ?_
  repeat (first|apply aj|(apply ar;rfl;apply aD<;>rfl))
  refine aO (Or.inl rfl) Tryz.results74 (aC.tmp rfl) ?_
  have hk03:=hk02.trans hk3
  exact⟨by simp[Tr.addE,hx],by simp[Tr.add,Tr.addE,hx];exact hT.ay hk03,hk03.any⟩
 have hrx:=Tr.mR hx
 repeat (apply bZ;rfl;rfl;(first|apply az|apply aD|apply bf|apply bj|apply aW|apply bM|apply lL|apply dA)<;>first|rfl|assumption|exact List.not_mem_nil|apply ah|exact tv (by assumption)|fail)
 refine aI.one (fC.of (by rfl) rfl rfl rfl (ag rfl) (by first|exact aU _|rfl) (by rfl) (by first|exact fK _|rfl)) (fun b7 w3 hk3 hb7 hB7=>?_)
 repeat (first|apply aj|(apply ar;rfl;apply az<;>rfl))
 refine bG rfl ?_
 repeat apply aj
 have hk03:=hk02.trans hk3
 have hT3:=hT.ay hk03
 have hR4:=hR4.ay hk3
 have hR5:=hR5.ay hk3
 have hr17:=hT3.vT
 have hm:=hT3.map
 refine CG.gZ mixed [0,1,2,3,4,5,6,7,8,11] [(9,10,9,.tmp 31)] (by kernel_rfl) (by kernel_rfl) ?_
 by_cases hp:t.has p=true
 ·have hrp:=Tr.eU hp
  repeat (apply bZ;rfl;rfl;(first|apply az|apply aD|apply bf|apply bj|apply aW|apply bM|apply lL|apply dA)<;>first|rfl|assumption|exact List.not_mem_nil|apply ah|exact kX (by assumption)|fail)
  refine aI.one (fC.of (by rfl) rfl rfl rfl (ag rfl) (by first|exact aU _|rfl) (by rfl) (by first|exact fK _|rfl)) (fun b9 w4 hk4 hb9 hB9=>?_)
  repeat (first|apply aj|(apply ar;rfl;(first|apply az|apply fZ)<;>rfl))
  refine bG rfl ?_
  have hk04:=hk03.trans hk4
  have hT4:=hT.ay hk04
  have hR4:=hR4.ay hk4
  have hR5:=hR5.ay hk4
  have hr17:=hT4.vT
  have hr16:=hT4.HW
  have hr8:=hT4.r8
  have hm:=hT4.map
  have hR9:Row w4 b9 0 (kc (t.nd p)):=Row.all hB9 rfl
  have hR9h:=hR9.Ji
  have hbp:=wf.bound hp
  have hbt:=wf.bound wf.tip
  have f1:(t.nd p).height=t.ht p:=rfl
  have f2:(t.nd t.tip).height=t.ht t.tip:=rfl
  have hrt:=Tr.eU wf.tip
  by_cases hfull:4096≤t.nodes.length
  ·have g1:(4096:Int)≤(t.nodes.length:Int):=by omega
   repeat (first|apply aj|(apply ar;rfl;(first|apply az|apply bf|apply aW|apply bM|apply jN|apply D7)<;>first|rfl|assumption|(apply bK;first|assumption|omega)|exact List.not_mem_nil))
   refine bL rfl ?_
   repeat (first|apply aj|(apply ar;rfl;apply aD<;>rfl))
   refine aO (Or.inl rfl) Tryz.results74 (aC.tmp rfl) ?_
   exact⟨by simp[Tr.addE,hx,hp,hfull],by simp[Tr.add,Tr.addE,hx,hp,hfull];exact hT4,hk04.any⟩
  have g1:¬(4096:Int)≤(t.nodes.length:Int):=by omega
  repeat (first|apply aj|(apply ar;rfl;(first|apply az|apply bf|apply aW|apply bM|apply jN|apply D7)<;>first|rfl|assumption|(apply bN;first|assumption|omega)|exact List.not_mem_nil))
  refine bG rfl ?_
  repeat apply aj
  refine CG.eQ mixed [0,1,2,3,4,5,6,7,8,9,10] [] (by kernel_rfl) ?_
  repeat (apply bZ;rfl;rfl;(first|apply Od|apply az|apply aD|apply bf|apply bj|apply aW|apply bM|apply qu)<;>first|rfl|assumption|exact List.not_mem_nil|apply ah|exact kX (by assumption)|fail)
  refine aI.fin (fun w5 hk5 _ _=>?_)
  have hk05:=hk04.trans hk5
  have hT5:=hT.ay hk05
  have hR4:=hR4.ay hk5
  have hR5:=hR5.ay hk5
  have hR9h:=hR9h.ay hk5
  have hr17:=hT5.vT
  have hr16:=hT5.HW
  have hr8:=hT5.r8
  have hm:=hT5.map
  repeat apply aj
  have hpp:=uf wf hp wf.tip
  have hrpp:=Tr.eU hpp
  have hbpp:=wf.bound hpp
  have f3:(t.nd (t.part p t.tip)).height=t.ht (t.part p t.tip):=rfl
  refine CG.eQ mixed [0,1,2,3,4,5,6,7,8,9,10,11,12,13,14,15,16,17,18,19] [] (by kernel_rfl) ?_
  repeat (apply bZ;rfl;rfl;(first|apply az|apply bf|apply bj|apply aW|apply bM)<;>first|rfl|assumption|exact List.not_mem_nil|apply ah)
  refine aI.call rfl rfl rfl (by repeat' (first|exact True.intro|exact ag rfl|refine And.intro ?_ ?_)) (fun w hk _=>pP (hT5.ay hk) wf hp wf.tip) ?_
  by_cases hd:t.depth+t.ht (t.part p t.tip)<t.ht t.tip
  ·have g2:(t.depth:Int)<((t.nd t.tip).height:Int)-((t.nd (t.part p t.tip)).height:Int):=by omega
   repeat (apply bZ;rfl;rfl;(first|apply Od|apply az|apply bf|apply aW|apply bM|apply fW|apply qu|apply xL)<;>first|rfl|(apply Ar.mk;omega)|assumption|(apply bK;first|assumption|omega)|exact List.not_mem_nil|exact kX (by assumption)|fail)
   refine aI.fin (fun w6 hk6 _ _=>?_)
   have hk06:=hk05.trans hk6
   repeat apply aj
   refine bL rfl ?_
   repeat (first|apply aj|(apply ar;rfl;apply aD<;>rfl))
   refine aO (Or.inl rfl) Tryz.results74 (aC.tmp rfl) ?_
   have hdp:t.deep p=true:=by simp[Tr.deep,hd]
   exact⟨by simp[Tr.addE,hx,hp,hfull,hdp],by simp[Tr.add,Tr.addE,hx,hp,hfull,hdp];exact hT.ay hk06,hk06.any⟩
  have g2:¬(t.depth:Int)<((t.nd t.tip).height:Int)-((t.nd (t.part p t.tip)).height:Int):=by omega
  repeat (apply bZ;rfl;rfl;(first|apply Od|apply az|apply bf|apply aW|apply bM|apply fW|apply qu|apply xL)<;>first|rfl|(apply Ar.mk;omega)|assumption|(apply bN;first|assumption|omega)|exact List.not_mem_nil|exact kX (by assumption)|fail)
  refine aI.fin (fun w6 hk6 _ _=>?_)
  have hdp:t.deep p=false:=by simp[Tr.deep,hd]
  have hae:t.addE x p=0:=by simp[Tr.addE,hx,hp,hfull,hdp]
  have hk06:=hk05.trans hk6
  have hT6:=hT.ay hk06
  have hR4:=hR4.ay hk6
  have hR5:=hR5.ay hk6
  have hR9h:=hR9h.ay hk6
  have hr17:=hT6.vT
  have hm:=hT6.map
  repeat apply aj
  refine bG rfl ?_
  repeat apply aj
  refine CG.tail mixed 10 [0,1,2,3,4,5,6,7,8,9] (by kernel_rfl) ?_
  repeat (apply bZ;rfl;rfl;(first|apply az|apply bf|apply bj|apply aW|apply bM|apply dG)<;>first|rfl|(apply Ar.mk;omega)|assumption|exact List.not_mem_nil|apply ah)
  refine aI.val rfl rfl rfl (aG rfl (fun w=>PH w p (t.ht p+1))) ?_
  refine aI.tl (fun w7 hk7 _ _=>?_)
  have hk07:=hk06.trans hk7
  have hT7:=hT.ay hk07
  refine SG.mapUpdate (enc:=dv (n:=8)) (V:=sF) (kx:=x) (vy:=⟨p,t.ht p+1⟩) rfl rfl (ag rfl) (ag rfl) (ag rfl) hT7.map gr.key (fun w8 hk8 hm8=>?_)
  have e9:=hR9h.lt
  have eW3:=hk03.size
  have hR4:=(hR4.ay hk7).kp hk8 (by first|exact bP (by omega)|exact fG (by omega) (by omega))
  have hR9h:=(hR9h.ay hk7).kp hk8 (by first|exact bP (by omega)|exact fG (by omega) (by omega))
  have hT8:cj w8 bt bm {t with nodes:=cF t.nodes x ⟨p,t.ht p+1⟩}:=⟨hT7.blk.kp hk8 (by first|exact bP (by omega)|exact fG (by omega) (by omega)),hm8⟩
  have hk08:Kp [bt,bm] w w8:=(hk07.any (S:=[bt,bm])).trans (hk8.mono (by simp))
  have hadd:t.add x p=t.put x p:=by rw[Tr.add,if_pos hae]
  by_cases hup:t.ht t.tip<t.ht p+1
  ·have g3:((t.nd t.tip).height:Int)<((t.nd p).height:Int)+1:=by omega
   repeat (first|apply aj|(apply ar;rfl;(first|apply az|apply bf|apply aW|apply dG|apply fW)<;>first|rfl|(apply Ar.mk;omega)|assumption|(apply bK;first|assumption|omega)|exact List.not_mem_nil))
   refine bL rfl ?_
   repeat (first|apply aj|(apply ar;rfl;(first|apply az|apply bj|apply aW|apply bM)<;>first|rfl|assumption|exact List.not_mem_nil|apply ah))
   refine SG.cr (dc t.first) (dc t.tip) [.int .i64 t.depth,.map (some bm)] rfl rfl (ag rfl) (ag rfl) hT8.blk rfl (by first|exact ah _|exact nc_length _|exact rc_length _ _ _|exact aL _|exact dl_length _ _ _ _|exact aX _|exact aU _|exact bC _|exact au _|rfl) (by first|exact ah _|exact nc_length _|exact rc_length _ _ _|exact aL _|exact dl_length _ _ _ _|exact aX _|exact aU _|exact bC _|exact au _|rfl) (by first|exact ah _|exact nc_length _|exact rc_length _ _ _|exact aL _|exact dl_length _ _ _ _|exact aX _|exact aU _|exact bC _|exact au _|rfl) (by first|exact bu _|exact nc_one _|exact rc_one _ _ _|exact gU _|exact nh _|exact fK _|exact Ee _|exact cC _|rfl) (fun w9 hk9 hB=>?_)
   repeat (first|apply aj|(apply ar;rfl;apply aD<;>rfl))
   refine aO (Or.inl rfl) Tryz.results74 (aC.tmp rfl) ?_
   refine⟨by rw[hae],?_,hk08.trans (hk9.mono (by simp))⟩
   rw[hadd,Tr.put,if_pos hup]
   exact⟨hB,hm8.kp hk9 (by first|exact bP (by omega)|exact fG (by omega) (by omega))⟩
  ·have g3:¬((t.nd t.tip).height:Int)<((t.nd p).height:Int)+1:=by omega
   repeat (first|apply aj|(apply ar;rfl;(first|apply az|apply bf|apply aW|apply dG|apply fW)<;>first|rfl|(apply Ar.mk;omega)|assumption|(apply bN;first|assumption|omega)|exact List.not_mem_nil))
   refine bG rfl ?_
   repeat (first|apply aj|(apply ar;rfl;apply aD<;>rfl))
   refine aO (Or.inl rfl) Tryz.results74 (aC.tmp rfl) ?_
   refine⟨by rw[hae],?_,hk08⟩
   rw[hadd,Tr.put,if_neg hup]
   exact hT8
 ·have hrp:=Tr.mR hp
  repeat (apply bZ;rfl;rfl;(first|apply az|apply aD|apply bf|apply bj|apply aW|apply bM|apply lL|apply dA)<;>first|rfl|assumption|exact List.not_mem_nil|apply ah|exact tv (by assumption)|fail)
  refine aI.one (fC.of (by rfl) rfl rfl rfl (ag rfl) (by first|exact aU _|rfl) (by rfl) (by first|exact fK _|rfl)) (fun b9 w4 hk4 hb9 hB9=>?_)
  repeat (first|apply aj|(apply ar;rfl;(first|apply az|apply fZ)<;>rfl))
  refine bL rfl ?_
  repeat (first|apply aj|(apply ar;rfl;apply aD<;>rfl))
  refine aO (Or.inl rfl) Tryz.results74 (aC.tmp rfl) ?_
  have hk04:=hk03.trans hk4
  exact⟨by simp[Tr.addE,hx,hp],by simp[Tr.add,Tr.addE,hx,hp];exact hT.ay hk04,hk04.any⟩
end
section
def flat(l:List Dg):List Value:=l.flatMap dc
theorem dD(l:List Dg):(flat l).length=l.length*8:=by
 induction l with
 |nil=>rfl
 |cons x l ih=>simp only[flat,List.flatMap_cons,List.length_append,ah,List.length_cons] at*;omega
theorem jn(l:List Dg)(k:Nat)(hk:k<l.length):flat l=flat (l.take k)++(dc l[k]++flat (l.drop (k+1))):=by
 have e:l=l.take k++(l[k]::l.drop (k+1)):=by rw[←List.drop_eq_getElem_cons hk,List.take_append_drop]
 calc flat l=flat (l.take k++(l[k]::l.drop (k+1))):=by rw[←e]
  _=_:=by simp only[flat,List.flatMap_append,List.flatMap_cons]
theorem uI{w:World}{b:Nat}{l:List Dg}{pre post:List Value}{T:TypeId}(h:aF w b (.cells (pre++(flat l++post)).toArray T)){k:Nat}(hk:k<l.length):Row w b (pre.length+k*8) (dc l[k]):=by
 refine Row.of h (pre++flat (l.take k)) (flat (l.drop (k+1))++post) ?_ ?_
 ·rw[jn l k hk];simp
 ·simp[dD];omega
theorem mT(l:List Dg)(k:Nat)(hk:k<l.length)(x:Dg)(pre post:List Value):jd (pre++(flat l++post)) (pre.length+k*8) (dc x)=pre++(flat (l.set k x)++post):=by
 have h1:pre++(flat l++post)=(pre++flat (l.take k))++(dc l[k]++(flat (l.drop (k+1))++post)):=by rw[jn l k hk];simp
 have h2:(pre++flat (l.take k)).length=pre.length+k*8:=by simp[dD];omega
 rw[h1,←h2,mu (by simp[ah])]
 rw[List.set_eq_take_append_cons_drop,if_pos hk]
 simp[flat]
def D3(l:List Dg)(i:Nat)(cur:List Dg):Prop:=cur.length=l.length∧∀k,k<l.length→cur[k]?=if k<i∨l.length≤k+i then l.reverse[k]? else l[k]?
theorem yX{l cur:List Dg}{i:Nat}(h:D3 l i cur)(hi:l.length≤2*i+1):cur=l.reverse:=by
 apply List.ext_getElem?
 intro k
 by_cases hk:k<l.length
 ·rw[h.2 k hk]
  split
  ·rfl
  ·have:l.length-1-k=k:=by omega
   rw[List.getElem?_reverse hk,this]
 ·rw[List.getElem?_eq_none (by rw[h.1];omega),List.getElem?_eq_none (by simp;omega)]
theorem yW{l cur:List Dg}{i j:Nat}(h:D3 l i cur)(hij:i<j)(hj:i+j+1=l.length)(hi':i<cur.length)(hj':j<cur.length):D3 l (i+1) ((cur.set i cur[j]).set j cur[i]):=by
 refine⟨by simp[h.1],fun k hk=>?_⟩
 have hci:cur[i]?=l[i]?:=by rw[h.2 i (by omega),if_neg (by omega)]
 have hcj:cur[j]?=l[j]?:=by rw[h.2 j (by omega),if_neg (by omega)]
 rw[List.getElem?_set,List.getElem?_set]
 by_cases e1:j=k
 ·subst e1
  rw[if_pos rfl,if_pos (by simpa using hj'),if_pos (by omega),List.getElem?_reverse hk]
  have:l.length-1-j=i:=by omega
  rw[this,←hci,List.getElem?_eq_getElem hi']
 ·rw[if_neg e1]
  by_cases e2:i=k
  ·subst e2
   rw[if_pos rfl,if_pos hi',if_pos (by omega),List.getElem?_reverse hk]
   have:l.length-1-i=j:=by omega
   rw[this,←hcj,List.getElem?_eq_getElem hj']
  ·rw[if_neg e2,h.2 k hk]
   by_cases e3:k<i∨l.length≤k+i
   ·rw[if_pos e3,if_pos (by omega)]
   ·rw[if_neg e3,if_neg (by omega)]
theorem oB{w:World}{b o:Nat}{cs:Array Value}{x:Dg}(h:aF w b (.cells cs 47))(ho:o+8≤cs.size):(Instr.storeAt 47 (.pointer (some ⟨b,o,none⟩)) (dv x)).run Tryz.prog w= .ok () {w with heap:=w.heap.setIfInBounds b (.cells (jd cs.toList o (dc x)).toArray 47)}:=by
 have:=fg (P:=Tryz.prog) (T:=47) (off:=o) (v:=dv x) h (ah x) (by simp[Value.cells,ah];exact ho) (bu x)
 exact this
attribute [local irreducible] CG NG SG aK aI Row aF aE
theorem mz{w:World}{b c:Nat}{l:List Dg}{pre post:List Value}(hB:aF w b (.cells (pre++(flat l++post)).toArray 47))(hn:l.length≤100000):
  Calls Tryz.prog 141 #[.slice (some ⟨b,pre.length,none⟩) l.length c] w (fun e w'=>e= .returned (.tuple #[])∧aF w' b (.cells (pre++(flat l.reverse++post)).toArray 47)∧Kp [b] w w'):=by
 refine bA Tryz.func141 rfl Tryz.ntmps141 rfl ?_
 repeat (first|apply aj|(apply ar;rfl;(first|apply az|apply aD|apply dy|apply xL)<;>first|rfl|(apply Ar.mk;omega)))
 refine CG.loop (X:=Nat×List Dg) (fun x=>[(0,.slice (some ⟨b,pre.length,none⟩) l.length c),(2,.int .i64 (x.1:Int)),(3,.int .i64 ((l.length:Int)-1-x.1))])
  (fun x w'=>D3 l x.1 x.2∧2*x.1≤l.length+1∧aF w' b (.cells (pre++(flat x.2++post)).toArray 47)∧Kp [b] w w')
  (fun x=>l.length+1-x.1) (0,l) ⟨⟨rfl,fun k hk=>by rw[if_neg (by omega)]⟩,by omega,hB,Kp.refl _ _⟩ (by refine⟨rfl,rfl,?_,True.intro⟩;rw[show((l.length:Int)-1-((0:Nat):Int))=(l.length:Int)-1 from by omega];exact rfl) ?_
 rintro⟨i,cur⟩ w1 ⟨hr,hi,hB1,hk1⟩
 simp only at hr hi hB1
 by_cases hlt:2*i+1<l.length
 ·have g1:(i:Int)<(l.length:Int)-1-i:=by omega
  repeat (first|apply aj|(apply ar;rfl;(first|apply az|apply cG)<;>first|rfl|(apply bK;first|assumption|omega)))
  refine bL rfl ?_
  repeat apply aj
  have hji:(l.length-1-i)<cur.length:=by rw[hr.1];omega
  have hii:i<cur.length:=by rw[hr.1];omega
  have hcast:((l.length:Int)-1-i)=((l.length-1-i:Nat):Int):=by omega
  refine CG.to [(0,.slice (some ⟨b,pre.length,none⟩) l.length c),(2,.int .i64 (i:Int)),(3,.int .i64 ((l.length-1-i:Nat):Int))] (by refine⟨rfl,rfl,?_,True.intro⟩;rw[←hcast];exact rfl) ?_
  refine CG.draw mixed [0,1,2,3,4,5,6,8,9,10,12,14,7,11,13,15] [13,15,1007,1011] [] [b] (fun w'=>aF w' b (.cells (pre++(flat cur++post)).toArray 47)) (by kernel_rfl) (by simpa using hB1.lt) (by simp) hB1 (fun w w' hk h=>h.ay hk) (Or.inl rfl) ?_
  have h1:l.length-1-i<l.length:=by omega
  have h2:i<l.length:=by omega
  repeat (apply bZ;rfl;rfl;(first|apply az|apply fv)<;>first|rfl|(apply Ar.mk;omega))
  refine aI.FE (l:=dc cur[l.length-1-i]) rfl rfl rfl rfl (ag rfl) rfl (fun w h=>uI h hji) (ah _) ?_
  refine aI.FE (l:=dc cur[i]) rfl rfl rfl rfl (ag rfl) rfl (fun w h=>uI h hii) (ah _) ?_
  refine aI.A5 (fun w'=>aF w' b (.cells (pre++(flat (cur.set i cur[l.length-1-i])++post)).toArray 47)) rfl rfl rfl rfl (ag rfl) (ag rfl) (fun _ _ _ h=>h) (fun w w' hk h=>h.ay hk) (fun w h=>?_) ?_
  ·have hrun:=oB (o:=pre.length+i*8) (x:=cur[l.length-1-i]) h (by simp[dD,hr.1];omega)
   refine⟨_,hrun,?_,Kp.set w h rfl rfl⟩
   have:=h.set (.cells (jd (pre++(flat cur++post)) (pre.length+i*8) (dc cur[l.length-1-i])).toArray 47)
   rw[mT cur i hii] at this
   rw[mT cur i hii]
   exact this
  refine aI.A5 (fun w'=>aF w' b (.cells (pre++(flat ((cur.set i cur[l.length-1-i]).set (l.length-1-i) cur[i])++post)).toArray 47)) rfl rfl rfl rfl (ag rfl) (ag rfl) (fun _ _ _ h=>h) (fun w w' hk h=>h.ay hk) (fun w h=>?_) ?_
  ·have hjs:l.length-1-i<(cur.set i cur[l.length-1-i]).length:=by simpa using hji
   have hrun:=oB (o:=pre.length+(l.length-1-i)*8) (x:=cur[i]) h (by simp[dD,hr.1];omega)
   refine⟨_,hrun,?_,Kp.set w h rfl rfl⟩
   have:=h.set (.cells (jd (pre++(flat (cur.set i cur[l.length-1-i])++post)) (pre.length+(l.length-1-i)*8) (dc cur[i])).toArray 47)
   rw[mT _ _ hjs] at this
   rw[mT _ _ hjs]
   exact this
  refine aI.fin (fun w2 hk2 _ hB2=>?_)
  repeat (first|apply aj|(apply ar;rfl;(first|apply az|apply aD|apply dG|apply xL)<;>first|rfl|(apply Ar.mk;omega)))
  refine NG.round (i+1,(cur.set i cur[l.length-1-i]).set (l.length-1-i) cur[i]) ?_ ⟨yW hr (by omega) (by omega) hii hji,by omega,hB2,hk1.trans hk2⟩ (by simp only;omega)
  refine⟨rfl,?_,?_,True.intro⟩
  ·rw[show(((i+1:Nat):Int))=(i:Int)+1 from by omega];exact rfl
  ·rw[show((l.length:Int)-1-((i+1:Nat):Int))=((l.length-1-i:Nat):Int)-1 from by omega];exact rfl
 ·have g1:¬(i:Int)<(l.length:Int)-1-i:=by omega
  repeat (first|apply aj|(apply ar;rfl;(first|apply az|apply cG)<;>first|rfl|(apply bN;first|assumption|omega)))
  refine bG rfl ?_
  repeat apply aj
  refine nF (Or.inr rfl) Tryz.results141 ?_
  exact⟨rfl,by rw[←yX hr (by omega)];exact hB1,hk1⟩
end
section
theorem IF(w:World)(a0 a1 a2 a3 a4 a5 a6 a7:UInt8):(Instr.buildSlice 93 1 #[(0,.agg #[bv a0,bv a1,bv a2,bv a3,bv a4,bv a5,bv a6,bv a7])]).run Tryz.prog w= .ok (.slice (some ⟨w.heap.size,0,none⟩) 1 1) {w with heap:=w.heap.push (.cells #[bv a0,bv a1,bv a2,bv a3,bv a4,bv a5,bv a6,bv a7] 47)}:=by kernel_rfl
theorem G6(x:Dg)(w:World):(Instr.buildSlice 93 1 #[(0,dv x)]).run Tryz.prog w= .ok (.slice (some ⟨w.heap.size,0,none⟩) 1 1) {w with heap:=w.heap.push (.cells (dc x).toArray 47)}:=by
 obtain⟨l,hl⟩:=x
 match l,hl with
 |[a0,a1,a2,a3,a4,a5,a6,a7],_=>exact IF w a0 a1 a2 a3 a4 a5 a6 a7
def Tr.anc(t:Tr):Nat→Dg→Dg
 |0,x=>x
 |k+1,x=>t.anc k (t.par x)
def Tr.dY(t:Tr):Nat→Dg→List Dg
 |0,x=>[x]
 |k+1,x=>x::t.dY k (t.par x)
theorem Tr.eP(t:Tr):∀(k:Nat) (x:Dg),(t.dY k x).length=k+1
 |0,_=>rfl
 |k+1,x=>by simp[Tr.dY,Tr.eP t k]
theorem Tr.vf(t:Tr):∀(k:Nat) (x:Dg),t.anc (k+1) x=t.par (t.anc k x)
 |0,_=>rfl
 |k+1,x=>by rw[Tr.anc,Tr.vf t k];rfl
theorem Tr.lU(t:Tr):∀(k:Nat) (x:Dg),t.dY (k+1) x=t.dY k x++[t.anc (k+1) x]
 |0,_=>rfl
 |k+1,x=>by rw[Tr.dY,Tr.lU t k];rfl
theorem oK(a b:List Dg):flat (a++b)=flat a++flat b:=by simp[flat]
theorem iy(x:Dg):flat [x]=dc x:=by simp[flat]
theorem wi{w:World}{b base:Nat}{l:List Dg}(h:aF w b (.cells (flat l).toArray 47))(hb:base≤b)(hl:l.length≤1000000):w.ownsRow base 47 8 (.slice (some ⟨b,0,none⟩) l.length l.length) l.length (flat l):=by
 refine⟨dD l,Or.inr ⟨b,l.length,(flat l).toArray,rfl,hb,h,Nat.le_refl _,by simp only[maxLen];omega,by simp[dD],?_⟩⟩
 rw[←dD l]
 simp
theorem Ei{w:World}{base n:Nat}{v:Value}{l:List Dg}(h:w.ownsRow base 47 8 v n (flat l))(hn:0<n):∃g cap post,v= .slice (some ⟨g,0,none⟩) n cap∧base≤g∧n≤cap∧aF w g (.cells (flat l++post).toArray 47):=by
 obtain⟨h1,h2⟩:=h
 rcases h2 with⟨_,rfl⟩|⟨g,cap,cur,rfl,hg,hh,hnc,hcm,hcs,ht⟩
 ·omega
 ·refine⟨g,cap,cur.toList.drop (n*8),rfl,hg,hnc,?_⟩
  have:cur=(flat l++cur.toList.drop (n*8)).toArray:=by
   rw[←ht,List.take_append_drop]
  rw[←this]
  exact hh
attribute [local irreducible] CG NG SG aK aI Row aF aE
theorem oJ{w:World}{bt bm:Nat}{t:Tr}(hT:cj w bt bm t)(x y:Dg)(m:Nat)(hm:m≤5000)(hy:t.anc m x=y)(hne:∀j,j<m→t.anc j x≠y)(hh:∀j,j<m→t.has (t.anc j x)=true):
  Calls Tryz.prog 107 #[.pointer (some ⟨bt,0,none⟩),dv x,dv y] w (fun e w'=>∃b c post,e= .returned (.slice (some ⟨b,0,none⟩) (m+1) c)∧w.heap.size≤b∧m+1≤c∧aF w' b (.cells (flat (t.dY m x).reverse++post).toArray 47)∧Kp [] w w'):=by
 refine ey Tryz.func107 rfl Tryz.ntmps107 rfl ?_
 repeat apply aj
 refine SG.box rfl rfl rfl (ag rfl) (fun b4 w1 hk1 hb4 hB4=>?_)
 refine SG.box rfl rfl rfl (ag rfl) (fun b5 w2 hk2 hb5 hB5=>?_)
 have e4:=hB4.lt
 have e5:=hB5.lt
 have eT:=hT.blk.lt
 have eM:=hT.map.lt
 have hk02:=hk1.trans hk2
 have hB4:=hB4.ay hk2
 have hR4:Row w2 b4 0 (dc x):=Row.all hB4 rfl
 repeat (first|apply aj|(apply ar;rfl;(first|apply aD|apply bj)<;>first|rfl|assumption|exact List.not_mem_nil|apply ah))
 refine SG.buildSlice rfl rfl rfl rfl (G6 x) (fun bs w3 hk3 hbs hBs=>?_)
 repeat (first|apply aj|(apply ar;rfl;apply aD<;>rfl))
 have hk03:=hk02.trans hk3
 refine CG.loop (X:=Nat×Value) (fun q=>[(0,.pointer (some ⟨bt,0,none⟩)),(4,.pointer (some ⟨b4,0,none⟩)),(5,.pointer (some ⟨b5,0,none⟩)),(7,q.2)])
  (fun q w'=>q.1≤m∧Kp [] w w'∧w2.heap.size≤w'.heap.size∧cj w' bt bm t∧aF w' b4 (.cells (dc (t.anc q.1 x)).toArray 47)∧aF w' b5 (.cells (dc y).toArray 47)∧w'.ownsRow w2.heap.size 47 8 q.2 (q.1+1) (flat (t.dY q.1 x)))
  (fun q=>m-q.1) (0,.slice (some ⟨bs,0,none⟩) 1 1) ⟨Nat.zero_le _,hk03,hk3.size,hT.ay hk03,hB4.ay hk3,hB5.ay hk3,?_⟩ (aS.of rfl) ?_
 ·have h0:flat [x]=dc x:=iy x
  rw[←h0] at hBs
  exact wi (l:=[x]) hBs hbs (by simp)
 rintro⟨k,v⟩ w4 ⟨hkm,hk4,hsz,hT4,hB4,hB5,hown⟩
 simp only at hkm hB4 hown
 have hR4:Row w4 b4 0 (dc (t.anc k x)):=Row.all hB4 rfl
 have hR5:Row w4 b5 0 (dc y):=Row.all hB5 rfl
 by_cases hlt:k<m
 ·have hab:=hne k hlt
  have hak:=hh k hlt
  repeat (first|apply aj|(apply ar;rfl;(first|apply bj|apply xM)<;>first|rfl|assumption|(apply bN;first|assumption|omega)|exact List.not_mem_nil|apply ah))
  refine bL rfl ?_
  repeat apply aj
  have hr17:=hT4.vT
  have hm4:=hT4.map
  have hra:=Tr.eU hak
  refine CG.tail mixed 7 [0,1,2,3,4,5,6] (by kernel_rfl) ?_
  repeat (apply bZ;rfl;rfl;(first|apply SC|apply az|apply bf|apply bj|apply aW|apply bM|apply qu)<;>first|rfl|assumption|exact List.not_mem_nil|apply ah|exact kX (by assumption)|fail)
  refine aI.tl (fun w5 hk5 _ _=>?_)
  refine SG.aN rfl rfl (ag rfl) (ag rfl) (hB4.ay hk5) (ah _) (ah _) (bu _) (fun w6 hk6 hB46=>?_)
  have hanc:(t.nd (t.anc k x)).parent=t.anc (k+1) x:=(Tr.vf t k x).symm
  rw[hanc] at hB46
  have hk06:=(hk4.trans hk5).ai hk6 (by first|exact aV (by omega)|exact gj (by omega) (by omega))
  have hT6:=(hT4.ay hk5).kp hk6 (by first|exact bP (by omega)|exact fG (by omega) (by omega)) (by first|exact bP (by omega)|exact fG (by omega) (by omega))
  have hB56:=(hB5.ay hk5).kp hk6 (by first|exact bP (by omega)|exact fG (by omega) (by omega))
  have hown6:=dS (aT hown hk5) hk6 (fun g hg=>bP (by have:=(hown.lt g hg).1;omega))
  have hR46:Row w6 b4 0 (dc (t.anc (k+1) x)):=Row.all hB46 rfl
  have s5:=hk5.size
  have s6:=hk6.size
  repeat (first|apply aj|(apply ar;rfl;(first|apply az|apply bj)<;>first|rfl|assumption|exact List.not_mem_nil|apply ah))
  refine SG.buildSlice rfl rfl rfl rfl (G6 _) (fun bn w7 hk7 hbn hBn=>?_)
  have hown7:=aT hown6 hk7
  have s7:=hk7.size
  have hRn:Row w7 bn 0 (dc (t.anc (k+1) x)):=Row.all hBn rfl
  refine SG.append rfl rfl rfl (ag rfl) (ag rfl) rfl rfl rfl hown7 hRn (ah _) (bu _) (by simp only[maxLen];omega) (by show(k+1+1)*8≤_;omega) (by omega) (fun v' w8 hk8 hown8=>?_)
  repeat (first|apply aj|(apply ar;rfl;apply aD<;>rfl))
  have hob:∀g,v.ownBlock=some g→w2.heap.size≤g:=fun g hg=>(hown.lt g hg).1
  have hnb:∀z,z<w2.heap.size→z∉aP v:=by
   intro z hz hm
   unfold aP at hm
   cases hv:v.ownBlock with
   |none=>rw[hv] at hm;simp at hm
   |some g=>rw[hv] at hm;simp at hm;have:=hob g hv;omega
  have s02:=hk02.size
  have hk08:Kp [] w w8:=(hk06.trans hk7).ai hk8 (fun z hz=>Or.inr (by
   by_cases h:z<w2.heap.size
   ·exact absurd hz (hnb z h)
   ·omega))
  refine NG.round (k+1,v') (aS.of rfl) ⟨by omega,hk08,by have:=hk8.size;omega,(hT6.ay hk7).kp hk8 (hnb _ (by omega)) (hnb _ (by omega)),(hB46.ay hk7).kp hk8 (hnb _ (by omega)),(hB56.ay hk7).kp hk8 (hnb _ (by omega)),?_⟩ (by simp only;omega)
  rw[Tr.lU,oK,iy]
  exact hown8
 ·have hkm':k=m:=by omega
  subst hkm'
  rw[hy] at hB4 hR4
  repeat (first|apply aj|(apply ar;rfl;(first|apply bj|apply xM)<;>first|rfl|assumption|exact List.not_mem_nil|apply ah|exact bK rfl))
  refine bG rfl ?_
  obtain⟨gb,cap,post,rfl,hgb,hcap,hBg⟩:=Ei hown (by omega)
  have hcl:(t.dY k x).length=k+1:=Tr.eP t k x
  have hrev:=mz (w:=w4) (c:=cap) (pre:=[]) (l:=t.dY k x) (post:=post) hBg (by omega)
  rw[hcl] at hrev
  repeat (first|apply aj|(apply ar;rfl;apply az<;>rfl))
  refine SG.call rfl rfl rfl (by repeat' (first|exact True.intro|exact ag rfl|refine And.intro ?_ ?_)) (hrev.mono (fun e w5 h=>?_))
  obtain⟨h1,h2,h3⟩:=h
  refine⟨_,h1,?_⟩
  repeat (first|apply aj|(apply ar;rfl;(first|apply az|apply aD)<;>rfl))
  refine aO (Or.inl rfl) Tryz.results107 (aC.tmp rfl) ?_
  have:=hk02.size
  exact⟨gb,cap,post,rfl,by omega,hcap,h2,hk4.ai h3 (by first|exact aV (by omega)|exact gj (by omega) (by omega))⟩
end
section
abbrev tt(z:Int):List Value:=[.int .i64 z]
structure Bl where
 par:Dg
 ht:Int
 mkr:Dg
 txs:List Tx
structure Bm where
 par:Dg
 ht:Int
 mkr:Dg
 a:Option Addr
 c:Nat
 xs:List Tm
def Bm.b(x:Bm):Bl:=⟨x.par,x.ht,x.mkr,x.xs.map (·.t)⟩
def dq(x:Bm):List Value:=dc x.par++(.int .i64 x.ht::(dc x.mkr++[.slice x.a x.xs.length x.c]))
def iH(x:Bm):Value:= .agg (dq x).toArray
theorem aJ(x:Bm):(dq x).length=18:=by simp[dq,ah]
theorem dU(x:Bm):bF (dq x)=true:=by simp[dq,bF,dc,jJ]
structure Bm.In(x:Bm)(n:Nat)(w:World):Prop where
 tx:l4 w n x.a x.xs
 len:x.xs.length≤1000000
theorem Bm.In.ay{x:Bm}{n:Nat}{w w':World}(h:x.In n w)(hk:Kp [] w w'):x.In n w':=⟨h.tx.ay hk,h.len⟩
theorem nZ{w:World}{b off:Nat}{x:Bm}(h:Row w b off (dq x)):Row w b off (dc x.par)∧Row w b (off+8) [.int .i64 x.ht]∧Row w b (off+9) (dc x.mkr)∧Row w b (off+17) [.slice x.a x.xs.length x.c]:=by
 have h0:=h.part [] (dc x.par) (.int .i64 x.ht::(dc x.mkr++[.slice x.a x.xs.length x.c])) (by simp[dq])
 have h1:=h.part (dc x.par) [.int .i64 x.ht] (dc x.mkr++[.slice x.a x.xs.length x.c]) (by simp[dq])
 have h2:=h.part (dc x.par++[.int .i64 x.ht]) (dc x.mkr) [.slice x.a x.xs.length x.c] (by simp[dq])
 have h3:=h.part (dc x.par++(.int .i64 x.ht::dc x.mkr)) [.slice x.a x.xs.length x.c] [] (by simp[dq])
 simp only[List.length_append,ah,List.length_cons,List.length_nil,Nat.add_zero] at h0 h1 h2 h3
 exact⟨h0,h1,h2,h3⟩
theorem cE{w:World}{b:Nat}{T:TypeId}{x:Bm}(h:aF w b (.cells (dq x).toArray T)):Row w b 0 (dq x)∧Row w b 0 (dc x.par)∧Row w b 8 [.int .i64 x.ht]∧Row w b 9 (dc x.mkr)∧Row w b 17 [.slice x.a x.xs.length x.c]:=by
 have h0:Row w b 0 (dq x):=Row.all h rfl
 have h1:=nZ h0
 simp only[Nat.zero_add] at h1
 exact⟨h0,h1⟩
theorem xQ{w:World}{base n m sz:Nat}{T:TypeId}{v:Value}{xs:List Value}(e:n=m)(h:w.ownsRow base T sz v n xs):w.ownsRow base T sz v m xs:=e▸h
theorem E3(x:Dg)(w:World):(Instr.buildSlice 93 1 #[(0,dv x)]).run Tryz.prog w= .ok (.slice (some ⟨w.heap.size,0,none⟩) 1 1) {w with heap:=w.heap.push (.cells (dc x).toArray 47)}:=G6 x w
theorem take_one{α β:Type}(f:α→β){l:List α}{i:Nat}(h:i<l.length):((l.map f).take (i+1))=(l.map f).take i++[f l[i]]:=by
 rw[List.take_add_one,List.getElem?_map,List.getElem?_eq_getElem h]
 rfl
attribute [local irreducible] CG NG SG aK aI Row aF aE aM num c9 de cQ cJ qw cP bg dB kV dP bE cV aR
theorem zF{w:World}{n0:Nat}{x:Bm}(hx:x.In n0 w):kt Tryz.prog 3 tt 1 140 #[iH x] w (x.xs.map (·.t.fee)):=by
 refine bA Tryz.func140 rfl Tryz.ntmps140 rfl ?_
 have hl:=hx.len
 have hS:=hx.tx.sl
 clear hx
 repeat apply aj
 refine SG.box rfl rfl rfl (ag rfl) (fun b1 w1 hk1 hb1 hB1=>?_)
 have hB1:aF w1 b1 (.cells (dq x).toArray 50):=hB1
 obtain⟨-,-,-,-,r3⟩:=cE hB1
 obtain⟨par,ht,mkr,a,c,xs⟩:=x
 simp only at hl hS r3⊢
 repeat (first|apply aj|(apply ar;rfl;(first|apply aD|apply bf|apply aW|apply dy)<;>first|rfl|assumption|exact List.not_mem_nil))
 refine SG.o8 (e:=3) (c:=xs.length) rfl rfl rfl (ag rfl) (ag rfl) rfl rfl (by show 8*_≤_;omega) (by simp only[maxLen];omega) (fun b w2 hk2 hb2 ho=>?_)
 have k2:=hk1.trans hk2
 have r3:=r3.ay hk2
 repeat (first|apply aj|(apply ar;rfl;(first|apply az|apply aD|apply bf|apply aW|apply dy)<;>first|rfl|assumption|exact List.not_mem_nil))
 refine CG.loop (X:=Nat×Value) (fun q=>[(3,q.2),(11,.slice a xs.length c),(12,.int .i64 (xs.length:Int)),(13,.int .i64 (q.1:Int))])
  (fun q w'=>q.1≤xs.length∧Kp [] w w'∧w'.ownsRow w.heap.size 3 1 q.2 q.1 (bO tt ((xs.map (·.t.fee)).take q.1)))
  (fun q=>xs.length-q.1) (0,.slice (some ⟨b,0,none⟩) 0 xs.length) ⟨Nat.zero_le _,k2,cX ho hk1.size⟩ (aS.of rfl) ?_
 rintro⟨i,v⟩ w3 ⟨hi,k3,ho3⟩
 simp only at hi ho3
 refine CG.to [(3,v),(11,.slice a xs.length c),(12,.int .i64 (xs.length:Int)),(13,.int .i64 (i:Int))] (aS.of rfl) ?_
 by_cases hlt:i<xs.length
 ·have g1:(i:Int)<(xs.length:Int):=by omega
  obtain⟨ba,off,rfl,hrow⟩:=(hS.ay k3).at hlt
  repeat (first|apply aj|(apply ar;rfl;apply cG<;>first|rfl|(apply bK;first|assumption|omega)))
  refine bL rfl ?_
  repeat (first|apply aj|(apply ar;rfl;(first|apply bj|apply fv)<;>first|rfl|(apply Ar.mk;omega)|assumption|exact List.not_mem_nil|apply au))
  refine SG.alloc rfl rfl rfl (fun b5 w5 hk5 hb5 hB5=>?_)
  refine SG.aN (l:=bV xs[i]) rfl rfl (ag rfl) (ag rfl) hB5 (au _) rfl (cC _) (fun w6 hk6 hB6=>?_)
  have k36:=hk5.ai hk6 (aV hb5)
  obtain⟨-,-,-,q2,-⟩:=aZ hB6
  clear hrow
  repeat (first|apply aj|(apply ar;rfl;(first|apply az|apply bf|apply aW)<;>first|rfl|assumption|exact List.not_mem_nil))
  refine SG.buildSlice rfl rfl rfl rfl (Pt _) (fun b7 w7 hk7 hb7 hB7=>?_)
  have s3:=k3.size
  have s36:=k36.size
  have s7:=hk7.size
  have k37:=k36.trans hk7
  have ho7:=aT ho3 k37
  have e7:((xs.map (·.t.fee)).take i).length=i:=by rw[List.length_take,List.length_map];omega
  have ho7:=xQ e7.symm ho7
  refine SG.kr (enc:=tt) (xs:=(xs.map (·.t.fee)).take i) (ys:=[xs[i].t.fee]) (base:=w.heap.size) rfl rfl rfl (ag rfl) (ag rfl) rfl rfl rfl rfl (fun _=>rfl) (fun _=>rfl) ho7 (iA (enc:=tt) (sz:=1) (x:=xs[i].t.fee) (fun _=>rfl) hB7) (by rw[e7];simp only[maxLen,List.length_singleton];omega) (by rw[e7];show(i+1)*8≤_;omega) (by omega) (fun v8 w8 hk8 ho8 hv8=>?_)
  rw[←take_one (fun x:Tm=>x.t.fee) hlt] at ho8
  have e8:((xs.map (·.t.fee)).take (i+1)).length=i+1:=by rw[List.length_take,List.length_map];omega
  rw[e8] at ho8
  repeat (first|apply aj|(apply ar;rfl;(first|apply az|apply aD|apply dG)<;>first|rfl|(apply Ar.mk;omega)))
  refine NG.round (i+1,v8) (aS.of rfl) ⟨hlt,(k3.trans k37).ai hk8 (eO ho7 (Nat.le_refl _)),ho8⟩ (by simp only;omega)
 ·have g1:¬(i:Int)<(xs.length:Int):=by omega
  have e8:i=xs.length:=by omega
  subst e8
  rw[List.take_of_length_le (by rw[List.length_map];exact Nat.le_refl _)] at ho3
  repeat (first|apply aj|(apply ar;rfl;apply cG<;>first|rfl|(apply bN;first|assumption|omega)))
  refine bG rfl ?_
  repeat (first|apply aj|(apply ar;rfl;(first|apply az|apply aD)<;>rfl))
  refine aO (Or.inl rfl) Tryz.results140 (aC.tmp rfl) ?_
  exact⟨v,rfl,by rw[List.length_map];exact ho3,k3⟩
theorem wv{w:World}{n0:Nat}{x:Bm}(hx:x.In n0 w):kt Tryz.prog 47 dc 8 133 #[iH x] w (x.xs.map (fun x=>aR x.t)):=by
 refine bA Tryz.func133 rfl Tryz.ntmps133 rfl ?_
 have hl:=hx.len
 have hS:=hx.tx.sl
 have hI:=hx.tx.ins
 clear hx
 repeat apply aj
 refine SG.box rfl rfl rfl (ag rfl) (fun b1 w1 hk1 hb1 hB1=>?_)
 have hB1:aF w1 b1 (.cells (dq x).toArray 50):=hB1
 obtain⟨-,-,-,-,r3⟩:=cE hB1
 obtain⟨par,ht,mkr,a,c,xs⟩:=x
 simp only at hl hS hI r3⊢
 repeat (first|apply aj|(apply ar;rfl;(first|apply aD|apply bf|apply aW|apply dy)<;>first|rfl|assumption|exact List.not_mem_nil))
 refine SG.o8 (e:=47) (c:=xs.length) rfl rfl rfl (ag rfl) (ag rfl) rfl rfl (by show 8*_≤_;omega) (by simp only[maxLen];omega) (fun b w2 hk2 hb2 ho=>?_)
 have k2:=hk1.trans hk2
 have r3:=r3.ay hk2
 repeat (first|apply aj|(apply ar;rfl;(first|apply az|apply aD|apply bf|apply aW|apply dy)<;>first|rfl|assumption|exact List.not_mem_nil))
 refine CG.loop (X:=Nat×Value) (fun q=>[(3,q.2),(11,.slice a xs.length c),(12,.int .i64 (xs.length:Int)),(13,.int .i64 (q.1:Int))])
  (fun q w'=>q.1≤xs.length∧Kp [] w w'∧w'.ownsRow w.heap.size 47 8 q.2 q.1 (bO dc ((xs.map (fun x=>aR x.t)).take q.1)))
  (fun q=>xs.length-q.1) (0,.slice (some ⟨b,0,none⟩) 0 xs.length) ⟨Nat.zero_le _,k2,cX ho hk1.size⟩ (aS.of rfl) ?_
 rintro⟨i,v⟩ w3 ⟨hi,k3,ho3⟩
 simp only at hi ho3
 refine CG.to [(3,v),(11,.slice a xs.length c),(12,.int .i64 (xs.length:Int)),(13,.int .i64 (i:Int))] (aS.of rfl) ?_
 by_cases hlt:i<xs.length
 ·have g1:(i:Int)<(xs.length:Int):=by omega
  obtain⟨ba,off,rfl,hrow⟩:=(hS.ay k3).at hlt
  repeat (first|apply aj|(apply ar;rfl;apply cG<;>first|rfl|(apply bK;first|assumption|omega)))
  refine bL rfl ?_
  repeat (first|apply aj|(apply ar;rfl;(first|apply bj|apply fv)<;>first|rfl|(apply Ar.mk;omega)|assumption|exact List.not_mem_nil|apply au))
  refine SG.alloc rfl rfl rfl (fun b5 w5 hk5 hb5 hB5=>?_)
  refine SG.aN (l:=bV xs[i]) rfl rfl (ag rfl) (ag rfl) hB5 (au _) rfl (cC _) (fun w6 hk6 hB6=>?_)
  have k36:=hk5.ai hk6 (aV hb5)
  obtain⟨q2,-⟩:=aZ hB6
  clear hrow
  repeat (first|apply aj|(apply ar;rfl;(first|apply az|apply bj)<;>first|rfl|assumption|exact List.not_mem_nil|apply au))
  refine SG.ret rfl rfl rfl (vs:=[eR xs[i]]) (bz.of rfl) (iP ((hI _ (List.getElem_mem hlt)).ay (k3.trans k36))) (fun w6' hk6'=>?_)
  have k36:=k36.trans hk6'
  refine SG.buildSlice rfl rfl rfl rfl (E3 _) (fun b7 w7 hk7 hb7 hB7=>?_)
  have s3:=k3.size
  have s36:=k36.size
  have s7:=hk7.size
  have k37:=k36.trans hk7
  have ho7:=aT ho3 k37
  have e7:((xs.map (fun x=>aR x.t)).take i).length=i:=by rw[List.length_take,List.length_map];omega
  have ho7:=xQ e7.symm ho7
  refine SG.kr (enc:=dc) (xs:=(xs.map (fun x=>aR x.t)).take i) (ys:=[aR xs[i].t]) (base:=w.heap.size) rfl rfl rfl (ag rfl) (ag rfl) rfl rfl rfl rfl ah bu ho7 (iA (enc:=dc) (sz:=8) (x:=aR xs[i].t) ah hB7) (by rw[e7];simp only[maxLen,List.length_singleton];omega) (by rw[e7];show(i+1)*8≤_;omega) (by omega) (fun v8 w8 hk8 ho8 hv8=>?_)
  rw[←take_one (fun x:Tm=>aR x.t) hlt] at ho8
  have e8:((xs.map (fun x=>aR x.t)).take (i+1)).length=i+1:=by rw[List.length_take,List.length_map];omega
  rw[e8] at ho8
  repeat (first|apply aj|(apply ar;rfl;(first|apply az|apply aD|apply dG)<;>first|rfl|(apply Ar.mk;omega)))
  refine NG.round (i+1,v8) (aS.of rfl) ⟨hlt,(k3.trans k37).ai hk8 (eO ho7 (Nat.le_refl _)),ho8⟩ (by simp only;omega)
 ·have g1:¬(i:Int)<(xs.length:Int):=by omega
  have e8:i=xs.length:=by omega
  subst e8
  rw[List.take_of_length_le (by rw[List.length_map];exact Nat.le_refl _)] at ho3
  repeat (first|apply aj|(apply ar;rfl;apply cG<;>first|rfl|(apply bN;first|assumption|omega)))
  refine bG rfl ?_
  repeat (first|apply aj|(apply ar;rfl;(first|apply az|apply aD)<;>rfl))
  refine aO (Or.inl rfl) Tryz.results133 (aC.tmp rfl) ?_
  exact⟨v,rfl,by rw[List.length_map];exact ho3,k3⟩
end
section
open Go.Proofs
open Classical in
noncomputable def fH(room h:Int)(s:List En×Int)(t:Tx):List En×Int:=if(s.1.find? (jD t.frm t.non)).isSome then s else(oX room s.1 h t,if eW room s.1 h t=0 then s.2+1 else s.2)
noncomputable def qd(room:Int)(l:List En)(h:Int)(ts:List Tx):List En×Int:=ts.foldl (fH room h) (l,0)
theorem zY{room h:Int}{s:List En×Int}{t:Tx}(hi:dF room s.1):dF room (fH room h s t).1:=by
 unfold fH
 split
 ·exact hi
 ·exact vi hi
theorem E9{room h:Int}{s:List En×Int}{t:Tx}:s.2≤(fH room h s t).2∧(fH room h s t).2≤s.2+1:=by
 unfold fH
 split
 ·omega
 ·simp only
  split<;>omega
theorem n9{room h:Int}:∀(ts:List Tx) {s:List En×Int},dF room s.1→dF room (ts.foldl (fH room h) s).1
 |[],_,hi=>hi
 |t::ts,s,hi=>n9 ts (s:=fH room h s t) (zY hi)
theorem yx{room h:Int}:∀(ts:List Tx) {s:List En×Int},s.2≤(ts.foldl (fH room h) s).2∧(ts.foldl (fH room h) s).2≤s.2+ts.length
 |[],s=>by simp
 |t::ts,s=>by
  have h1:=yx (room:=room) (h:=h) ts (s:=fH room h s t)
  have h2:=E9 (room:=room) (h:=h) (s:=s) (t:=t)
  simp only[List.foldl_cons,List.length_cons]
  omega
theorem zZ{room h:Int}{l:List En}{ts:List Tx}(hi:dF room l):dF room (qd room l h ts).1:=n9 ts hi
theorem uJ(ms:List Em)(k:Dg)(n:Int):((ms.map Em.en).find? (jD k n)).isSome=true↔ms.findIdx (fun e=>jD k n e.en)<ms.length:=by
 rw[List.find?_isSome,List.findIdx_lt_length]
 constructor
 ·rintro⟨x,hx,h⟩
  obtain⟨e,he,rfl⟩:=List.mem_map.1 hx
  exact⟨e,he,h⟩
 ·rintro⟨e,he,h⟩
  exact⟨e.en,List.mem_map.2 ⟨e,he,rfl⟩,h⟩
attribute [local irreducible] CG NG SG aK aI Row aF aE aM aR bg
theorem zX{w:World}{base p:Nat}{v:Value}{room h:Int}{ms:List Em}(hP:Pl w base p v room ms)(hI:dF room (ms.map Em.en))(hr:room≤1024){a:Option Addr}{c:Nat}{xs:List Tm}(hX:l4 w base a xs)(hxl:xs.length≤1000000):
  Calls Tryz.prog 101 #[.pointer (some ⟨p,0,none⟩),.int .i64 h,.slice a xs.length c] w (fun e w'=>e= .returned (.int .i64 (qd room (ms.map Em.en) h (xs.map (·.t))).2)∧∃v' ms',Pl w' base p v' room ms'∧ms'.map Em.en=(qd room (ms.map Em.en) h (xs.map (·.t))).1∧Kp (p::aP v) w w'∧∀g,v'.ownBlock=some g→v.ownBlock=some g∨w.heap.size≤g):=by
 refine ey Tryz.func101 rfl Tryz.ntmps101 rfl ?_
 have hlp:=hP.blk.lt
 repeat (first|apply aj|(apply ar;rfl;(first|apply iC|apply az|apply aD)<;>rfl))
 refine bG rfl ?_
 repeat (first|apply aj|(apply ar;rfl;(first|apply az|apply aD|apply dy)<;>rfl))
 refine CG.loop (X:=Nat×(Value×List Em)×Int) (fun x=>[(0,.pointer (some ⟨p,0,none⟩)),(1,.int .i64 h),(7,.int .i64 x.2.2),(12,.slice a xs.length c),(13,.int .i64 (xs.length:Int)),(14,.int .i64 (x.1:Int))])
  (fun x w'=>x.1≤xs.length∧Kp (p::aP v) w w'∧Pl w' base p x.2.1.1 room x.2.1.2∧(x.2.1.2.map Em.en,x.2.2)=((xs.map (·.t)).take x.1).foldl (fH room h) (ms.map Em.en,0)∧(∀g,x.2.1.1.ownBlock=some g→v.ownBlock=some g∨w.heap.size≤g)∧l4 w' base a xs)
  (fun x=>xs.length-x.1) (0,(v,ms),0) ⟨Nat.zero_le _,Kp.refl _ _,hP,rfl,fun g hg=>Or.inl hg,hX⟩ (aS.of rfl) ?_
 rintro⟨i,⟨v1,ms1⟩,n⟩ w1 ⟨hi,hk1,hP1,hs,hv1,hX1⟩
 simp only at hi hP1 hs hv1
 refine CG.to [(0,.pointer (some ⟨p,0,none⟩)),(1,.int .i64 h),(7,.int .i64 n),(12,.slice a xs.length c),(13,.int .i64 (xs.length:Int)),(14,.int .i64 (i:Int))] (aS.of rfl) ?_
 by_cases hlt:i<xs.length
 rotate_left
 ·have g1:¬(i:Int)<(xs.length:Int):=by omega
  rw[List.take_of_length_le (by rw[List.length_map];omega)] at hs
  have e1:ms1.map Em.en=(qd room (ms.map Em.en) h (xs.map (·.t))).1:=congrArg Prod.fst hs
  have e2:n=(qd room (ms.map Em.en) h (xs.map (·.t))).2:=congrArg Prod.snd hs
  rw[←e2]
  repeat (first|apply aj|(apply ar;rfl;apply cG<;>first|rfl|(apply bN;first|assumption|omega)))
  refine bG rfl ?_
  repeat (first|apply aj|(apply ar;rfl;(first|apply az|apply aD)<;>rfl))
  refine aO (Or.inl rfl) Tryz.results101 (aC.tmp rfl) ?_
  exact⟨rfl,v1,ms1,hP1,e1,hk1,hv1⟩
 have g1:(i:Int)<(xs.length:Int):=by omega
 have hI1:dF room (ms1.map Em.en):=by
  have:=n9 (room:=room) (h:=h) ((xs.map (·.t)).take i) (s:=(ms.map Em.en,0)) hI
  rw[←hs] at this
  exact this
 have hn:=yx (room:=room) (h:=h) ((xs.map (·.t)).take i) (s:=(ms.map Em.en,0))
 rw[←hs,List.length_take,List.length_map,Nat.min_eq_left (by omega)] at hn
 simp only at hn
 have hll1:ms1.length≤1024:=by have:=hI1.len;rw[List.length_map] at this;omega
 have hs':((xs.map (·.t)).take (i+1)).foldl (fH room h) (ms.map Em.en,0)=fH room h (ms1.map Em.en,n) xs[i].t:=by
  rw[List.take_succ_eq_append_getElem (by simpa using hlt),List.foldl_append,←hs,List.getElem_map]
  rfl
 have hxi:=hX1.ins xs[i] (List.getElem_mem hlt)
 obtain⟨g,o1,rfl,hri⟩:=hX1.sl.at hlt
 have hsz1:=hP1.jw
 repeat (first|apply aj|(apply ar;rfl;apply cG<;>first|rfl|(apply bK;first|assumption|omega)))
 refine bL rfl ?_
 repeat (first|apply aj|(apply ar;rfl;(first|apply bj|apply fv)<;>first|rfl|(apply Ar.mk;omega)|assumption|exact List.not_mem_nil|apply au))
 refine SG.alloc rfl rfl rfl (fun b9 w2 hk2 hb9 hB9=>?_)
 refine SG.aN (l:=bV xs[i]) rfl rfl (ag rfl) (ag rfl) hB9 (au _) rfl (cC _) (fun w3 hk3 hB9=>?_)
 have hB9:aF w3 b9 (.cells (bV xs[i]).toArray 52):=hB9
 have k13:Kp [] w1 w3:=hk2.ai hk3 (aV (by omega))
 obtain⟨q,q0,q1,-⟩:=aZ hB9
 clear hri
 have hP3:=hP1.ay k13
 clear q
 repeat (first|apply aj|(apply ar;rfl;(first|apply az|apply bf|apply bj|apply aW)<;>first|rfl|assumption|exact List.not_mem_nil|apply ah))
 refine SG.ret rfl rfl rfl (vs:=[.pointer (some ⟨p,0,none⟩),dv xs[i].t.frm,.int .i64 xs[i].t.non]) (bz.of rfl) (find_spec hP3 (by omega) xs[i].t.frm xs[i].t.non) (fun w4 hk4=>?_)
 have k14:=k13.trans hk4
 have hfs:=uJ ms1 xs[i].t.frm xs[i].t.non
 obtain⟨q,-⟩:=aZ (hB9.ay hk4)
 clear q0 q1
 by_cases hf:ms1.findIdx (fun e=>jD xs[i].t.frm xs[i].t.non e.en)<ms1.length
 ·rw[sL hf]
  have g2:¬((ms1.findIdx (fun e=>jD xs[i].t.frm xs[i].t.non e.en):Nat):Int)<0:=by omega
  have e3:fH room h (ms1.map Em.en,n) xs[i].t=(ms1.map Em.en,n):=by
   unfold fH
   rw[if_pos (hfs.2 hf)]
  rw[e3] at hs'
  generalize ((ms1.findIdx (fun e=>jD xs[i].t.frm xs[i].t.non e.en):Nat):Int)=zz at g2
  repeat (first|apply aj|(apply ar;rfl;(first|apply az|apply cu|apply cG)<;>first|rfl|(apply bN;first|assumption|omega))|refine SG.skip rfl rfl ?_)
  refine bG rfl ?_
  repeat (first|apply aj|(apply ar;rfl;(first|apply az|apply dG)<;>first|rfl|(apply Ar.mk;omega)))
  refine NG.round (i+1,(v1,ms1),n) (aS.of rfl) ⟨by simp only;omega,hk1.trans k14.any,hP1.ay k14,hs'.symm,hv1,hX1.ay k14⟩ (by simp only;omega)
 rw[sK hf]
 have g2:(-1:Int)<0:=by decide
 have e3:fH room h (ms1.map Em.en,n) xs[i].t=(oX room (ms1.map Em.en) h xs[i].t,if eW room (ms1.map Em.en) h xs[i].t=0 then n+1 else n):=by
  unfold fH
  rw[if_neg (fun h=>hf (hfs.1 h))]
 rw[e3] at hs'
 have hX4:=hX1.ay k14
 repeat (apply ar;rfl;(first|apply az|apply bj|apply cG)<;>first|rfl|assumption|(apply bK;first|assumption|omega)|exact List.not_mem_nil|apply au)
 refine SG.call rfl rfl rfl (vs:=[.pointer (some ⟨p,0,none⟩),.int .i64 h,eR xs[i]]) (bz.of rfl) ((vg (h:=h) (hP1.ay k14) (hX4.ins xs[i] (List.getElem_mem hlt)) hI1 hr).mono (fun e w5 hh=>?_))
 obtain⟨he,v5,ms5,hP5,hm5,hk5,hv5⟩:=hh
 refine⟨_,he,?_⟩
 clear he q
 have s4:=k14.size
 have s1:=hk1.size
 have kk:Kp (p::aP v) w w5:=(hk1.trans k14.any).st hk5 (fun z hz=>by
  rcases List.mem_cons.1 hz with rfl|hz
  ·exact Or.inl List.mem_cons_self
  ·rcases hv1 z (aH hz) with hh|hh
   ·exact Or.inl (List.mem_cons_of_mem _ (gg hh))
   ·exact Or.inr hh)
 have hX5:=hX4.S0 (hP1.ay k14) hk5
 have hv5':∀g,v5.ownBlock=some g→v.ownBlock=some g∨w.heap.size≤g:=fun g hg=>by
  rcases hv5 g hg with hh|hh
  ·exact hv1 g hh
  ·exact Or.inr (by omega)
 by_cases hz:eW room (ms1.map Em.en) h xs[i].t=0
 ·rw[if_pos hz] at hs'
  rw[hz]
  have h00:(0:Int)=0:=rfl
  repeat (first|apply aj|(apply ar;rfl;(first|apply cu|apply fF)<;>first|rfl|(apply bK;first|assumption|omega)))
  refine bL rfl ?_
  repeat (first|apply aj|(apply ar;rfl;(first|apply az|apply aD|apply dG)<;>first|rfl|(apply Ar.mk;omega)))
  refine NG.round (i+1,(v5,ms5),n+1) (aS.of rfl) ⟨by simp only;omega,kk,hP5,by simp only;rw[hm5];exact hs'.symm,hv5',hX5⟩ (by simp only;omega)
 ·rw[if_neg hz] at hs'
  generalize eW room (ms1.map Em.en) h xs[i].t=z at hz
  repeat (first|apply aj|(apply ar;rfl;(first|apply cu|apply fF)<;>first|rfl|(apply bN;first|assumption|omega)))
  refine bG rfl ?_
  repeat (first|apply aj|(apply ar;rfl;(first|apply az|apply dG)<;>first|rfl|(apply Ar.mk;omega)))
  refine NG.round (i+1,(v5,ms5),n) (aS.of rfl) ⟨by simp only;omega,kk,hP5,by simp only;rw[hm5];exact hs'.symm,hv5',hX5⟩ (by simp only;omega)
end
end Go.Proofs.YtpnjgjddabeapaaGreatDoor
