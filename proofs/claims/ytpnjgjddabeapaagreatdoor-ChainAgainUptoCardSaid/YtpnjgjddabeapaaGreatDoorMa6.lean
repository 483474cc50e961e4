/-
  ChainAgain answers true for every input of a bulk of at most 1048576, and leaves its arguments as they were. The second form's card; no other conditions.
-/
import Derived.Test.YtpnjgjddabeapaaGreatDoorMa5
namespace Go.Proofs.YtpnjgjddabeapaaGreatDoor
set_option linter.all false
set_option maxHeartbeats 400000000
section
theorem Pn(w:World)(a b:Int)(p:Option Addr)(m cc:Nat):(Instr.build 52 #[(1,.int .i64 a),(2,.int .i64 b),(4,.slice p m cc)]).run Tryz.prog w= .ok (.agg (dc zd++[Value.int .i64 a,Value.int .i64 b,Value.int .i64 0,Value.slice p m cc,Value.slice none 0 0]).toArray) w:=by kernel_rfl
theorem PM(w:World):(Instr.build 31 #[]).run Tryz.prog w= .ok (Am ⟨0,0,0⟩) w:=by kernel_rfl
theorem Pm(w:World):(Instr.build 24 #[(0,.int .u16 10)]).run Tryz.prog w= .ok (Fs [10,0,0,0]) w:=by kernel_rfl
theorem Il:yu ⟨0,0,0⟩=0:=by kernel_rfl
theorem Ih:fS (jK [10,0,0,0] 4)=10:=by kernel_rfl
structure I6(i:Nat)(q:Wl)(y:Bm)(z:Nat)(m:Nm):Prop where
 tr:q.c.tr=Tr.new bI 0
 ns:q.c.ns=[(bI,z,m)]
 ps:q.c.ps.map Em.en=kP i
 nb:q.nb=kN i
 ss:q.ss.map (·.t)=[kS 0,kS 1].take i
 bs:q.bs=[y]
 yb:y.b=(cI dg).b
 mx:m.x=cI dg
 mf:m.f=wM
 mt:m.t=Dy
 ok:fD q.c 0
theorem I6.tip{i:Nat}{q:Wl}{y:Bm}{z:Nat}{m:Nm}(h:I6 i q y z m):aB q.c.ns q.c.tr.tip=some (z,m):=by
 rw[h.ns,h.tr]
 exact if_pos rfl
theorem Bv:dF 256 []:=ED (by decide)
theorem GG:∀i,(kN i).length≤10
 |0=>by decide
 |1=>show 1≤10 by decide
 |_+2=>show 2≤10 by decide
theorem CZ{y:Bm}(h:y.b=(cI dg).b):aQ y.b=bI:=by rw[h];rfl
theorem C1{b:Bd}{l:List Nat}{q:Wl}{y:Bm}(h:Fq b l q y)(hf:b.fork≤1000):ni q 0:=by
 obtain⟨z,m,hns,hmx,hmf,hmt,hme⟩:=h.ns
 have hl:∀d,aB q.c.ns d=if bI=d then some (z,m) else none:=fun d=>by
  rw[hns]
  rfl
 refine⟨⟨by rw[h.tr];exact nJ _ _,by rw[h.tr];show b.fork.toNat≤1000;omega,by rw[h.ps];exact Bv,fun d=>?_,fun d x hx=>?_⟩,fun x hx=>?_,by rw[h.bs];exact Nat.zero_lt_succ _,by rw[h.nb];decide,by rw[h.ss];decide,by rw[h.bs,List.length_singleton];decide⟩
 ·rw[hl,h.tr]
  show(if bI=d then some xZ else none).isSome=_
  by_cases e:bI=d
  ·rw[if_pos e,if_pos e];rfl
  ·rw[if_neg e,if_neg e];rfl
 ·rw[hl] at hx
  by_cases e:bI=d
  ·rw[if_pos e] at hx
   obtain rfl:=Option.some.inj hx
   show 0≤m.x.ht∧m.x.ht≤0∧(m.t.n:Int)≤64*m.x.ht
   rw[hmx,hmt]
   exact⟨Int.le_refl _,Int.le_refl _,Int.le_refl _⟩
  ·rw[if_neg e] at hx;cases hx
 ·rw[h.bs,List.mem_singleton] at hx
  subst hx
  refine⟨(z,m),?_,?_⟩
  ·rw[hl,CZ h.y,if_pos rfl]
  ·rw[h.y]
   show m.x.b=_
   rw[hmx]
theorem Ot{q:Wl}{y:Bm}(h:Fq ⟨0,0,0⟩ [10,0,0,0] q y):∃z m,I6 0 q y z m:=by
 obtain⟨z,m,hns,hmx,hmf,hmt,hme⟩:=h.ns
 exact⟨z,m,h.tr,hns,by rw[h.ps];rfl,h.nb,by rw[h.ss];rfl,h.bs,h.y,hmx,hmf,hmt,(C1 h (by decide)).ch⟩
def Jl:GD:=⟨Bm,hG,fun x=> .tuple #[iH x,.int .i64 0],fun x w=>x.b=kB∧x.In 0 w⟩
theorem Cj(x:Jl.X):cm [] (Jl.phi x):=fun w w' hk h=>⟨h.1,h.2.ay hk⟩
theorem GA{m:Nm}(hx:m.x=cI dg)(hf:m.f=wM){l:List En}(hl:l=kP 2):(⟨bI,m.x.ht+1,d1 8,sB (d1 8) m.f [] (A1 l [])⟩:Bl)=kB:=by
 rw[hl,Ov,hf,Ox,hx]
 rfl
theorem Ow{q:Wl}{y:Bm}{z:Nat}{m qn:Nm}(h:I6 2 q y z m)(hr:∃p,aB q.c.ns kB.par=some p∧eS q.nb kB.ht kB.mkr p.2.f p.2.t [] kB.txs=(0,qn.f,qn.t,qn.es)):qn.f=FF∧qn.es=[0,21]:=by
 obtain⟨p,h1,h2⟩:=hr
 rw[h.ns] at h1
 have h1:some (z,m)=some p:=by rw[←h1];exact(if_pos rfl).symm
 obtain rfl:=Option.some.inj h1
 have h2:eS q.nb 1 (d1 8) m.f m.t [] [kS 0,kS 1]=(0,qn.f,qn.t,qn.es):=h2
 rw[h.nb,h.mf,h.mt,FI] at h2
 simp only[Prod.mk.injEq] at h2
 exact⟨h2.2.1.symm,h2.2.2.2.symm⟩
theorem Ie{l:List Tm}(h:l.map (·.t)=[kS 0,kS 1]):∃a b,l=[a,b]∧b.t=kS 1:=by
 have hl:l.length=2:=by
  have:=congrArg List.length h
  rw[List.length_map] at this
  exact this
 match l,hl with
 |[a,b],_=>
  simp only[List.map_cons,List.map_nil,List.cons.injEq,and_true] at h
  exact⟨a,b,rfl,h.2⟩
theorem It{w:World}{L:Env}{d:Option Nat}{ty:TypeId}{pos:String}{af:Array Edge}{g:Option (Nat×Bool)}{S:List Nat}{F:World→Prop}{x:Operand}{k:Dg}{p:Pu}(hx:bB L x=Fl (oo k p)):aK Tryz.prog S w F L ⟨d,.field 59 x 1,ty,pos,af,g⟩ (.int .i64 p.money):=
 fX (dc k) [.int .i64 p.nonce] hx rfl (by simp[acl,oo]) (by simp[ah])
attribute [local irreducible] CG NG SG aK aI Row aF aE aM bE aQ bD bI wM FF iE aR je fl lH rV qy
theorem uu{w:World}{n bw:Nat}{tot:Int}{q:Wl}(h:df w n tot bw q){y:Bm}{l:List Bm}(hb:q.bs=y::l)(hr:bD y.b=0):dz Tryz.prog 52 #[.pointer (some ⟨bw,0,none⟩)] w (dv (aQ y.b)):=by
 refine bA Tryz.func52 rfl Tryz.ntmps52 rfl ?_
 repeat apply aj
 refine SG.alloc rfl rfl rfl (fun b2 w1 hk1 hb2 hB2=>?_)
 have h1:=h.ay hk1
 obtain⟨a,c,ev,hc,hS⟩:=Sl.own aJ h1.bl rfl
 have hl:0<q.bs.length:=by rw[hb];exact Nat.zero_lt_succ _
 obtain⟨ba,off,rfl,hrow⟩:=hS.at hl
 have e0:q.bs[0]=y:=by simp[hb]
 rw[e0] at hrow
 have hrow:Row w1 ba (off+(0:Int).toNat*18) (dq y):=hrow
 obtain⟨-,-,-,z3⟩:=cy h1.blk
 rw[ev] at z3
 repeat (first|apply aj|(apply ar;rfl;(first|apply bM|apply az|apply bf|apply bj|apply aW|apply Bn)<;>first|rfl|(apply Ar.mk;omega)|assumption|exact List.not_mem_nil|apply aJ))
 have hnm:=fM (h1.bi y (by rw[hb];exact List.mem_cons_self))
 rw[show oS y.b (aQ y.b)= .tuple #[dv (aQ y.b),.int .i64 0] from if_pos hr] at hnm
 refine SG.ret rfl rfl rfl (vs:=[iH y]) (bz.of rfl) hnm (fun w2 hk2=>?_)
 clear z3 hrow
 repeat (apply ar;rfl;(first|apply az|apply dA)<;>rfl)
 refine SG.alloc rfl rfl rfl (fun b3 w3 hk3 hb3 hB3=>?_)
 refine SG.aN (l:=dc (aQ y.b)) rfl rfl (ag rfl) (ag rfl) hB3 (ah _) rfl (bu _) (fun w4 hk4 hB3=>?_)
 have k24:=hk2.trans (hk3.ai hk4 (aV hb3))
 have r3:Row w4 b3 0 (dc (aQ y.b)):=Row.all hB3 rfl
 repeat (first|apply aj|(apply ar;rfl;(first|apply aD|apply bj)<;>first|rfl|assumption|exact List.not_mem_nil|apply ah))
 refine SG.aN (l:=dc (aQ y.b)) rfl rfl (ag rfl) (ag rfl) (hB2.ay k24) (ah _) rfl (bu _) (fun w5 hk5 hB5=>?_)
 have hr:Row w5 b2 0 (dc (aQ y.b)):=Row.all hB5 rfl
 clear r3
 repeat apply aj
 refine aO (Or.inl rfl) Tryz.results52 (aC.agg rfl rfl hr (ah _)) ?_
 exact⟨rfl,(hk1.trans k24).ai hk5 (aV hb2)⟩
theorem lQ(w:World):dz Tryz.prog 10 #[] w (.bool true):=by
 refine wY Tryz.func10 rfl Tryz.ntmps10 ?_
 repeat (first|apply aj|(apply ar;rfl;apply aD<;>rfl))
 refine SG.val rfl rfl rfl rfl (aG rfl PM) ?_
 refine SG.val rfl rfl rfl rfl (aG rfl Pm) ?_
 refine SG.call rfl rfl rfl (vs:=[Am ⟨0,0,0⟩,Fs [10,0,0,0]]) (bz.of rfl) ((oI w Il (by decide) (l:=[10,0,0,0]) (by decide)).mono (fun e w1 hh=>?_))
 obtain⟨hk1,bw,q,y,rfl,h1,hB⟩:=hh
 refine⟨_,rfl,?_⟩
 rw[Ih] at h1
 obtain⟨z,m,hK⟩:=Ot hB
 repeat (first|apply aj|(apply ar;rfl;(first|apply iC|apply az|apply aD)<;>rfl))
 refine bG rfl ?_
 obtain⟨n,hn⟩:∃n,w.heap.size=n:=⟨_,rfl⟩
 rw[hn] at h1
 clear hB
 repeat (first|apply aj|(apply ar;rfl;apply az<;>rfl))
 refine CG.loop (X:=Nat×Wl) (fun p=>[(0,.bool false),(1,.pointer (some ⟨bw,0,none⟩)),(15,.int .i64 (p.1:Int))])
  (fun p w'=>p.1≤2∧Kp [] w w'∧df w' n 10 bw p.2∧I6 p.1 p.2 y z m) (fun p=>2-p.1) (0,q) ⟨Nat.zero_le _,hk1,h1,hK⟩ (aS.of rfl) ?_
 clear hK h1 hk1
 rintro⟨i,q⟩ w1 ⟨hi,hk1,h1,hK⟩
 simp only at hi h1 hK
 refine CG.to [(0,.bool false),(1,.pointer (some ⟨bw,0,none⟩)),(15,.int .i64 (i:Int))] (aS.of rfl) ?_
 by_cases hlt:i<2
 ·have g1:(i:Int)<2:=by omega
  obtain⟨-,z1,-,-⟩:=cy h1.blk
  have hNb:=h1.nb
  have niw:=hNb.H4 h1.blk (by decide) (by decide)
  have hS:∀x∈q.c.vb::q.pm::aP q.vN,x<w1.heap.size:=fun x hx=>by
   rcases List.mem_cons.1 hx with rfl|hx
   ·exact hNb.blk.lt
   rcases List.mem_cons.1 hx with rfl|hx
   ·exact hNb.map.lt
   exact cD hNb.own x (aH hx)
  repeat (first|apply aj|(apply ar;rfl;apply cG<;>first|rfl|(apply bK;first|assumption|omega)))
  refine bL rfl ?_
  repeat (first|apply aj|(apply ar;rfl;(first|apply az|apply aD)<;>rfl))
  refine CG.Cl mixed (q.c.vb::q.pm::aP q.vN,10) 16 [0,1,4,5,6,7,8,9,2,3,10,11,12,13,14,15] [(2,Jj w1.heap.size 5 gw 1 (iE (d1 9) 7) (fun v=>v)),(10,DB (je q.nb (kU (i:Int)) (d1 1)).2.1 (je q.nb (kU (i:Int)) (d1 1)).1 w1.heap.size n q.c.vb q.pm q.vN (je q.nb (kU (i:Int)) (d1 1)).2.2),(14,gV w1.heap.size 52 13),(15,gP w1.heap.size 52)] (by kernel_rfl) ?_ ?_
  ·intro p hp
   simp only[List.mem_cons,List.mem_nil_iff,or_false] at hp
   rcases hp with rfl|rfl|rfl|rfl
   ·exact Ch
   ·exact uE
   ·exact o9
   ·exact pc
  have hwn:n≤w1.heap.size:=h1.ch.w0
  have hnl:q.nb.length≤10:=by rw[hK.nb];exact GG i
  repeat (apply yd;rfl;rfl;apply az<;>rfl)
  refine bE.val rfl rfl rfl rfl (aG rfl (fun W=>DE 9 W)) ?_
  repeat (apply yd;rfl;rfl;(first|apply bM|apply az|apply bf|apply aW)<;>first|rfl|assumption)
  refine bE.val rfl rfl rfl rfl (aG rfl (fun W=>DE 1 W)) ?_
  skip
  refine bE.call rfl rfl rfl rfl (vs:=[.pointer (some ⟨q.c.vb,0,none⟩),dv (d1 1)]) (bz.of rfl) (fun W _ _=>oA q.c.vb (d1 1) W) ?_
  refine bE.uV (vs:=[dv (d1 9),.int .i64 7]) (Jj w1.heap.size 5 gw 1 (iE (d1 9) 7) (fun v=>v)) rfl rfl rfl rfl (bz.of rfl) (fun W hk hF=>(pG (d1 9) 7 W).mono (fun e W' hh=>?_)) (fun v=>?_)
  ·obtain⟨v,he,ho,hk'⟩:=hh
   obtain⟨a,c,rfl,-⟩:=Bs.own ho
   exact⟨(a,c),he,cX ho hk.size,hk'⟩
  refine bE.val rfl rfl rfl rfl (aG rfl (fun W=>Pn W _ _ v.1 _ v.2)) ?_
  refine bE.FT (vs:=[eR ⟨kU (i:Int),v.1,v.2,none,0⟩,.iface 197 (DH q.c.vb (d1 1))]) (DB (je q.nb (kU (i:Int)) (d1 1)).2.1 (je q.nb (kU (i:Int)) (d1 1)).1 w1.heap.size n q.c.vb q.pm q.vN (je q.nb (kU (i:Int)) (d1 1)).2.2) rfl rfl rfl rfl rfl (bz.of rfl) (fun W hk hF=>?_) ?_ (fun y2=>?_)
  ·have ho:W.ownsRow w1.heap.size 5 1 (.slice v.1 (iE (d1 9) 7).length v.2) (iE (d1 9) 7).length (bO gw (iE (d1 9) 7)):=hF _ (.head _) (by kernel_rfl)
   obtain⟨a',c',e,hB⟩:=Bs.own ho
   simp only[Value.slice.injEq,true_and] at e
   obtain⟨e1,e2⟩:=e
   rw[←e1,←e2] at hB
   have hx:Tm.In ⟨kU (i:Int),v.1,v.2,none,0⟩ 0 W:=⟨hB,Bs.nil,Or.inl (Ty.own ho),Or.inl (fun h=>absurd rfl h),by show(iE (d1 9) 7).length≤_;rw[Cb];decide,by show 0≤_;exact Nat.zero_le _⟩
   refine(pA (hNb.ay hk) (Nat.le_trans hwn hk.size) (by omega) hx (d1 1)).mono (fun e W2 hh=>?_)
   obtain⟨y,v',he,h1,h2,h3,h4,h5,h6,h7⟩:=hh
   exact⟨(y,v'),he,⟨⟨⟨h1,h7⟩,fun g hg=>(h5 g hg).elim Or.inl (fun h=>Or.inr (Nat.le_trans hk.size h))⟩,h2,h3,cX h6 hk.size⟩,h4⟩
  ·intro j hj W1 W2 y hk hp
   refine pR (q:=fun D=>∀y,D.phi y W1→D.phi y W2) (fun _ _=>trivial) (fun p hp hne y hy=>?_) j hj y hp
   simp only[List.mem_cons,List.mem_nil_iff,or_false] at hp
   rcases hp with rfl|rfl|rfl|rfl
   ·exact dS hy hk (fun b hb hm=>by have h1:=cp hy b hb;have h2:=hS b hm;omega)
   ·exact absurd rfl hne
   ·exact FM hS hk y hy
   ·exact FN hS hk y hy
  repeat (apply yd;rfl;rfl;(first|apply az|apply dA)<;>rfl)
  refine bE.td rfl rfl rfl rfl rfl (Nat.le_refl _) (fun b3=>?_)
  refine bE.rW (l:=bV y2.1) rfl rfl rfl rfl (by kernel_rfl) (ag rfl) (ag rfl) (au _) (Nat.le_refl _) (fun W hk hF=>⟨hF _ (.head _) (by kernel_rfl),cC _⟩) ?_ ?_
  ·intro p hp hne y w w' cs g0 g1 g2 g3 g4 g5
   simp only[List.mem_cons,List.not_mem_nil,or_false] at hp
   rcases hp with rfl|rfl|rfl|rfl
   ·exact dS g5 g3 (cK g5 (by decide) g1)
   ·exact uF g1 g3 y g5
   ·exact pa (au _) g3 g4 g5
   ·exact absurd rfl hne
  refine bE.tl (fun w2 hk2 hF=>?_)
  obtain⟨lb3,hB3⟩:w1.heap.size≤b3∧aF w2 b3 (.cells (bV y2.1).toArray 52):=hF _ (.head _)
  obtain⟨⟨⟨hy,-⟩,-⟩,hyI,hN2,-⟩:((y2.1.t=(je q.nb (kU (i:Int)) (d1 1)).2.1∧(y2.1.t.body≠[]→∀b off,y2.1.a1=some ⟨b,off,none⟩→b∉aP y2.1.s))∧∀g,y2.2.ownBlock=some g→q.vN.ownBlock=some g∨w1.heap.size≤g)∧y2.1.In 0 w2∧dm w2 n q.c.vb q.pm y2.2 (je q.nb (kU (i:Int)) (d1 1)).2.2∧w2.ownsRow w1.heap.size 5 1 y2.1.s y2.1.t.sig.length (bO gw y2.1.t.sig):=hF _ (.tail _ (.tail _ (.head _)))
  obtain⟨y2,v2⟩:=y2
  simp only at hB3 hy hyI hN2
  clear hF z1
  rw[hK.nb,FH hlt] at hy hN2
  simp only at hy hN2
  rw[show(DB (je q.nb (kU (i:Int)) (d1 1)).2.1 (je q.nb (kU (i:Int)) (d1 1)).1 w1.heap.size n q.c.vb q.pm q.vN (je q.nb (kU (i:Int)) (d1 1)).2.2).val (y2,v2)= .tuple #[eR y2,.int .i64 (je q.nb (kU (i:Int)) (d1 1)).1] from rfl]
  rw[hK.nb,FH hlt]
  have h2:=h1.sgn hk2 hN2
  obtain⟨q2,hq2⟩:∃q2,({q with vN:=v2,nb:=kN (i+1)}:Wl)=q2:=⟨_,rfl⟩
  have e1:q2.c=q.c:=by rw[←hq2]
  have e2:q2.ss=q.ss:=by rw[←hq2]
  have e3:q2.bs=q.bs:=by rw[←hq2]
  have e4:q2.nb=kN (i+1):=by rw[←hq2]
  have e5:q2.vs=q.vs:=by rw[←hq2]
  rw[hq2] at h2
  obtain⟨z0,-,-,-⟩:=cy h2.blk
  have r3:Row w2 b3 0 (bV y2):=Row.all hB3 rfl
  repeat (first|apply aj|(apply ar;rfl;apply aD<;>rfl))
  refine CG.tail mixed 8 [0,1,2,3,4,5,6,7] (by kernel_rfl) ?_
  repeat (apply bZ;rfl;rfl;(first|apply bM|apply az|apply bf|apply bj|apply aW|apply dK)<;>first|rfl|assumption|(apply bK;first|assumption|omega)|exact List.not_mem_nil|apply au)
  refine aI.tl (fun w3 hk3 _ _=>?_)
  have h3:=h2.ay hk3
  have hq:aB q2.c.ns q2.c.tr.tip=some (z,m):=by rw[e1];exact hK.tip
  have hpool:dF 256 (q2.c.ps.map Em.en):=by rw[e1];exact hK.ok.pool
  have hps:q2.c.ps.map Em.en=kP i:=by rw[e1];exact hK.ps
  have hy3:y2.In n w3:=(hyI.mono (Nat.zero_le n)).ay hk3
  obtain⟨k1,k2⟩:=Ii hlt hK.mx hK.mf
  clear z0 r3
  refine SG.call rfl rfl rfl (vs:=[.pointer (some ⟨q2.c.cb,0,none⟩),eR y2]) (bz.of rfl) ((oz h3.ch h3.nb hpool hy3 hq).mono (fun e w4 hh=>?_))
  obtain⟨rfl,pv',ps',hC4,eps,hk4,-⟩:=hh
  have okq2:fD q2.c 0:=by rw[e1];exact hK.ok
  have ok4:=okq2.sub (pv:=pv') eps
  rw[hps,e4,hy] at eps
  rw[hps,e4,hy]
  have eps:ps'.map Em.en=kP (i+1):=by rw[eps];exact k2
  have k1:lH (kN (i+1)) (z,m).2 (kP i) (kS i)=0:=k1
  rw[k1]
  refine⟨_,rfl,?_⟩
  have hcnd:dt n CT [q2.c.tm,q2.c.nm] w3 (q2.c.pb::aP q2.c.pv):=h3.ch.pool.rI
  have h4:=h3.DC hk4 hcnd hC4 ⟨rfl,rfl,rfl,rfl⟩ (fun p hp=>Or.inl hp)
  have hy4:y2.In n w4:=hy3.rI hk4 hcnd (by decide)
  have hB34:aF w4 b3 (.cells (bV y2).toArray 52):=hcnd.blk hk4 (hB3.ay hk3) (by decide)
  obtain⟨q4,hq4⟩:∃q4,({q2 with c:={q2.c with pv:=pv',ps:=ps'}}:Wl)=q4:=⟨_,rfl⟩
  have f1:q4.c={q2.c with pv:=pv',ps:=ps'}:=by rw[←hq4]
  have f2:q4.ss=q.ss:=by rw[←hq4];exact e2
  have f3:q4.bs=q.bs:=by rw[←hq4];exact e3
  have f4:q4.nb=kN (i+1):=by rw[←hq4];exact e4
  have f5:q4.vs=q.vs:=by rw[←hq4];exact e5
  rw[hq4] at h4
  repeat (first|apply aj|(apply ar;rfl;(first|apply cu|apply dK)<;>first|rfl|(apply bK;first|assumption|omega)))
  refine bG rfl ?_
  obtain⟨-,-,z2,-⟩:=cy h4.blk
  have r5:Row w4 b3 0 (bV y2):=Row.all hB34 rfl
  have hSl:∀z∈aP q4.vs,z<w4.heap.size:=fun z hz=>cD h4.sg z (aH hz)
  have s12:=hk2.size
  have n3:b3∉aP q4.vs:=fun hm=>by
   rw[f5] at hm
   have h1:=cD h1.sg b3 (aH hm)
   omega
  have nw:bw∉aP q4.vs:=fun hm=>cK h4.sg (by decide) h4.blk bw (aH hm) (List.mem_singleton.2 rfl)
  have hsl2:q4.ss.length≤10:=by
   rw[f2]
   have:=congrArg List.length hK.ss
   rw[List.length_map] at this
   rw[this,List.length_take]
   exact Nat.le_trans (Nat.min_le_left _ _) (by omega)
  have hn4:=h4.ch.w0
  repeat apply aj
  refine CG.dM mixed 8 [0,1,2,3,4,5,6,7] [6,7] (aP q4.vs) (fun W=>W.ownsRow n 52 13 q4.vs q4.ss.length (bO bV q4.ss)) (by kernel_rfl) h4.sg (fun _ _ hk h=>aT h hk) ?_
  repeat (apply bZ;rfl;rfl;(first|apply bM|apply az|apply bf|apply bj|apply aW)<;>first|rfl|assumption|apply au)
  refine aI.jt (cs:=(bV y2).toArray) (E:=52) rfl rfl rfl rfl rfl (fun W=>zU y2 W) hSl (fun W W' hk h=>trivial) (fun _ _ hk h=>aT h hk) (fun bn=>?_)
  apply aI.jy (P:=Tryz.prog) (t:=41) (base:=n) (e:=52) (i:=Tryz.t52) (f:=ty.i52) (v:=q4.vs) (nn:=q4.ss.length) (xs:=bO bV q4.ss) (b:=bn) (off:=0) (m:=1) (c:=1) (news:=bV y2)
  iterate 4 exact rfl
  iterate 2 exact ag rfl
  iterate 3 exact rfl
  ·exact fun W hk hF=>Row.all hF.2.2 rfl
  ·rw[au];rfl
  ·exact cC _
  ·simp only[maxLen];omega
  ·show(q4.ss.length+1)*80≤_;omega
  ·omega
  ·exact fun _ h=>h
  ·exact fun W W' hk hF=>⟨trivial,hF.2.1,hF.2.2.kp hk (fun hm=>by have:=hSl _ hm;have:=hF.2.1;omega)⟩
  intro v7
  refine aI.tl (fun w5 hk5 hF ho7=>?_)
  obtain⟨-,hv7⟩:=hF
  have ho7:w5.ownsRow n 52 13 v7 (q4.ss++[y2]).length (bO bV (q4.ss++[y2])):=by
   rw[dx,gp,List.length_append]
   exact ho7
  obtain⟨a7,c7,rfl⟩:=gF ho7
  have hbw5:=h4.blk.kp hk5 nw
  clear z2 r5
  repeat (apply ar;rfl;(first|apply bM|apply aW)<;>rfl)
  refine SG.cr [.pointer (some ⟨q4.c.cb,0,none⟩),.pointer (some ⟨q4.c.vb,0,none⟩)] [q4.vs] [q4.vb] rfl rfl (ag rfl) (ag rfl) hbw5 rfl rfl rfl rfl rfl (fun w6 hk6 hB6=>?_)
  have h6:=h4.put hk5 ho7 hv7 hy4 hk6 hB6
  repeat (first|apply aj|(apply ar;rfl;(first|apply az|apply dG)<;>first|rfl|(apply Ar.mk;omega)))
  refine NG.round (i+1,{q4 with vs:= .slice a7 (q4.ss++[y2]).length c7,ss:=q4.ss++[y2]}) (aS.of rfl) ⟨hlt,?_,h6,?_⟩ (by simp only;omega)
  ·have hz:∀z∈q.c.vb::q.pm::aP q.vN,z∈([]:List Nat)∨w.heap.size≤z:=fun x hx=>by
    rw[hn]
    rcases List.mem_cons.1 hx with rfl|hx
    ·exact Or.inr hNb.bp
    rcases List.mem_cons.1 hx with rfl|hx
    ·exact Or.inr hNb.pp
    exact Or.inr (cp hNb.own x (aH hx))
   refine(((((hk1.ai hk2 hz).trans hk3).ai hk4 (fun x hx=>Or.inr (by rw[hn];exact(hcnd x hx).1))).ai hk5 (fun x hx=>Or.inr (by rw[hn];exact cp h4.sg x (aH hx)))).ai hk6 (aV (by rw[hn];exact h4.bn)))
  ·refine⟨?_,?_,?_,?_,?_,?_,hK.yb,hK.mx,hK.mf,hK.mt,?_⟩
   ·show q4.c.tr=_
    rw[f1]
    show q2.c.tr=_
    rw[e1]
    exact hK.tr
   ·show q4.c.ns=_
    rw[f1]
    show q2.c.ns=_
    rw[e1]
    exact hK.ns
   ·show q4.c.ps.map Em.en=_
    rw[f1]
    exact eps
   ·show q4.nb=_
    exact f4
   ·show(q4.ss++[y2]).map (·.t)=_
    rw[f2,List.map_append,hK.ss]
    show _++[y2.t]=_
    rw[hy]
    match i,hlt with
    |0,_=>rfl
    |1,_=>rfl
   ·show q4.bs=_
    rw[f3]
    exact hK.bs
   ·show fD q4.c 0
    rw[f1]
    exact ok4
 ·have g1:¬(i:Int)<2:=by omega
  have e2:i=2:=by omega
  subst e2
  repeat (first|apply aj|(apply ar;rfl;apply cG<;>first|rfl|(apply bN;first|assumption|omega)))
  refine bG rfl ?_
  obtain⟨z0,-,-,-⟩:=cy h1.blk
  have hfst:aQ y.b=bI:=CZ hK.yb
  have hrt:bD y.b=0:=by rw[hK.yb];exact x9
  have hxh:m.x.ht=0:=by rw[hK.mx];rfl
  have htn:m.t.n=0:=by rw[hK.mt];rfl
  have hkm:=GA hK.mx hK.mf hK.ps
  have hwn:=h1.ch.w0
  repeat apply aj
  refine CG.free mixed 13 [0,1,2,3,4,5,6,7,8,9,10,11,12] [(7,Jl),(11,gV w1.heap.size 50 18),(12,gP w1.heap.size 50)] (by kernel_rfl) ?_ ?_
  ·intro p hp
   simp only[List.mem_cons,List.mem_nil_iff,or_false] at hp
   rcases hp with rfl|rfl|rfl
   ·exact Cj
   ·exact o9
   ·exact pc
  repeat (apply yd;rfl;rfl;(first|apply bM|apply az|apply bf|apply aW)<;>first|rfl|assumption|exact List.not_mem_nil)
  refine bE.call rfl rfl rfl rfl (vs:=[.pointer (some ⟨bw,0,none⟩)]) (v:=dv bI) (bz.of rfl) (fun W hk _=>by
   have:=uu (h1.ay hk) hK.bs hrt
   rw[hfst] at this
   exact this) ?_
  refine bE.val rfl rfl rfl rfl (aG rfl (fun W=>DE 8 W)) ?_
  refine bE.uV (vs:=[.pointer (some ⟨q.c.cb,0,none⟩),dv bI,dv (d1 8),.slice none 0 0]) Jl rfl rfl rfl rfl (bz.of rfl) (fun W hk hF=>(rm (h1.ay hk).ch (by decide) hK.ok.pool bI (d1 8) (q:=(z,m)) (by rw[hK.ns];exact if_pos rfl) ⟨by rw[hxh];decide,by rw[hxh];decide⟩ (by rw[htn];decide) (a0:=none) (c0:=0) (ls:=[]) Sl.nil (Nat.zero_le _)).mono (fun e W' hh=>?_)) (fun y3=>?_)
  ·obtain⟨y3,he,hb,hyI,-,hk'⟩:=hh
   exact⟨y3,he,⟨hb.trans hkm,hyI⟩,hk'⟩
  repeat (apply yd;rfl;rfl;(first|apply az|apply dA)<;>rfl)
  refine bE.td rfl rfl rfl rfl rfl (Nat.le_refl _) (fun b5=>?_)
  refine bE.rW (l:=dq y3) rfl rfl rfl rfl (by kernel_rfl) (ag rfl) (ag rfl) (aJ _) (Nat.le_refl _) (fun W hk hF=>⟨hF _ (.head _) (by kernel_rfl),dU _⟩) ?_ ?_
  ·intro p hp hne y w w' cs g0 g1 g2 g3 g4 g5
   simp only[List.mem_cons,List.not_mem_nil,or_false] at hp
   rcases hp with rfl|rfl|rfl
   ·exact⟨g5.1,g5.2.wr g3 (Nat.zero_le _) g1⟩
   ·exact pa (aJ _) g3 g4 g5
   ·exact absurd rfl hne
  refine bE.tl (fun w2 hk2 hF=>?_)
  obtain⟨lb5,hB5⟩:w1.heap.size≤b5∧aF w2 b5 (.cells (dq y3).toArray 50):=hF _ (.head _)
  obtain⟨hyb,hyI⟩:Bm.b y3=kB∧Bm.In y3 0 w2:=hF _ (.tail _ (.tail _ (.head _)))
  clear hF z0
  have h2:=h1.ay hk2
  obtain⟨z0,-,-,-⟩:=cy h2.blk
  have r5:Row w2 b5 0 (dq y3):=Row.all hB5 rfl
  repeat (first|apply aj|(apply ar;rfl;apply aD<;>rfl))
  refine CG.tail mixed 8 [0,1,2,3,4,5,6,7] (by kernel_rfl) ?_
  repeat (apply bZ;rfl;rfl;(first|apply bM|apply az|apply bf|apply bj|apply aW|apply dK)<;>first|rfl|assumption|(apply bK;first|assumption|omega)|exact List.not_mem_nil|apply aJ)
  refine aI.tl (fun w3 hk3 _ _=>?_)
  have h3:=h2.ay hk3
  have l1:=h3.ch.tree.map.lt
  have l2:=h3.ch.map.lt
  have l3:=h3.nb.map.lt
  have hy3:Bm.In y3 n w3:=(Bm.In.up hyI (Nat.zero_le n)).ay hk3
  have haz:qy q.nb q.c (Bm.b y3)=0:=by rw[hyb,hK.nb];exact Im hK.ns hK.tr hK.mx hK.mf hK.mt
  clear z0 r5
  refine SG.call rfl rfl rfl (vs:=[.pointer (some ⟨q.c.cb,0,none⟩),iH y3]) (bz.of rfl) ((nY h3.ch hK.ok (by decide) (by decide) (fun z hz=>by
   simp only[List.mem_cons,List.mem_nil_iff,or_false] at hz
   rcases hz with rfl|rfl|rfl
   ·exact l1
   ·exact l2
   ·exact l3) h3.nb hy3).mono (fun e w4 hh=>?_))
  obtain⟨rfl,hh⟩:=hh
  refine⟨_,rfl,?_⟩
  obtain⟨-,hA⟩:=hh.elim (fun g=>absurd haz g.1) id
  obtain⟨pv',ps',z2,qn,hC4,hqb,hr,hps,hk4,-,hfr⟩:=hA
  have h4:=h3.DC hk4 h3.ch.qI hC4 ⟨rfl,rfl,rfl,rfl⟩ (fun p hp=>(qi hp).elim (fun e=>Or.inr (by rw[e];exact hfr)) Or.inl)
  have ok4:=hK.ok.added haz (pv:=pv') hqb hr hps
  rw[haz]
  repeat (first|apply aj|(apply ar;rfl;(first|apply cu|apply dK)<;>first|rfl|(apply bK;first|assumption|omega)))
  refine bG rfl ?_
  rw[hyb] at hr hqb h4 ok4
  obtain⟨kqf,kqe⟩:=Ow hK hr
  rw[hK.ns,hK.tr,Ig] at h4 ok4
  obtain⟨c4,hc4⟩:∃c4,({q.c with pv:=pv',ps:=ps',tr:=(Tr.new bI 0).put (aQ kB) bI,ns:=cF [(bI,z,m)] (aQ kB) (z2,qn)}:Cm)=c4:=⟨_,rfl⟩
  have g1:c4.tr=(Tr.new bI 0).put (aQ kB) bI:=by rw[←hc4]
  have g2:c4.ns=cF [(bI,z,m)] (aQ kB) (z2,qn):=by rw[←hc4]
  have h4:df w4 n 10 bw {q with c:=c4}:=by rw[←hc4];exact h4
  have ok4:fD c4 (0+1):=by rw[←hc4];exact ok4
  obtain⟨q4,hq4⟩:∃q4,({q with c:=c4}:Wl)=q4:=⟨_,rfl⟩
  have f1:q4.c=c4:=by rw[←hq4]
  have f2:q4.ss=q.ss:=by rw[←hq4]
  rw[hq4] at h4
  obtain⟨xa,xb,hss,hxb⟩:=Ie (l:=q4.ss) (by rw[f2];exact hK.ss)
  have hmm:aB q4.c.ns q4.c.tr.tip=some (z2,qn):=by rw[f1,g1,g2,FG,bR,if_pos rfl]
  have hfind:jF q4.c.ns (aR xb.t) (q4.c.tr.line q4.c.tr.tip)=some (1,21):=by
   rw[f1,g1,wO,hxb]
   exact GB g2 hK.mx hqb kqe
  have hln:∀d∈q4.c.tr.line q4.c.tr.tip,∃q,aB q4.c.ns d=some q:=fun d hd=>by
   rw[f1,g1,wO] at hd
   rw[f1,g2]
   simp only[List.mem_cons,List.mem_nil_iff,or_false] at hd
   rcases hd with rfl|rfl
   ·exact⟨(z,m),by rw[bR,if_neg uA];exact if_pos rfl⟩
   ·exact⟨(z2,qn),by rw[bR,if_pos rfl]⟩
  have hll:(q4.c.tr.line q4.c.tr.tip).length≤100000:=by
   rw[f1,g1,wO]
   decide
  have wf4:q4.c.tr.WF:=by rw[f1];exact ok4.wf
  clear hr hqb hps hfr hc4 g1 g2 ok4 hB5
  obtain⟨as4,cs4,ev4,hcs4,hS4⟩:=Sl.own au h4.sg rfl
  have l2s:1<q4.ss.length:=by rw[hss];exact Nat.lt_succ_self 1
  obtain⟨ba,off,rfl,hrow⟩:=hS4.at l2s
  have e1:q4.ss[1]=xb:=by simp only[hss];rfl
  rw[e1] at hrow
  have hrow:Row w4 ba (off+(1:Int).toNat*13) (bV xb):=hrow
  have hl2:q4.ss.length=2:=by rw[hss];rfl
  obtain⟨z0,-,z2',-⟩:=cy h4.blk
  rw[ev4,hl2] at z2'
  have hxI:xb.In n w4:=h4.si xb (by rw[hss];simp)
  repeat apply aj
  refine CG.gZ mixed [0,1,2,3,4,5,6,7,8,9,10,11,12,13,14,17] [(15,16,7,.tmp 89)] (by kernel_rfl) (by kernel_rfl) ?_
  repeat (apply bZ;rfl;rfl;(first|apply bM|apply az|apply bf|apply bj|apply aW|apply Bn)<;>first|rfl|(apply Ar.mk;omega)|assumption|exact List.not_mem_nil|apply au)
  refine aI.call rfl rfl rfl (vs:=[eR xb]) (bz.of rfl) (fun W hk _=>iP (hxI.ay hk)) ?_
  refine aI.call rfl rfl rfl (v:= .tuple #[.agg (EV (1,21)).toArray,.bool true]) (vs:=[.pointer (some ⟨q4.c.cb,0,none⟩),dv (aR xb.t)]) (bz.of rfl) (fun W hk _=>by
   have:=xh (h4.ay hk).ch wf4 hll hln (aR xb.t)
   rw[hfind] at this
   exact this) ?_
  repeat (apply bZ;rfl;rfl;(first|apply az|apply aD|apply dA)<;>rfl)
  refine aI.one (fC.of (by rfl) rfl rfl rfl (ag rfl) (by rfl) (by rfl) (by rfl)) (fun b7 w5 hk5 hb7 hB7=>?_)
  have h5:=h4.ay hk5
  clear z0 z2' hrow
  obtain⟨z0,-,-,-⟩:=cy h5.blk
  repeat (first|apply aj|(apply ar;rfl;(first|apply bM|apply az|apply bf|apply aW)<;>first|rfl|assumption|exact List.not_mem_nil))
  refine SG.call rfl rfl rfl (vs:=[.pointer (some ⟨q4.c.cb,0,none⟩)]) (bz.of rfl) ((uQ h5.ch hmm).mono (fun e w6 hh=>?_))
  obtain⟨bt,bm,mk,rfl,hbk,hbi,-,-,hk6⟩:=hh
  refine⟨_,rfl,?_⟩
  clear z0
  have hB76:=hB7.ay hk6
  have r0:Row w6 b7 0 [.int .i64 1]:=Row.of hB76 [] [.int .i64 21] rfl rfl
  have r1:Row w6 b7 1 [.int .i64 21]:=Row.of hB76 [.int .i64 1] [] rfl rfl
  have hbf:cg mk=FF:=hbi.eq.trans kqf
  have b1:∀{W:World},Kp [] w6 W→dz Tryz.prog 19 #[.pointer (some ⟨bt,0,none⟩),dv (d1 1)] W (Fl (oo (d1 1) (FF (d1 1)))):=fun hk=>by
   have:=mW (hbk.ay hk) (d1 1)
   rw[hbf] at this
   exact this
  have b8:∀{W:World},Kp [] w6 W→dz Tryz.prog 19 #[.pointer (some ⟨bt,0,none⟩),dv (d1 8)] W (Fl (oo (d1 8) (FF (d1 8)))):=fun hk=>by
   have:=mW (hbk.ay hk) (d1 8)
   rw[hbf] at this
   exact this
  repeat (first|apply aj|(apply ar;rfl;(first|apply P1|apply az|apply aD|apply bf|apply aW|apply cu|apply fF)<;>first|rfl|assumption|(apply bK;first|assumption|omega)|exact List.not_mem_nil))
  refine SG.val rfl rfl rfl rfl (aG rfl (fun W=>DE 1 W)) ?_
  refine SG.ret rfl rfl rfl (vs:=[.pointer (some ⟨bt,0,none⟩),dv (d1 1)]) (bz.of rfl) (b1 (Kp.refl _ _)) (fun w7 hk7=>?_)
  refine SG.val rfl rfl rfl rfl (It rfl) ?_
  rw[Oz]
  repeat (apply ar;rfl;(first|apply az|apply cu|apply fF)<;>first|rfl|(apply bK;first|assumption|omega))
  refine SG.val rfl rfl rfl rfl (aG rfl (fun W=>DE 8 W)) ?_
  refine SG.ret rfl rfl rfl (vs:=[.pointer (some ⟨bt,0,none⟩),dv (d1 8)]) (bz.of rfl) (b8 hk7) (fun w8 hk8=>?_)
  refine SG.val rfl rfl rfl rfl (It rfl) ?_
  rw[Oy]
  repeat (first|apply aj|(apply ar;rfl;(first|apply aD|apply cu|apply fF)<;>first|rfl|(apply bK;first|assumption|omega)))
  refine aO (Or.inl rfl) Tryz.results10 (aC.tmp rfl) ?_
  have hcn:dt n CT [q.c.tm,q.c.nm] w3 (lA q.c):=h3.ch.qI
  exact⟨rfl,(((((((hk1.trans hk2).trans hk3).ai hk4 (fun x hx=>Or.inr (by rw[hn];exact(hcn x hx).1))).trans hk5).trans hk6).trans hk7).trans hk8)⟩
end
section
structure Hi(nb:eA)(c:Cm)(f0:Fb):Prop where
 ht:∀d q,aB c.ns d=some q→q.2.x.ht=(c.tr.ht d:Int)
 fst:∃q,aB c.ns c.tr.first=some q∧q.2.x.b=(cI dg).b∧q.2.f=f0∧q.2.t=HJ∧q.2.es=[]
 first:c.tr.first=bI
 up:∀d q,aB c.ns d=some q→d≠c.tr.first→aQ q.2.x.b=d∧c.tr.par d=q.2.x.b.par∧bD q.2.x.b=0∧∃p,aB c.ns q.2.x.b.par=some p∧jr q.2.x.b p.2.x.b=0∧eS nb q.2.x.b.ht q.2.x.b.mkr p.2.f p.2.t [] q.2.x.b.txs=(0,q.2.f,q.2.t,q.2.es)
theorem og{ns:List (Dg×Nat×Nm)}{d x:Dg}{v:Nat×Nm}(h:aB ns d=none){q:Nat×Nm}(hq:aB ns x=some q):aB (cF ns d v) x=some q:=by
 rw[bR,if_neg (fun e=>by rw[e,hq] at h;cases h),hq]
theorem Fj{t:Tr}{x p:Dg}(h:t.addE x p=0):t.add x p=t.put x p:=if_pos h
theorem xJ{nb nb':eA}(hle:ku nb nb'){h:Int}{mk:Dg}:∀(l:List Tx) {f f':Fb} {t t':Tl} {es es':List Int},eS nb h mk f t es l=(0,f',t',es')→eS nb' h mk f t es l=(0,f',t',es')
 |[],f,f',t,t',es,es',hr=>hr
 |x::l,f,f',t,t',es,es',hr=>by
  by_cases h1:fl nb x=0
  ·by_cases h2:fq f x=0
   ·rw[rZ h1 h2] at hr
    rw[rZ (hle x h1) h2]
    exact xJ hle l hr
   ·have:=tX (nb:=nb) (h:=h) (mk:=mk) (t:=t) (es:=es) (l:=l) h1 h2
    rw[hr] at this
    exact absurd this.symm h2
  ·have:=tW (nb:=nb) (h:=h) (mk:=mk) (f:=f) (t:=t) (es:=es) (l:=l) h1
   rw[hr] at this
   exact absurd this.symm h1
theorem Hi.le{nb nb':eA}{c:Cm}{f0:Fb}(h:Hi nb c f0)(hle:ku nb nb'):Hi nb' c f0:=⟨h.ht,h.fst,h.first,fun d q hq hd=>by
 obtain⟨u1,u2,u3,p,u4,u5,u6⟩:=h.up d q hq hd
 exact⟨u1,u2,u3,p,u4,u5,xJ hle _ u6⟩⟩
theorem Hi.HM{nb:eA}{c c':Cm}{f0:Fb}{H:Int}(h:Hi nb c f0)(ok:fD c H)(s:ti nb c c'):Hi nb c' f0:=by
 obtain⟨-,⟨e1,e2⟩|⟨b,z,qn,hz,e1,e2,hb,p,hp,hr⟩⟩:=s
 ·obtain⟨h1,h2,h3,h4⟩:=h
  exact⟨by rw[e1,e2];exact h1,by rw[e1,e2];exact h2,by rw[e1];exact h3,by rw[e1,e2];exact h4⟩
 obtain⟨g1,g2,q0,g3,g4,g5⟩:=xu hz
 rw[hp] at g3
 obtain rfl:=Option.some.inj g3
 obtain⟨a1,a2,a3,-⟩:=Db g5
 rw[Fj g5] at e1
 have hne:∀{x:Dg} {q:Nat×Nm},aB c.ns x=some q→aQ b≠x:=fun hq e=>by rw[←e,g2] at hq;cases hq
 have hht:=xg g4
 have epar:p.2.x.ht=(c.tr.ht b.par:Int):=h.ht _ _ hp
 have ehb:qn.x.ht=b.ht:=by rw[←hb];rfl
 have eph:p.2.x.b.ht=p.2.x.ht:=rfl
 obtain⟨qf,f1,f2⟩:=h.fst
 have hfirst:c'.tr.first=c.tr.first:=by rw[e1];rfl
 refine⟨fun d q hq=>?_,⟨qf,by rw[hfirst,e2];exact og g2 f1,f2⟩,by rw[hfirst];exact h.first,fun d q hq hd=>?_⟩
 ·rw[e2,bR] at hq
  rw[e1]
  by_cases e:aQ b=d
  ·rw[if_pos e] at hq
   obtain rfl:=Option.some.inj hq
   rw[←e,fI]
   show qn.x.ht=_
   omega
  ·rw[if_neg e] at hq
   rw[cO _ e]
   exact h.ht d q hq
 ·rw[hfirst] at hd
  rw[e2,bR] at hq
  by_cases e:aQ b=d
  ·rw[if_pos e] at hq
   obtain rfl:=Option.some.inj hq
   show aQ qn.x.b=d∧c'.tr.par d=qn.x.b.par∧bD qn.x.b=0∧∃p,aB c'.ns qn.x.b.par=some p∧jr qn.x.b p.2.x.b=0∧eS nb qn.x.b.ht qn.x.b.mkr p.2.f p.2.t [] qn.x.b.txs=(0,qn.f,qn.t,qn.es)
   rw[hb]
   refine⟨e,?_,g1,p,by rw[e2];exact og g2 hp,g4,hr⟩
   rw[e1,←e]
   exact iu _ _ _
  ·rw[if_neg e] at hq
   obtain⟨u1,u2,u3,p',u4,u5⟩:=h.up d q hq hd
   exact⟨u1,by rw[e1,ir _ e];exact u2,u3,p',by rw[e2];exact og g2 u4,u5⟩
theorem Hi.step{nb nb':eA}{c c':Cm}{f0:Fb}{H:Int}(h:Hi nb c f0)(ok:fD c H)(s:ti nb c c')(hle:ku nb nb'):Hi nb' c' f0:=(h.HM ok s).le hle
theorem G9{b:Bd}{l:List Nat}{q:Wl}{y:Bm}(h:Fq b l q y)(nb:eA):Hi nb q.c (cg (iD [] (jK l 4))):=by
 obtain⟨z,m,hns,hmx,hmf,hmt,hme⟩:=h.ns
 have hl:∀d,aB q.c.ns d=if bI=d then some (z,m) else none:=fun d=>by
  rw[hns]
  rfl
 have hfst:q.c.tr.first=bI:=by rw[h.tr];rfl
 refine⟨fun d x hx=>?_,⟨(z,m),by rw[hfst,hl,if_pos rfl],by show m.x.b=_;rw[hmx],hmf,hmt,hme⟩,hfst,fun d x hx hd=>?_⟩
 ·rw[hl] at hx
  by_cases e:bI=d
  ·rw[if_pos e] at hx
   obtain rfl:=Option.some.inj hx
   have h0:q.c.tr.ht d=0:=by rw[←e,←hfst,h.tr];exact(nJ bI _).h0
   rw[h0]
   show m.x.ht=0
   rw[hmx]
   rfl
  ·rw[if_neg e] at hx;cases hx
 ·rw[hl,if_neg (fun e=>hd (by rw[hfst,e]))] at hx
  cases hx
end
section
def Pf(k:Dg)(l:List Tx):Nat:=l.countP (fun t=>decide (t.frm=k))
def PS(g:Dg→Int):List Tx→Prop
 |[]=>True
 |x::l=>x.non=g x.frm∧PS (fun k=>g k+((if x.frm=k then 1 else 0:Nat):Int)) l
def SV(ns:List (Dg×Nat×Nm))(l:List Dg):List Tx:=l.flatMap (fun d=>(BQ ns d).txs)
def S4(zs:List Bm)(i:Nat):List Tx:=((zs.take i).map Bm.b).flatMap Bl.txs
end
section
def TN(q q':Nm):Prop:=q'.x.b=q.x.b∧q'.f=q.f∧q'.t=q.t∧q'.es=q.es
def QJ(p:Int×Int):Prop:=(-1000000≤p.1∧p.1≤1000000)∧(-1000000≤p.2∧p.2≤1000000)
structure UA(c oc:Cm)(L:List Dg)(i:Nat):Prop where
 pos:0<i
 ns:∀j d,j<i→L[j]?=some d→∃q q',aB c.ns d=some q∧aB oc.ns d=some q'∧TN q.2 q'.2
 no:∀d,(∀j,j<i→L[j]?≠some d)→aB oc.ns d=none
 line:oc.tr.line oc.tr.tip=L.take i
 tip:L[i-1]?=some oc.tr.tip
 len:oc.tr.nodes.length=i
 ht:oc.tr.ht oc.tr.tip=i-1
def UB(e:Int):Prop:=0≤e∧e≤1000
attribute [local irreducible] CG NG SG aK aI Row aF aE aM aR
theorem tO{w:World}{b b':Nat}{t:Tl}(hT:il w b t)(hT':il w b' t):dz Tryz.prog 251 #[.pointer (some ⟨b,0,none⟩),.iface 74 (.pointer (some ⟨b',0,none⟩))] w (.bool true):=by
 refine bJ Tryz.func251 rfl Tryz.ntmps251 rfl ?_
 obtain⟨r0,r1⟩:=mq hT
 obtain⟨s0,s1⟩:=mq hT'
 repeat (first|apply aj|(apply ar;rfl;(first|apply Oe|apply az|apply aD|apply dA)<;>rfl))
 refine CG.tail mixed 21 [0,1,2,3,4,5,6,7,8,9,10,11,12,13,14,15,16,17,18,19,20] (by kernel_rfl) ?_
 repeat (apply bZ;rfl;rfl;(first|apply bM|apply az|apply bf|apply bj|apply aW|apply cu|apply fF)<;>first|rfl|assumption|(apply bK;first|assumption|omega)|exact List.not_mem_nil|apply ah)
 refine aI.tl (fun w1 hk1 _ _=>?_)
 clear r0 r1 s0 s1
 repeat (first|apply aj|(apply ar;rfl;(first|apply aD|apply cu|apply zf)<;>first|rfl|exact bK rfl))
 refine aO (Or.inl rfl) Tryz.results251 (aC.tmp rfl) ?_
 exact⟨rfl,hk1⟩
end
section
def oP(b:Bd):Prop:=(-1000000≤b.fork∧b.fork≤1000000)∧(-1000000≤b.leave∧b.leave≤1000000)∧(-1000000≤b.sleep∧b.sleep≤1000000)
theorem FQ:Tryz.prog.cellsOf 31=3:=by kernel_rfl
theorem yv{b:Bd}(h:oP b):(Tryz.prog.keyLits (Tryz.prog.types.size+1) 31 (iT b)).isSome=true:=by
 obtain⟨m,hm⟩:=FA
 rw[hm]
 obtain⟨x,y,z⟩:=b
 obtain⟨⟨h1,h2⟩,⟨h3,h4⟩,h5,h6⟩:=h
 simp only at h1 h2 h3 h4 h5 h6
 simp[iT,Program.keyLits,Tryz.underlying31,Tryz.underlying3,Iz,FQ,pk x (by omega) (by omega),pk y (by omega) (by omega),pk z (by omega) (by omega),List.range,List.range.loop]
theorem rL(b:Bd):(Value.agg (iT b).toArray).formed Tryz.prog 31=true:=by
 simp[Value.formed,Tryz.underlying31,FQ,iT]
theorem Cq{b:Bd}(h:oP b)(w:World):(Op.equal 31 (Value.agg (iT b).toArray) (Value.agg (iT b).toArray)).run Tryz.prog w= .ok true w:=by
 obtain⟨r,h1,h2⟩:=nR (P:=Tryz.prog) (T:=31) 3 (by omega) (by kernel_rfl) (by kernel_rfl) (by rw[Tryz.underlying31]) (by kernel_rfl) (rL b) (rL b) (yv h) (yv h) w
 rw[h2.2 rfl] at h1
 exact h1
theorem EH:Tryz.prog.eqGuardType Tryz.prog.depth 31=false:=by kernel_rfl
class UC(b:Bd):Prop where
 h:oP b
theorem Of{S:List Nat}{w0:World}{F:World→Prop}{L:Env}{d:Option Nat}{ty:TypeId}{pos:String}{af:Array Edge}{g:Option (Nat×Bool)}{x y:Operand}{T':TypeId}{b:Bd}(hx:ro L x=some (.agg (iT b).toArray))(hy:ro L y=some (.agg (iT b).toArray))(h:oP b):aK Tryz.prog S w0 F L ⟨d,.binOp .neq 31 x y T',ty,pos,af,g⟩ (.bool false):=fun w _ _=>by
 simp[execOp,ag hx,ag hy,eqGuard,binOp,Cq h,EH]
theorem Tr.tj.sameB{t t':Tr}(h:t.tj t')(hnd:(t.nodes.map (·.1)).Nodup):t.sameB t'=true:=by
 simp only[Tr.sameB,h.first,h.depth,h.tip,h.len,decide_true,Bool.true_and,List.all_eq_true,decide_eq_true_eq]
 intro p hp
 rw[←h.nodes]
 exact dE hnd hp
abbrev ib(z:Nat):Value:= .pointer (some ⟨z,0,none⟩)
theorem QM(a b:Nat)(w:World):(Instr.build 146 #[(0,ib a),(1,ib b)]).run Tryz.prog w= .ok (.agg #[ib a,ib b]) w:=by kernel_rfl
theorem TB(a b c d:Nat)(w:World):(Instr.build 147 #[(0,.agg #[ib a,ib b]),(1,.agg #[ib c,ib d])]).run Tryz.prog w= .ok (.agg #[ib a,ib b,ib c,ib d]) w:=by kernel_rfl
theorem S3(a b c d:Nat)(w:World):(Instr.index 147 (.agg #[ib a,ib b,ib c,ib d]) (.int .i64 0)).run Tryz.prog w= .ok (.agg #[ib a,ib b]) w:=by kernel_rfl
theorem S2(a b c d:Nat)(w:World):(Instr.index 147 (.agg #[ib a,ib b,ib c,ib d]) (.int .i64 1)).run Tryz.prog w= .ok (.agg #[ib c,ib d]) w:=by kernel_rfl
theorem vB{S:List Nat}{w0:World}{F:World→Prop}{L:Env}{d:Option Nat}{ty:TypeId}{pos:String}{af:Array Edge}{g:Option (Nat×Bool)}{T:TypeId}{x y:Operand}{vx vy v:Value}(hx:bB L x=vx)(hy:bB L y=vy)(h:∀w,(Instr.index T vx vy).run Tryz.prog w= .ok v w):aK Tryz.prog S w0 F L ⟨d,.index T x y,ty,pos,af,g⟩ v:=fun w _ _=>by
 simp only[execOp,hx,hy,Sem.run_bind,h w,Result.andThen,Sem.run_pure]
theorem Ob{S:List Nat}{w0:World}{F:World→Prop}{L:Env}{d:Option Nat}{ty:TypeId}{pos:String}{af:Array Edge}{g:Option (Nat×Bool)}{x:Operand}{t:TypeId}{v:Value}(h:ro L x=some (.iface t v)):aK Tryz.prog S w0 F L ⟨d,.nilCheck x,ty,pos,af,g⟩ (.iface t v):=fun w _ _=>by
 simp[execOp,ag h]
theorem Ed{w:World}{b x y:Nat}(h:aF w b (.cells #[ib x,ib y] 146)):Row w b 0 [ib x]∧Row w b 1 [ib y]:=⟨Row.of h [] [ib y] rfl rfl,Row.of h [ib x] [] rfl rfl⟩
attribute [local irreducible] CG NG SG aK aI Row aF aE aM
theorem lS{w:World}{n:Nat}{A A':List Nat}{tot:Int}{c c':Cm}(h:cL w n A tot c)(h':cL w n A' tot c')(hT:tot≤1000000000)(ebd:c'.bd=c.bd)(efs:c'.first=c.first)(htr:c.tr.tj c'.tr)(wf:c.tr.WF)(hps:c'.ps.map Em.en=c.ps.map Em.en)(hpl:c.ps.length≤1024)(hbf:oP c.bd){q0 q1:Nat×Nm}(f0:aB c.ns c.first=some q0)(f0':aB c'.ns c.first=some q0)(f1:aB c.ns c.tr.tip=some q1)(f1':aB c'.ns c.tr.tip=some q1):
  dz Tryz.prog 26 #[.pointer (some ⟨c.cb,0,none⟩),.pointer (some ⟨c'.cb,0,none⟩)] w (.bool true):=by
 refine bJ Tryz.func26 rfl Tryz.ntmps26 rfl ?_
 obtain⟨r0,-,-,r4,r12,r13,r14⟩:=cM h
 obtain⟨s0,-,-,s4,s12,s13,s14⟩:=cM h'
 rw[ebd] at s0
 rw[efs] at s4
 have etip:c'.tr.tip=c.tr.tip:=htr.tip.symm
 have hsT:c.tr.sameB c'.tr=true:=htr.sameB h.tree.map.nodup
 have wf':=htr.wf wf
 have hM:=h.map
 have hM':=h'.map
 repeat (first|apply aj|(apply ar;rfl;(first|apply iC|apply az|apply aD|apply cu)<;>rfl))
 refine bG rfl ?_
 repeat apply aj
 refine CG.eQ mixed [0,1,2,3,4,5,6,7,8,9,10,11,12,13,14,15,16,17,18,19,20,21,22,23,24,25,26,27,28,29,30,31,32] [] (by kernel_rfl) ?_
 repeat (apply bZ;rfl;rfl;(first|apply Of|apply az|apply bf|apply bj|apply aW|apply bM)<;>first|rfl|assumption|exact List.not_mem_nil)
 refine aI.call rfl rfl rfl (vs:=[.pointer (some ⟨c.tb,0,none⟩),.pointer (some ⟨c'.tb,0,none⟩)]) (bz.of rfl) (fun W hk _=>by
  have:=qC (h.tree.ay hk) (h'.tree.ay hk) wf wf'
  rw[hsT] at this
  exact this) ?_
 repeat (apply bZ;rfl;rfl;(first|apply az|apply bf|apply aW|apply bM|apply cu|apply fZ)<;>first|rfl|assumption|exact List.not_mem_nil)
 refine aI.call rfl rfl rfl (vs:=[.pointer (some ⟨c.pb,0,none⟩),.pointer (some ⟨c'.pb,0,none⟩)]) (bz.of rfl) (fun W hk _=>by
  have:=yS (h.pool.ay hk) (h'.pool.ay hk) hpl
  rw[yi hps.symm] at this
  exact this) ?_
 repeat (apply bZ;rfl;rfl;(first|apply cu|apply fZ)<;>rfl)
 refine aI.fin (fun w1 hk1 _ _=>?_)
 clear r0 r4 r12 r13 r14 s0 s4 s12 s13 s14 hM hM'
 have h1:=h.ay hk1
 have h1':=h'.ay hk1
 obtain⟨-,-,-,r4,-,-,r14⟩:=cM h1
 obtain⟨-,-,-,s4,-,-,s14⟩:=cM h1'
 rw[efs] at s4
 have hM:=h1.map
 have hM':=h1'.map
 repeat apply aj
 refine bG rfl ?_
 repeat apply aj
 refine CG.eQ mixed [0,1,2,3,4,5,6,7,8,9,10,11,12,13,14,15,16,17,18,19,20,21,22,23,24,25] [] (by kernel_rfl) ?_
 repeat (apply bZ;rfl;rfl;(first|apply az|apply bf|apply bj|apply aW|apply bM|apply qu)<;>first|rfl|assumption|exact List.not_mem_nil|apply ah|exact kX (by assumption)|fail)
 refine aI.val rfl rfl rfl (aG rfl (QM q0.1 q0.1)) ?_
 repeat (apply bZ;rfl;rfl;apply az<;>rfl)
 refine aI.call rfl rfl rfl (vs:=[.pointer (some ⟨c.cb,0,none⟩)]) (bz.of rfl) (fun W hk _=>jR (h1.ay hk) f1) ?_
 repeat (apply bZ;rfl;rfl;apply az<;>rfl)
 refine aI.call rfl rfl rfl (vs:=[.pointer (some ⟨c'.cb,0,none⟩)]) (bz.of rfl) (fun W hk _=>jR (h1'.ay hk) (by rw[etip];exact f1')) ?_
 refine aI.val rfl rfl rfl (aG rfl (QM q1.1 q1.1)) ?_
 refine aI.val rfl rfl rfl (aG rfl (TB q0.1 q0.1 q1.1 q1.1)) ?_
 repeat (apply bZ;rfl;rfl;apply az<;>rfl)
 refine aI.fin (fun w2 hk2 _ _=>?_)
 clear r4 r14 s4 s14 hM hM'
 have k2:=hk1.trans hk2
 have nd:∀{d:Dg} {q:Nat×Nm},aB c.ns d=some q→∀{W:World},Kp [] w W→iV W n A tot q.1 q.2:=fun hq _ hk=>(h.Ak hq).ay hk
 repeat apply aj
 refine CG.loop (X:=Nat) (fun x=>[(76,.agg #[ib q0.1,ib q0.1,ib q1.1,ib q1.1]),(77,.int .i64 (x:Int))]) (fun x w'=>x≤2∧Kp [] w w') (fun x=>2-x) 0 ⟨Nat.zero_le _,k2⟩ (aS.of rfl) ?_
 rintro i w3 ⟨hi,k3⟩
 refine CG.to [(76,.agg #[ib q0.1,ib q0.1,ib q1.1,ib q1.1]),(77,.int .i64 (i:Int))] (aS.of rfl) ?_
 by_cases hlt:i<2
 rotate_left
 ·have g1:¬(i:Int)<2:=by omega
  repeat (first|apply aj|(apply ar;rfl;apply cG<;>first|rfl|(apply bN;first|assumption|omega)))
  refine bG rfl ?_
  repeat (first|apply aj|(apply ar;rfl;apply aD<;>rfl))
  refine aO (Or.inl rfl) Tryz.results26 (aC.tmp rfl) ?_
  exact⟨rfl,k3⟩
 have g1:(i:Int)<2:=by omega
 obtain⟨qq,hix,hq⟩:∃qq:Nat×Nm,(∀w,(Instr.index 147 (.agg #[ib q0.1,ib q0.1,ib q1.1,ib q1.1]) (.int .i64 (i:Int))).run Tryz.prog w= .ok (.agg #[ib qq.1,ib qq.1]) w)∧∃d,aB c.ns d=some qq:=by
  match i,hlt with
  |0,_=>exact⟨q0,fun w=>S3 _ _ _ _ w,_,f0⟩
  |1,_=>exact⟨q1,fun w=>S2 _ _ _ _ w,_,f1⟩
 obtain⟨d,hq⟩:=hq
 repeat (first|apply aj|(apply ar;rfl;apply cG<;>first|rfl|(apply bK;first|assumption|omega)))
 refine bL rfl ?_
 repeat apply aj
 refine SG.val rfl rfl rfl rfl (vB (ag rfl) (ag rfl) hix) ?_
 refine SG.alloc rfl rfl rfl (fun b6 w4 hk4 hb6 hB6=>?_)
 refine SG.aN (l:=[ib qq.1,ib qq.1]) rfl rfl (ag rfl) (ag rfl) hB6 rfl rfl rfl (fun w5 hk5 hB6=>?_)
 have k5:=k3.trans (hk4.ai hk5 (aV hb6))
 obtain⟨r0,r1⟩:=Ed hB6
 have hN:=nd hq k5
 obtain⟨u0,-,-,-,-,-,u1,u2⟩:=eY hN.blk
 obtain⟨m,hb,hbi⟩:=hN.book
 have hsm:jS m m=true:=(Ba hbi.ok hbi.ok).2 (fun _=>rfl)
 repeat apply aj
 refine CG.eQ mixed [0,1,2,3,4,5,6,7,8,9,10,11,12,13,14,15,16,17,18,19,20,21,22,23,24,25,26,27,28,29,30,31] [] (by kernel_rfl) ?_
 repeat (apply bZ;rfl;rfl;(first|apply qF|apply bf|apply aW|apply bM)<;>first|rfl|(apply Ar.mk;omega)|assumption|exact List.not_mem_nil)
 refine aI.call rfl rfl rfl (vs:=[.pointer (some ⟨qq.2.bk,0,none⟩),.pointer (some ⟨qq.2.bk,0,none⟩)]) (bz.of rfl) (fun W hk _=>by
  have:=uX (hb.ay hk) (hb.ay hk) (hbi.uD hT) (hbi.uD hT)
  rw[hsm] at this
  exact this) ?_
 repeat (apply bZ;rfl;rfl;(first|apply qF|apply az|apply bf|apply aW|apply bM|apply fZ)<;>first|rfl|(apply Ar.mk;omega)|assumption|exact List.not_mem_nil)
 refine aI.val rfl rfl rfl (Ob rfl) ?_
 repeat (apply bZ;rfl;rfl;apply az<;>rfl)
 refine aI.uU (t:=74) (v:= .pointer (some ⟨qq.2.tb,0,none⟩)) rfl rfl rfl (vs:=[.iface 74 (.pointer (some ⟨qq.2.tb,0,none⟩))]) (ag rfl) (bz.of rfl) (fun W hk _=>tO (hN.app.ay hk) (hN.app.ay hk)) ?_
 repeat (apply bZ;rfl;rfl;(first|apply cu|apply fZ)<;>rfl)
 refine aI.fin (fun w6 hk6 _ _=>?_)
 clear r0 r1 u0 u1 u2
 repeat apply aj
 refine bG rfl ?_
 repeat (first|apply aj|(apply ar;rfl;(first|apply az|apply dG)<;>first|rfl|(apply Ar.mk;omega)))
 exact NG.round (i+1) (aS.of rfl) ⟨by omega,k5.trans hk6⟩ (by omega)
theorem CB(w:World)(b:Nat):dz Tryz.prog 26 #[.pointer (some ⟨b,0,none⟩),.pointer none] w (.bool false):=by
 refine bJ Tryz.func26 rfl Tryz.ntmps26 rfl ?_
 repeat (first|apply aj|(apply ar;rfl;(first|apply iC|apply az|apply aD|apply cu)<;>rfl))
 refine bL rfl ?_
 repeat (first|apply aj|(apply ar;rfl;(first|apply iC|apply az|apply aD|apply cu)<;>rfl)|refine SG.skip rfl rfl ?_)
 refine aO (Or.inl rfl) Tryz.results26 (aC.tmp rfl) ?_
 exact⟨rfl,Kp.refl _ _⟩
end
section
theorem yy(a:Ax):bF (qx a)=true:=by simp[qx,bF,jJ]
theorem Ax.In.up{a:Ax}{n n':Nat}{w:World}(h:a.In n w)(hn:n≤n'):a.In n' w:=⟨h.b,fun h0 b off e=>Nat.lt_of_lt_of_le (h.bn h0 b off e) hn,h.l,fun h0 b off e=>Nat.lt_of_lt_of_le (h.ln h0 b off e) hn,h.lb,h.ll,h.l2⟩
attribute [local irreducible] CG NG SG aK aI Row aF aE aM bE jK
theorem Co(w:World)(a:Option Addr)(c n:Nat):dz Tryz.prog 11 #[.slice a n c] w (.bool (decide ((n:Int)≤40))):=by
 refine bA Tryz.func11 rfl Tryz.ntmps11 rfl ?_
 repeat (first|apply aj|(apply ar;rfl;(first|apply az|apply aD|apply dy|apply Dt)<;>first|rfl|exact CA))
 refine aO (Or.inl rfl) Tryz.results11 (aC.tmp rfl) ?_
 exact⟨rfl,Kp.refl _ _⟩
end
section
def WT:List TypeId:=[44,162,341,200,214,216,52,50]
theorem dt.sub{n:Nat}{Ts Us:List TypeId}{A B:List Nat}{w:World}{S:List Nat}(h:dt n Ts A w S)(hT:∀T∈Ts,T∈Us)(hA:∀x∈A,x∈B):dt 0 Us B w S:=fun b hb=>by
 obtain⟨-,h2⟩:=h b hb
 refine⟨Nat.zero_le _,h2.imp id (fun⟨o,h3,h4⟩=>⟨o,h3,?_⟩)⟩
 cases o with
 |cells a T f=>exact hT T h4
 |map a c=>exact hA b h4
 |_=>exact h4
theorem df.Pg{w:World}{n bw:Nat}{tot:Int}{q:Wl}(h:df w n tot bw q):dt 0 WT [q.c.tm,q.c.nm,q.pm] w (l7 bw q):=by
 have h1:dt 0 WT [q.c.tm,q.c.nm,q.pm] w [bw]:=dt.cells (Nat.zero_le _) h.blk (by decide)
 have h2:dt 0 WT [q.c.tm,q.c.nm,q.pm] w (q.c.vb::q.pm::aP q.vN):=(dt.cells (Nat.zero_le _) h.nb.blk (by decide)).cons ((dt.map (Nat.zero_le _) h.nb.map (by simp)).cons (dt.own h.nb.own (Nat.zero_le _) (by decide)))
 have h3:dt 0 WT [q.c.tm,q.c.nm,q.pm] w (lA q.c):=h.ch.qI.sub (by decide) (fun x hx=>by rcases List.mem_cons.1 hx with e|e<;>simp_all)
 have h4:dt 0 WT [q.c.tm,q.c.nm,q.pm] w (aP q.vs):=dt.own h.sg (Nat.zero_le _) (by decide)
 have h5:dt 0 WT [q.c.tm,q.c.nm,q.pm] w (aP q.vb):=dt.own h.bl (Nat.zero_le _) (by decide)
 have:=h1.app (h2.app (h3.app (h4.app h5)))
 unfold l7
 exact this
theorem df.lt{w:World}{n bw:Nat}{tot:Int}{q:Wl}(h:df w n tot bw q):∀x∈l7 bw q,x<w.heap.size:=fun x hx=>by
 rw[dT] at hx
 rcases hx with h1|h1|h1|h1|h1|h1|h1|h1|h1|h1|h1
 ·rw[h1];exact h.blk.lt
 ·rw[h1];exact h.nb.blk.lt
 ·rw[h1];exact h.nb.map.lt
 ·exact cD h.nb.own x (aH h1)
 ·rw[h1];exact h.ch.tree.blk.lt
 ·rw[h1];exact h.ch.tree.map.lt
 ·rw[h1];exact h.ch.map.lt
 ·rw[h1];exact h.ch.pool.blk.lt
 ·exact cD h.ch.pool.own x (aH h1)
 ·exact cD h.sg x (aH h1)
 ·exact cD h.bl x (aH h1)
structure TQ(w:World)(bw:Nat)(q:Wl)(a:Option Addr)(ys:List Bm):Prop where
 sl:Sl dq 18 w a ys
 ins:∀y∈ys,y.In 0 w
 out:ys≠[]→∀b off,a=some ⟨b,off,none⟩→b∉l7 bw q
 out2:∀y∈ys,y.xs≠[]→∀b off,y.a=some ⟨b,off,none⟩→b∉l7 bw q
attribute [local irreducible] CG NG SG aK aI Row aF aE aM bE jK yw l7 BQ
end
section
structure nj(w:World)(n:Nat)(tot:Int)(bw:Nat)(q:Wl)(c:Cm):Prop where
 ch:cL w n [c.tm,c.nm] tot c
 out:∀x∈c.cb::lA c,x∉l7 bw q
 ob:∀p∈c.ns,p.2.2.bm∉l7 bw q
 sn:∀p∈c.ns,p.2.2.x.xs≠[]→∀b off,p.2.2.x.a=some ⟨b,off,none⟩→b∉l7 bw q
theorem nj.ay{w w':World}{n:Nat}{tot:Int}{bw:Nat}{q:Wl}{c:Cm}(h:nj w n tot bw q c)(hk:Kp [] w w'):nj w' n tot bw q c:=⟨h.ch.ay hk,h.out,h.ob,h.sn⟩
theorem iV.side{w w':World}{n:Nat}{Ts:List TypeId}{A A' S:List Nat}{tot:Int}{b:Nat}{q:Nm}(h:iV w n A tot b q)(hk:Kp S w w')(hS:dt n Ts A' w S)(hT:∀T∈IM,T∉Ts)(hm:q.bm∉S)(hx:q.x.In n w'):iV w' n A tot b q:=by
 obtain⟨m,hb,hi⟩:=h.book
 have t:∀{T:TypeId},T∈IM→dX T n w S:=fun hm=>hS.not (hT _ hm)
 exact⟨hS.blk hk h.blk (hT _ (by decide)),⟨m,⟨hS.blk hk hb.blk (hT _ (by decide)),hb.map.kp hk hm⟩,hi⟩,h.nA,h.nb,hS.blk hk h.app (hT _ (by decide)),(h.ans.Al h.anT hk (t (by decide))).1,(h.ans.Al h.anT hk (t (by decide))).2,hx,(h.nam.Al h.naT hk (t (by decide))).1,(h.nam.Al h.naT hk (t (by decide))).2,h.el⟩
theorem cL.lt{w:World}{n:Nat}{A:List Nat}{tot:Int}{c:Cm}(h:cL w n A tot c):∀x∈c.cb::lA c,x<w.heap.size:=fun x hx=>by
 unfold lA at hx
 simp only[List.mem_cons] at hx
 rcases hx with e|e|e|e|e|e
 ·rw[e];exact h.blk.lt
 ·rw[e];exact h.tree.blk.lt
 ·rw[e];exact h.tree.map.lt
 ·rw[e];exact h.map.lt
 ·rw[e];exact h.pool.blk.lt
 ·exact cD h.pool.own x (aH e)
theorem cL.side{w w':World}{n:Nat}{Ts:List TypeId}{A A' S:List Nat}{tot:Int}{c:Cm}(h:cL w n A tot c)(hk:Kp S w w')(hS:dt n Ts A' w S)(hT:∀T∈IM,T∉Ts)(ho:∀x∈c.cb::lA c,x∉S)(hb:∀p∈c.ns,p.2.2.bm∉S)(hx:∀p∈c.ns,p.2.2.x.In n w'):cL w' n A tot c:=by
 unfold lA at ho
 exact⟨h.blk.kp hk (ho _ (by simp)),h.tree.kp hk (ho _ (by simp)) (ho _ (by simp)),h.pool.kp hk (ho _ (by simp)) (fun b hb=>ho b (by simp[gg hb])) (hS.not (hT _ (by decide))),h.map.kp hk (ho _ (by simp)),fun p hp=>(h.nd p hp).side hk hS hT (hb p hp) (hx p hp),h.tA,h.nA,h.ne,h.tn,h.nn,h.bn,Nat.le_trans h.w0 hk.size⟩
theorem df.zR{w:World}{n bw:Nat}{tot:Int}{q:Wl}(h:df w n tot bw q):dt n WT [q.c.tm,q.c.nm,q.pm] w (l7 bw q):=fun b hb=>⟨h.ge b hb,(h.Pg b hb).2⟩
theorem nj.act{w w':World}{n bw:Nat}{tot:Int}{q q':Wl}{c:Cm}(h:nj w n tot bw q c)(hq:df w n tot bw q)(hk:nu w w' bw q q'):nj w' n tot bw q' c:=by
 have hn:=h.ch.w0
 have no:∀{x:Nat},x<w.heap.size→x∉l7 bw q→x∉l7 bw q':=fun h1 h2 hm=>(hk.sub _ hm).elim h2 (fun g=>by omega)
 refine⟨h.ch.side hk.kp hq.zR (by decide) h.out h.ob (fun p hp=>(h.ch.nd p hp).x.zR hk.kp hq.zR (by decide) (h.sn p hp)),fun x hx=>no (h.ch.lt x hx) (h.out x hx),fun p hp=>?_,fun p hp hne b off e=>no ((h.ch.nd p hp).x.lt hne e) (h.sn p hp hne b off e)⟩
 obtain⟨m,hb,-⟩:=(h.ch.nd p hp).book
 exact no hb.map.lt (h.ob p hp)
theorem df.Sm{w:World}{n bw:Nat}{tot:Int}{q:Wl}(h:df w n tot bw q){x:Bm}(hx:x.In n w)(hne:x.xs≠[]){b off:Nat}(e:x.a=some ⟨b,off,none⟩)(hv:b∉aP q.vs):b∉l7 bw q:=fun hm=>by
 have hge:=h.ge b hm
 rcases hx.tx.tg with ht|ht
 ·obtain⟨cs,f,hc⟩:=ht hne b off e
  rw[dT] at hm
  have n1:dX 52 n w (q.c.vb::q.pm::aP q.vN):=dX.cons h.nb.bp (dX.cells h.nb.blk (by decide)) (dX.cons h.nb.pp (h.nb.map.BL _) (dX.own h.nb.own (Nat.le_refl _) (by decide)))
  have n2:dX 52 n w (lA q.c):=h.ch.qI.not (by decide)
  have n3:dX 52 n w (aP q.vb):=dX.own h.bl (Nat.le_refl _) (by decide)
  have c2:∀z∈lA q.c,b≠z:=fun z hz e=>(n2 z hz).2 cs f (by rw[←e];exact hc)
  unfold lA at c2
  rcases hm with g|g|g|g|g|g|g|g|g|g|g
  ·exact dX.cells h.blk (T:=52) (by decide) cs f (by rw[←g];exact hc)
  ·exact(n1 b (by simp[g])).2 cs f hc
  ·exact(n1 b (by simp[g])).2 cs f hc
  ·exact(n1 b (by simp[g])).2 cs f hc
  ·exact c2 _ (by simp) g
  ·exact c2 _ (by simp) g
  ·exact c2 _ (by simp) g
  ·exact c2 _ (by simp) g
  ·exact c2 b (by simp[g]) rfl
  ·exact hv g
  ·exact(n3 b g).2 cs f hc
 ·have:=ht b off e
  omega
theorem df.ob{w:World}{n bw:Nat}{tot:Int}{q:Wl}(h:df w n tot bw q):∀p∈q.c.ns,p.2.2.bm∉l7 bw q:=fun p hp=>by
 obtain⟨m,hb,-⟩:=(h.ch.nd p hp).book
 obtain⟨es,c,h1,-⟩:=hb.map
 exact h.zR.no h1 (h.ch.nd p hp).nA
theorem nj.of{w:World}{n bw:Nat}{tot:Int}{q:Wl}(h:df w n tot bw q){c:Cm}(hc:cL w n [c.tm,c.nm] tot c)(ho:∀x∈c.cb::lA c,x∉l7 bw q)(hns:∀p∈c.ns,p∈q.c.ns):nj w n tot bw q c:=
 ⟨hc,ho,fun p hp=>h.ob p (hns p hp),fun p hp hne b off e=>h.Sm (h.ch.nd p (hns p hp)).x hne e (h.sn p (hns p hp) hne b off e)⟩
theorem ia.side{w w':World}{n bw:Nat}{tot:Int}{q:Wl}{A:List Nat}{c c':Cm}(h:ia w' n A tot w.heap.size c c')(hq:df w n tot bw q)(hq':df w' n tot bw q)(hns:∀p∈c.ns,p∈q.c.ns):nj w' n tot bw q c':=by
 refine nj.of hq' (h.ch _ (fun x hx=>Or.inr (h.new x ?_)) (by simp) (by simp)) (fun x hx hm=>by have:=h.new x hx;have:=hq.lt x hm;omega) (fun p hp=>hns p (h.ns.mem_iff.1 hp))
 simp only[List.mem_cons,List.mem_nil_iff,or_false] at hx
 unfold lA
 rcases hx with e|e<;>simp[e]
theorem ia.ay{w w':World}{n:Nat}{A:List Nat}{tot:Int}{N:Nat}{c c':Cm}(h:ia w n A tot N c c')(hk:Kp [] w w'):ia w' n A tot N c c':=⟨fun A' g1 g2 g3=>(h.ch A' g1 g2 g3).ay hk,h.bd,h.vb,h.first,h.tr,h.ps,h.ns,h.new⟩
theorem ia.look{w:World}{n:Nat}{A:List Nat}{tot:Int}{N:Nat}{c c':Cm}(h:ia w n A tot N c c')(hnd:(c.ns.map (·.1)).Nodup)(d:Dg):aB c'.ns d=aB c.ns d:=(jz h.ns.symm hnd d).symm
theorem fD.S7{w:World}{n:Nat}{A:List Nat}{tot:Int}{N:Nat}{c c':Cm}{H:Int}(ok:fD c H)(h:ia w n A tot N c c')(hnd:(c.ns.map (·.1)).Nodup):fD c' H:=
 ⟨h.tr.wf ok.wf,by rw[←h.tr.depth];exact ok.dep,by rw[h.ps];exact ok.pool,fun d=>by rw[h.look hnd,←h.tr.has];exact ok.has d,fun d q hq=>ok.nd d q (by rw[←h.look hnd];exact hq)⟩
theorem cL.Sv{w:World}{n:Nat}{A A':List Nat}{tot:Int}{c:Cm}(h:cL w n A tot c)(hA:∀x∈A',x∈A)(h1:c.tm∈A')(h2:c.nm∈A'):cL w n A' tot c:=
 ⟨h.blk,h.tree,h.pool,h.map,fun p hp=>(h.nd p hp).grow (fun hm=>(h.nd p hp).nA (hA _ hm)),h1,h2,h.ne,h.tn,h.nn,h.bn,h.w0⟩
theorem iw{c:Cm}{x:Nat}:x∈lA c↔x=c.tb∨x=c.tm∨x=c.nm∨x=c.pb∨x∈aP c.pv:=by
 unfold lA
 simp
theorem F0{bw:Nat}{q:Wl}{N:Nat}(hN:∀x∈l7 bw q,x<N):∀x∈lA q.c,x<N:=fun x hx=>hN x (by unfold l7;simp[hx])
theorem df.fork{w:World}{n bw:Nat}{tot:Int}{q:Wl}(h:df w n tot bw q){N:Nat}(hN:∀x∈l7 bw q,x<N)(hcb:q.c.cb<N)(hnN:n≤N){c':Cm}(hc:ia w n [q.c.tm,q.c.nm,q.pm] tot N q.c c'){bo:Nat}{v':Value}(hbo:N≤bo)(hB:aF w bo (.cells (Ap {q with c:=c',vb:=v'}).toArray 44))(hbl:w.ownsRow n 50 18 v' q.bs.length (bO dq q.bs))(hv:∀x∈aP v',N≤x):
  df w n tot bo {q with c:=c',vb:=v'}∧nj w n tot bo {q with c:=c',vb:=v'} q.c∧bw∉l7 bo {q with c:=c',vb:=v'}:=by
 have hnew:∀x∈lA c',N≤x:=fun x hx=>hc.new x (List.mem_cons_of_mem _ hx)
 have g1:N≤c'.tm:=hnew _ (iw.2 (by simp))
 have g2:N≤c'.nm:=hnew _ (iw.2 (by simp))
 have g3:q.pm<N:=hN _ (dT.2 (by simp))
 have hns:∀p,p∈c'.ns↔p∈q.c.ns:=fun p=>hc.ns.mem_iff
 have hW:df w n tot bo {q with c:=c',vb:=v'}:=by
  refine⟨hB,hc.ch _ (fun x hx=>?_) (by simp) (by simp),?_,h.sg,h.si,hbl,h.bi,fun p hp=>h.sn p ((hns p).1 hp),h.sb,⟨by show q.pm≠c'.tm;omega,by show q.pm≠c'.nm;omega⟩,Nat.le_trans hnN hbo⟩
  ·simp only[List.mem_cons,List.mem_nil_iff,or_false] at hx
   rcases hx with e|e|e
   ·exact Or.inr (by rw[e];exact g1)
   ·exact Or.inr (by rw[e];exact g2)
   ·exact Or.inl (by simp[e])
  ·show dm w n c'.vb q.pm q.vN q.nb
   rw[hc.vb]
   exact h.nb
 have hS:dt n [162,341,52] [q.pm] w (q.c.vb::q.pm::(aP q.vN++aP q.vs)):=(dt.cells h.nb.bp h.nb.blk (by decide)).cons ((dt.map h.nb.pp h.nb.map (by simp)).cons ((dt.own h.nb.own (Nat.le_refl _) (by decide)).app (dt.own h.sg (Nat.le_refl _) (by decide))))
 have key:∀x,x<N→x∉q.c.vb::q.pm::(aP q.vN++aP q.vs)→x∉l7 bo {q with c:=c',vb:=v'}:=fun x hxN hno hm=>by
  rw[dT] at hm
  simp only at hm
  rw[hc.vb] at hm
  simp only[List.mem_cons,List.mem_append,not_or] at hno
  obtain⟨o1,o2,o3,o4⟩:=hno
  have hc5:∀{z:Nat},z∈lA c'→x≠z:=fun hz e=>by have:=hnew _ hz;omega
  rcases hm with g|g|g|g|g|g|g|g|g|g|g
  ·omega
  ·exact o1 g
  ·exact o2 g
  ·exact o3 g
  ·exact hc5 (iw.2 (by simp)) g
  ·exact hc5 (iw.2 (by simp)) g
  ·exact hc5 (iw.2 (by simp)) g
  ·exact hc5 (iw.2 (by simp)) g
  ·exact hc5 (iw.2 (by simp[g])) rfl
  ·exact o4 g
  ·have:=hv x g
   omega
 refine⟨hW,nj.of hW (h.ch.Sv (fun x hx=>by simp only[List.mem_cons,List.mem_nil_iff,or_false] at hx;rcases hx with e|e<;>simp[e]) (by simp) (by simp)) (fun x hx=>?_) (fun p hp=>(hns p).2 hp),key bw (hN bw (dT.2 (by simp))) (hS.no h.blk (by show _∉_;decide))⟩
 refine key x ((List.mem_cons.1 hx).elim (fun e=>by rw[e];exact hcb) (fun e=>F0 hN x e)) ?_
 rcases List.mem_cons.1 hx with e|hx
 ·rw[e];exact hS.no h.ch.blk (by show _∉_;decide)
 rcases iw.1 hx with e|e|e|e|e
 ·rw[e];exact hS.no h.ch.tree.blk (by show _∉_;decide)
 ·obtain⟨es,c0,hb,-⟩:=h.ch.tree.map
  rw[e];exact hS.no hb (by show _∉_;rw[List.mem_singleton];exact fun e=>h.pn.1 e.symm)
 ·obtain⟨es,c0,hb,-⟩:=h.ch.map
  rw[e];exact hS.no hb (by show _∉_;rw[List.mem_singleton];exact fun e=>h.pn.2 e.symm)
 ·rw[e];exact hS.no h.ch.pool.blk (by show _∉_;decide)
 ·exact dN h.ch.pool.own (hS.not (by decide)) x (aH e)
theorem ni.fork{w:World}{n:Nat}{A:List Nat}{tot:Int}{N:Nat}{q:Wl}{H:Int}(ok:ni q H){c':Cm}(hc:ia w n A tot N q.c c')(hnd:(q.c.ns.map (·.1)).Nodup){v':Value}:ni {q with c:=c',vb:=v'} H:=
 ⟨ok.ch.S7 hc hnd,fun x hx=>by
  obtain⟨p,h1,h2⟩:=ok.bs x hx
  exact⟨p,by show aB c'.ns _=_;rw[hc.look hnd];exact h1,h2⟩,ok.ne,ok.nl,ok.sl,ok.bl⟩
theorem kK{w:World}{n:Nat}{A A' A2:List Nat}{tot:Int}{N:Nat}{c c':Cm}{H:Int}{w0:World}(h:cL w n A tot c)(h':cL w n A' tot c')(hc:ia w0 n A2 tot N c c')(ok:fD c H)(hT:tot≤1000000000)(hb:oP c.bd)(hf:∃q,aB c.ns c.first=some q):
  dz Tryz.prog 26 #[.pointer (some ⟨c'.cb,0,none⟩),.pointer (some ⟨c.cb,0,none⟩)] w (.bool true)∧dz Tryz.prog 26 #[.pointer (some ⟨c.cb,0,none⟩),.pointer (some ⟨c'.cb,0,none⟩)] w (.bool true):=by
 have hnd:=h.map.nodup
 obtain⟨q0,f0⟩:=hf
 obtain⟨q1,f1⟩:=ok.tip
 have hl:c.ps.length≤1024:=by have:=ok.pool.len;rw[List.length_map] at this;omega
 have hl':c'.ps.length≤1024:=by have:=congrArg List.length hc.ps;rw[List.length_map,List.length_map] at this;omega
 have f0':aB c'.ns c.first=some q0:=by rw[hc.look hnd];exact f0
 have f1':aB c'.ns c.tr.tip=some q1:=by rw[hc.look hnd];exact f1
 refine⟨lS h' h hT hc.bd.symm hc.first.symm hc.tr.symm (hc.tr.wf ok.wf) hc.ps.symm hl' (by rw[hc.bd];exact hb) (by rw[hc.first];exact f0') (by rw[hc.first];exact f0) (by rw[←hc.tr.tip];exact f1') (by rw[←hc.tr.tip];exact f1),lS h h' hT hc.bd hc.first hc.tr ok.wf hc.ps hl hb f0 f0' f1 f1'⟩
end
section
section
variable {P:Program} {w0:World} {ops:List Oper} {gh:List Nat} {K:Env→(World→Prop)→(World→Prop)→Prop} {i:Nat} {ord:List Nat} {L:Env} {ty:TypeId} {pos:String} {af:Array Edge} {g:Option (Nat×Bool)}
theorem aI.GO{d:Nat}{T E:TypeId}{inf:TypeInfo}[u:Ut P T (.slice E)][f:dp P E inf](ho:ops[i]?=some ⟨some d,.buildSlice T 0 #[],ty,pos,af,g⟩)(hw:want ops L ⟨some d,.buildSlice T 0 #[],ty,pos,af,g⟩=some true)(hg:gh.elem i=true)
  (h:∀b,aI P [] w0 ops gh K ord ((d,.slice (some ⟨b,0,none⟩) 0 0)::L) (fun w=>True∧True) (fun w=>w.ownsRow w0.heap.size E inf.size (.slice (some ⟨b,0,none⟩) 0 0) 0 [])):aI P [] w0 ops gh K (i::ord) L (fun _=>True) (fun _=>True):=by
 refine aI.j7 (X:=Nat) (fun b=> .slice (some ⟨b,0,none⟩) 0 0) (fun _ _=>True) (fun b w=>w.ownsRow w0.heap.size E inf.size (.slice (some ⟨b,0,none⟩) 0 0) 0 []) ho hw hg (by simp[Op.operands]) (fun _ _ _ _ _=>trivial) (fun b w w' hk h=>aT h hk) (fun w hk _ _=>?_) h
 unfold bh
 have:(execOp (bB L) ⟨some d,.buildSlice T 0 #[],ty,pos,af,g⟩).run P w= .ok (.value (.slice (some ⟨w.heap.size,0,none⟩) 0 0)) {w with heap:=w.heap.push (.cells #[] E)}:=by
  simp only[execOp,List.map_toArray,List.map_nil,Sem.run_bind,qQ (u:=u) (f:=f),Result.andThen,Sem.run_pure]
 rw[this]
 exact⟨w.heap.size,rfl,⟨trivial,trivial⟩,⟨by simp,Or.inr ⟨w.heap.size,0,#[],rfl,hk.size,aF.push w _,Nat.le_refl _,by simp,by simp,by simp⟩⟩,hk.trans (Kp.push w _ rfl)⟩
theorem aI.Iy{α:Type}{enc:α→List Value}{d:Nat}{t e:TypeId}{inf:TypeInfo}[u:Ut P t (.slice e)][f:dp P e inf]{z:Value}{s y:Operand}{b0 b9 off cc:Nat}(l:List α)(hel:∀x,(enc x).length=inf.size)(hone:∀x,bF (enc x)=true)
  (ho:ops[i]?=some ⟨some d,.call {callee:= .builtin .append,args:= #[s,y],argTypes:= #[t,t]},ty,pos,af,g⟩) (hw:want ops L ⟨some d,.call {callee:= .builtin .append,args:= #[s,y],argTypes:= #[t,t]},ty,pos,af,g⟩=some true) (hg:gh.elem i=true) (hk:(known L s&&known L y)=true)
  (hs:bB L s= .slice (some ⟨b0,0,none⟩) 0 0) (hx:bB L y= .slice (some ⟨b9,off,none⟩) l.length cc) (hz:inf.zero=some z) (hzs:Nat.beq z.cells.size inf.size=true) (hsz:Nat.blt 0 inf.size=true) (hl:0<l.length) (h63:l.length≤maxLen) (hbytes:l.length*inf.bytes≤140737488355328)
  (hc:∀w,Kp [] w0 w→Row w b9 off (bO enc l))
  (h:∀q:Option Addr×Nat,aI P [] w0 ops gh K ord ((d,.slice q.1 l.length q.2)::L) (fun w=>(True∧True)∧True) (fun w=>w.ownsRow w0.heap.size e inf.size (.slice q.1 l.length q.2) l.length (bO enc l))):aI P [] w0 ops gh K (i::ord) L (fun w=>True∧True) (fun w=>w.ownsRow w0.heap.size e inf.size (.slice (some ⟨b0,0,none⟩) 0 0) 0 []):=by
 refine aI.j7 (X:=Option Addr×Nat) (fun q=> .slice q.1 l.length q.2) (fun _ _=>True) (fun q w=>w.ownsRow w0.heap.size e inf.size (.slice q.1 l.length q.2) l.length (bO enc l)) ho hw hg (by simpa[Op.operands,Call.operands] using hk) (fun _ _ _ _ _=>trivial) (fun b w w' hk h=>aT h hk) (fun w hkw _ hR=>?_) h
 obtain⟨v',w',e1,e2,e3,-⟩:=tU (P:=P) (ty:=ty) (c:=cc) (u:=u) (f:=f) hz (Nat.eq_of_beq_eq_true hzs) (by simpa[Nat.blt_eq] using hsz) hR (m:=l.length) (bY hel l) (hc w hkw) (mS hone l) hl (by omega) (by rw[Nat.zero_add];exact hbytes) hkw.size
 rw[Nat.zero_add,List.nil_append] at e2
 have hv:∃a c,v'= .slice a l.length c:=by
  rcases e2.2 with⟨rfl,h0⟩|⟨g',cap,cur,rfl,_⟩
  ·have:l.length=0:=h0
   omega
  ·exact⟨_,_,rfl⟩
 obtain⟨a,c,rfl⟩:=hv
 unfold bh
 have:(execOp (bB L) ⟨some d,.call {callee:= .builtin .append,args:= #[s,y],argTypes:= #[t,t]},ty,pos,af,g⟩).run P w= .ok (.value (.slice a l.length c)) w':=by
  simp only[execOp,resolve,invoke,builtin,Sem.run_bind,Sem.run_pure,Result.andThen_ok,List.map_toArray,List.map_cons,List.map_nil,hs,hx,e1]
 rw[this]
 exact⟨(a,c),rfl,⟨⟨trivial,trivial⟩,trivial⟩,e2,hkw.ai e3 (eO hR (Nat.le_refl _))⟩
end
end
section
attribute [local irreducible] CG NG SG aK aI Row aF aE aM bE jK yw l7 BQ aR S4 Pf SV
end
section
theorem E7(f l s:UInt8):oP (yw f l s):=by
 have h1:=f.toNat_lt
 have h2:=l.toNat_lt
 have h3:=s.toNat_lt
 unfold oP yw
 simp only
 omega
theorem Pk(w:World)(cb vb:Nat)(a a':Option Addr)(m m' cc cc':Nat):(Instr.build 44 #[(0,.pointer (some ⟨cb,0,none⟩)),(1,.pointer (some ⟨vb,0,none⟩)),(2,.slice a m cc),(3,.slice a' m' cc')]).run Tryz.prog w= .ok (.agg #[.pointer (some ⟨cb,0,none⟩),.pointer (some ⟨vb,0,none⟩),.slice a m cc,.slice a' m' cc']) w:=by kernel_rfl
def Hp(f l s:UInt8)(c:Cm):Prop:=c.bd=yw f l s∧c.first=bI
theorem Hp.step{f l s:UInt8}{nb:eA}{c c':Cm}(h:Hp f l s c)(hs:ti nb c c'):Hp f l s c':=⟨hs.1.1.trans h.1,hs.1.2.1.trans h.2⟩
theorem Hp.fst{f l s:UInt8}{nb:eA}{c:Cm}{f0:Fb}(h:Hp f l s c)(hi:Hi nb c f0):∃q,aB c.ns c.first=some q:=by
 obtain⟨q,h1,-⟩:=hi.fst
 exact⟨q,by rw[h.2,←hi.first];exact h1⟩
theorem sV{q:Wl}{H:Int}(ok:ni q H){f0:Fb}(hi:Hi q.nb q.c f0){y:Bm}(hy:y∈q.bs):qy q.nb q.c y.b=7:=by
 obtain⟨p,h1,h2⟩:=ok.bs y hy
 refine om ?_ h1
 rw[←h2]
 by_cases e:aQ y.b=q.c.tr.first
 ·obtain⟨q0,g1,g2,-⟩:=hi.fst
  rw[←e,h1] at g1
  obtain rfl:=Option.some.inj g1
  rw[g2]
  exact oL
 ·exact(hi.up _ _ h1 e).2.2.1
attribute [local irreducible] CG NG SG aK aI Row aF aE aM bE jK yw l7 BQ aR
theorem xr{w:World}(f l s:UInt8){m4:List Nat}(hm:∀x∈m4,x<65536){a a2:Option Addr}{c c2:Nat}{acts more:List Ax}(hS:Sl qx 9 w a acts)(hI:∀x∈acts,x.In w.heap.size w)(hb:∀x∈acts,x.body.length≤10000000)(hS2:Sl qx 9 w a2 more)(hI2:∀x∈more,x.In w.heap.size w)(hb2:∀x∈more,x.body.length≤10000000):
  Calls Tryz.prog 6 #[.agg #[bv f,bv l,bv s],Fs m4,.slice a acts.length c,.slice a2 more.length c2] w (fun e w'=>e= .returned (.bool true)∧Kp [] w w'):=by
 refine nV Tryz.func6 rfl Tryz.ntmps6 rfl ?_
 obtain⟨hz,he0,he1⟩:=Dk hm
 obtain⟨u1,u2,u3⟩:=Hc f l s
 have hbf:=E7 f l s
 repeat apply aj
 refine SG.box rfl rfl rfl (ag rfl) (fun b3 w1 hk1 hb3 hB3=>?_)
 have hB3:aF w1 b3 (.cells #[bv f,bv l,bv s] 22):=hB3
 refine SG.box rfl rfl rfl (ag rfl) (fun b4 w2 hk2 hb4 hB4=>?_)
 have hB4:aF w2 b4 (.cells (yJ m4).toArray 24):=hB4
 repeat (first|apply aj|(apply ar;rfl;apply aD<;>rfl))
 refine SG.ret rfl rfl rfl (vs:=[]) (bz.of rfl) (lQ w2) (fun w3 hk3=>?_)
 have k3:=(hk1.trans hk2).trans hk3
 repeat (apply ar;rfl;(first|apply az|apply fZ)<;>rfl)
 refine SG.ret rfl rfl rfl (vs:=[.slice a acts.length c]) (bz.of rfl) (Co w3 a c acts.length) (fun w4 hk4=>?_)
 have k4:=k3.trans hk4
 by_cases hfew:acts.length≤40
 rotate_left
 ·have hf':¬(acts.length:Int)≤40:=by omega
  rw[decide_eq_false hf']
  repeat (first|apply aj|(apply ar;rfl;(first|apply az|apply cu|apply fZ)<;>rfl)|refine SG.skip rfl rfl ?_)
  refine bL rfl ?_
  repeat apply aj
  refine SG.ret rfl rfl rfl (vs:=[]) (bz.of rfl) (lQ w4) (fun w5 hk5=>?_)
  repeat (first|apply aj|(apply ar;rfl;apply aD<;>rfl))
  refine aO (Or.inl rfl) Tryz.results6 (aC.tmp rfl) ?_
  exact⟨rfl,k4.trans hk5⟩
 have hf':(acts.length:Int)≤40:=by omega
 rw[decide_eq_true hf']
 by_cases hmr:(20:Int)<(more.length:Int)
 ·repeat (first|apply aj|(apply ar;rfl;(first|apply az|apply cu|apply dy|apply fW|apply fZ)<;>first|rfl|(apply bK;first|assumption|omega)))
  refine bL rfl ?_
  repeat apply aj
  refine SG.ret rfl rfl rfl (vs:=[]) (bz.of rfl) (lQ w4) (fun w5 hk5=>?_)
  repeat (first|apply aj|(apply ar;rfl;apply aD<;>rfl))
  refine aO (Or.inl rfl) Tryz.results6 (aC.tmp rfl) ?_
  exact⟨rfl,k4.trans hk5⟩
 repeat (first|apply aj|(apply ar;rfl;(first|apply az|apply cu|apply dy|apply fW|apply fZ)<;>first|rfl|(apply bN;first|assumption|omega)))
 refine bG rfl ?_
 have k14:=(hk2.trans hk3).trans hk4
 have k24:=hk3.trans hk4
 have q0:Row w4 b3 0 [bv f]:=Row.of (hB3.ay k14) [] [bv l,bv s] rfl rfl
 have q1:Row w4 b3 1 [bv l]:=Row.of (hB3.ay k14) [bv f] [bv s] rfl rfl
 have q2:Row w4 b3 2 [bv s]:=Row.of (hB3.ay k14) [bv f,bv l] [] rfl rfl
 have q4:Row w4 b4 0 (yJ m4):=Row.all (hB4.ay k24) rfl
 repeat apply aj
 refine CG.tail mixed 8 [0,1,2,3,4,5,6,7] (by kernel_rfl) ?_
 repeat (apply bZ;rfl;rfl;(first|apply qF|apply bf)<;>first|rfl|(apply Ar.mk;omega)|assumption|exact List.not_mem_nil)
 refine aI.call rfl rfl rfl (vs:=[bv f,bv l,bv s]) (bz.of rfl) (fun W _ _=>uW f l s W) ?_
 repeat (apply bZ;rfl;rfl;apply bj<;>first|rfl|assumption|exact List.not_mem_nil)
 refine aI.tl (fun w5 hk5 _ _=>?_)
 have k5:=k4.trans hk5
 clear q0 q1 q2 q4
 refine SG.call rfl rfl rfl (vs:=[Am (yw f l s),Fs m4]) (bz.of rfl) ((oI w5 u1 (by omega) hm).mono (fun e w6 hh=>?_))
 obtain⟨hk6,bw,q,y,rfl,h6,hB⟩:=hh
 refine⟨_,rfl,?_⟩
 have ok6:=C1 hB (by omega)
 have hi6:=G9 hB q.nb
 have ag6:Hp f l s q.c:=⟨hB.bd,hB.fst⟩
 clear hB
 obtain⟨n,hn⟩:∃n,w5.heap.size=n:=⟨_,rfl⟩
 rw[hn] at h6
 repeat (first|apply aj|(apply ar;rfl;(first|apply iC|apply az|apply aD)<;>rfl))
 refine bG rfl ?_
 repeat (first|apply aj|(apply ar;rfl;(first|apply az|apply dy)<;>rfl))
 refine CG.loop (X:=Nat×Wl) (fun p=>[(3,.slice a2 more.length c2),(8,.bool false),(9,.pointer (some ⟨bw,0,none⟩)),(45,.slice a acts.length c),(46,.int .i64 (acts.length:Int)),(47,.int .i64 (p.1:Int))])
  (fun p w'=>p.1≤acts.length∧df w' n (fS (jK m4 4)) bw p.2∧ni p.2 (p.1:Int)∧Kp [] w5 w'∧Hi p.2.nb p.2.c (cg (iD [] (jK m4 4)))∧Hp f l s p.2.c) (fun p=>acts.length-p.1) (0,q) ⟨Nat.zero_le _,h6,ok6,hk6,hi6,ag6⟩ (aS.of rfl) ?_
 rintro⟨j,q1⟩ w7 ⟨hj,h7,ok7,k57,hi7,ag7⟩
 simp only at hj h7 ok7 hi7 ag7
 refine CG.to [(3,.slice a2 more.length c2),(8,.bool false),(9,.pointer (some ⟨bw,0,none⟩)),(45,.slice a acts.length c),(46,.int .i64 (acts.length:Int)),(47,.int .i64 (j:Int))] (aS.of rfl) ?_
 by_cases hlt:j<acts.length
 ·have g1:(j:Int)<(acts.length:Int):=by omega
  have k7:=k5.trans k57
  obtain⟨ba,off,rfl,hrow⟩:=(hS.ay k7).at hlt
  have hxI:=(hI _ (List.getElem_mem hlt)).ay k7
  have hxb:=hb _ (List.getElem_mem hlt)
  generalize acts[j]=x at*
  repeat (first|apply aj|(apply ar;rfl;apply cG<;>first|rfl|(apply bK;first|assumption|omega)))
  refine bL rfl ?_
  repeat (first|apply aj|(apply ar;rfl;(first|apply bj|apply fv)<;>first|rfl|(apply Ar.mk;omega)|assumption|exact List.not_mem_nil))
  refine SG.alloc rfl rfl rfl (fun b8 w8 hk8 hb8 hB8=>?_)
  refine SG.aN (l:=qx x) rfl rfl (ag rfl) (ag rfl) hB8 (qg _) rfl (yy _) (fun w9 hk9 hB9=>?_)
  have k79:=hk8.ai hk9 (aV hb8)
  clear hrow
  have hn5:=k5.size
  have h9:=h7.ay k79
  obtain⟨z0,-,-,-⟩:=cy h9.blk
  repeat (first|apply aj|(apply ar;rfl;(first|apply bM|apply az|apply bf|apply aW)<;>first|rfl|assumption|exact List.not_mem_nil))
  refine SG.call rfl rfl rfl (vs:=[.pointer (some ⟨q1.c.cb,0,none⟩)]) (bz.of rfl) ((kj h9.ch ok7.ch).mono (fun e w10 hh=>?_))
  obtain⟨cw,rfl,hk10,hcl⟩:=hh
  refine⟨_,rfl,?_⟩
  have h10:=h9.ay hk10
  have hsd:=ia.side hcl h9 h10 (fun _ h=>h)
  obtain⟨sm1,-⟩:=kK h10.ch hsd.ch hcl ok7.ch (by omega) (by rw[ag7.1];exact hbf) (ag7.fst hi7)
  clear z0
  obtain⟨z0,-,-,-⟩:=cy h10.blk
  repeat (first|apply aj|(apply ar;rfl;(first|apply iC|apply bM|apply az|apply aD|apply bf|apply aW)<;>first|rfl|assumption|exact List.not_mem_nil))
  refine SG.ret rfl rfl rfl (vs:=[.pointer (some ⟨cw.cb,0,none⟩),.pointer (some ⟨q1.c.cb,0,none⟩)]) (bz.of rfl) sm1 (fun w11 hk11=>?_)
  have h11:=h10.ay hk11
  have hsd11:=hsd.ay hk11
  obtain⟨-,sm2⟩:=kK h11.ch hsd11.ch hcl ok7.ch (by omega) (by rw[ag7.1];exact hbf) (ag7.fst hi7)
  clear z0
  obtain⟨z0,-,-,-⟩:=cy h11.blk
  repeat (apply ar;rfl;(first|apply bM|apply az|apply bf|apply aW|apply cu|apply fZ)<;>first|rfl|assumption|exact List.not_mem_nil)
  refine SG.ret rfl rfl rfl (vs:=[.pointer (some ⟨q1.c.cb,0,none⟩),.pointer (some ⟨cw.cb,0,none⟩)]) (bz.of rfl) sm2 (fun w12 hk12=>?_)
  have h12:=h11.ay hk12
  have hsd12:=hsd11.ay hk12
  have k912:=(hk10.trans hk11).trans hk12
  clear z0
  have r9:Row w12 b8 0 (qx x):=Row.all (hB9.ay k912) rfl
  have hxn:x.In n w12:=Ax.In.up ((hxI.ay k79).ay k912) (by omega)
  repeat (first|apply aj|(apply ar;rfl;(first|apply cu|apply fZ)<;>rfl))
  refine bG rfl ?_
  repeat (first|apply aj|(apply ar;rfl;(first|apply az|apply bj)<;>first|rfl|assumption|exact List.not_mem_nil))
  refine SG.call rfl rfl rfl (vs:=[.pointer (some ⟨bw,0,none⟩),Hf x]) (bz.of rfl) ((ux h12 ok7 (by omega) (by omega) hxn hxb).mono (fun e w13 hh=>?_))
  obtain⟨q2,z,rfl,h13,ok13,hstp,hno,hle,ko⟩:=hh
  refine⟨_,rfl,?_⟩
  have k513:Kp [] w5 w13:=((k57.trans k79).trans k912).ai ko.kp (fun x hx=>Or.inr (by rw[hn];exact h12.ge x hx))
  have ej:((j+1:Nat):Int)=(j:Int)+1:=by omega
  have hsd13:=hsd12.act h12 ko
  have ag13:=ag7.step hstp
  have hi13:=hi7.step ok7.ch hstp hle
  clear r9
  obtain⟨z0,-,-,-⟩:=cy h13.blk
  by_cases hz0:z=0
  ·subst hz0
   repeat (first|apply aj|(apply ar;rfl;(first|apply az|apply aD|apply cu|apply dK)<;>first|rfl|(apply bK;first|assumption|omega))|refine SG.skip rfl rfl ?_)
   refine bG rfl ?_
   clear z0
   repeat (first|apply aj|(apply ar;rfl;(first|apply az|apply dG)<;>first|rfl|(apply Ar.mk;omega)))
   refine NG.round (j+1,q2) (aS.of rfl) ⟨hlt,h13,by simp only;rw[ej];exact ok13,k513,hi13,ag13⟩ (by simp only;omega)
  ·obtain⟨np,nt,nns⟩:=hno hz0
   have hnd:=h7.ch.map.nodup
   obtain⟨qf,f0⟩:=ag7.fst hi7
   obtain⟨qt,f1⟩:=ok7.ch.tip
   have f0':aB cw.ns q1.c.first=some qf:=by rw[hcl.look hnd];exact f0
   have f1':aB cw.ns q1.c.tr.tip=some qt:=by rw[hcl.look hnd];exact f1
   have hpl:cw.ps.length≤1024:=by
    have h1:=congrArg List.length hcl.ps
    have h2:=ok7.ch.pool.len
    rw[List.length_map] at h1 h2
    rw[List.length_map] at h1
    omega
   have sm3:=lS hsd13.ch h13.ch (by omega) (by rw[ag13.1,hcl.bd,ag7.1]) (by rw[ag13.2,hcl.first,ag7.2]) (by rw[nt];exact hcl.tr.symm) (hcl.tr.wf ok7.ch.wf) (by rw[np,hcl.ps]) hpl (by rw[hcl.bd,ag7.1];exact hbf) (q0:=qf) (q1:=qt) (by rw[hcl.first];exact f0') (by rw[hcl.first,nns];exact f0) (by rw[←hcl.tr.tip];exact f1') (by rw[←hcl.tr.tip,nns];exact f1)
   repeat (first|apply aj|(apply ar;rfl;(first|apply bM|apply az|apply aD|apply bf|apply aW|apply dK)<;>first|rfl|assumption|(apply bN;first|assumption|omega)|exact List.not_mem_nil))
   refine SG.ret rfl rfl rfl (vs:=[.pointer (some ⟨cw.cb,0,none⟩),.pointer (some ⟨q2.c.cb,0,none⟩)]) (bz.of rfl) sm3 (fun w14 hk14=>?_)
   clear z0
   repeat (first|apply aj|(apply ar;rfl;(first|apply cu|apply fZ)<;>rfl))
   refine bG rfl ?_
   repeat (first|apply aj|(apply ar;rfl;(first|apply az|apply dG)<;>first|rfl|(apply Ar.mk;omega)))
   refine NG.round (j+1,q2) (aS.of rfl) ⟨hlt,h13.ay hk14,by simp only;rw[ej];exact ok13,k513.trans hk14,hi13,ag13⟩ (by simp only;omega)
 have g1:¬(j:Int)<(acts.length:Int):=by omega
 have hjj:(j:Int)≤40:=by omega
 clear hlt
 obtain⟨ab,cb0,evb,hcb0,hSb⟩:=Sl.own aJ h7.bl rfl
 have hb1:=ok7.ne
 have hbl:=ok7.bl
 obtain⟨bb,ob,eab,-⟩:=hSb.at hb1
 rw[eab] at evb hSb
 obtain⟨-,-,-,z3⟩:=cy h7.blk
 rw[evb] at z3
 repeat (first|apply aj|(apply ar;rfl;apply cG<;>first|rfl|(apply bN;first|assumption|omega)))
 refine bG rfl ?_
 repeat (first|apply aj|(apply ar;rfl;(first|apply bM|apply az|apply bf|apply aW)<;>first|rfl|assumption|exact List.not_mem_nil))
 refine SG.val rfl rfl rfl rfl (HY (j:=1) rfl rfl rfl (Ar.mk hb1)) ?_
 repeat (first|apply aj|(apply ar;rfl;(first|apply az|apply dy)<;>rfl))
 clear z3
 obtain⟨o2,ho2⟩:∃o2,(if cb0=1 then ob else ob+1*18)=o2:=⟨_,rfl⟩
 rw[ho2]
 have hnA:∀{W:World},df W n (fS (jK m4 4)) bw q1→∀z∈[q1.c.tm,q1.c.nm,q1.pm],z<W.heap.size:=fun h z hz=>by
  simp only[List.mem_cons,List.mem_nil_iff,or_false] at hz
  rcases hz with e|e|e
  ·rw[e];exact h.ch.tree.map.lt
  ·rw[e];exact h.ch.map.lt
  ·rw[e];exact h.nb.map.lt
 refine CG.loop (X:=Nat) (fun k=>[(3,.slice a2 more.length c2),(8,.bool false),(9,.pointer (some ⟨bw,0,none⟩)),(95,.slice (some ⟨bb,o2,none⟩) (q1.bs.length-1) (cb0-1)),(96,.int .i64 ((q1.bs.length-1:Nat):Int)),(97,.int .i64 (k:Int))])
  (fun k w'=>k≤q1.bs.length-1∧df w' n (fS (jK m4 4)) bw q1∧Kp [] w5 w') (fun k=>q1.bs.length-1-k) 0 ⟨Nat.zero_le _,h7,k57⟩ (aS.of rfl) ?_
 rintro k w8 ⟨hk,h8,k58⟩
 refine CG.to [(3,.slice a2 more.length c2),(8,.bool false),(9,.pointer (some ⟨bw,0,none⟩)),(95,.slice (some ⟨bb,o2,none⟩) (q1.bs.length-1) (cb0-1)),(96,.int .i64 ((q1.bs.length-1:Nat):Int)),(97,.int .i64 (k:Int))] (aS.of rfl) ?_
 by_cases hlt:k<q1.bs.length-1
 ·have g2:(k:Int)<((q1.bs.length-1:Nat):Int):=by omega
  have hk1:k+1<q1.bs.length:=by omega
  obtain⟨a',c',ev',-,hS8⟩:=Sl.own aJ h8.bl rfl
  rw[evb] at ev'
  cases ev'
  obtain⟨b',off',e',hrow⟩:=hS8.at hk1
  cases e'
  have eo:ob+(k+1)*18=o2+k*18:=by
   rw[←ho2,if_neg (by omega)]
   omega
  rw[eo] at hrow
  have hyI:=h8.bi _ (List.getElem_mem hk1)
  have h77:=sV ok7 hi7 (List.getElem_mem hk1)
  generalize q1.bs[k+1]=y at*
  repeat (first|apply aj|(apply ar;rfl;apply cG<;>first|rfl|(apply bK;first|assumption|omega)))
  refine bL rfl ?_
  repeat (first|apply aj|(apply ar;rfl;(first|apply bj|apply fv)<;>first|rfl|(apply Ar.mk;omega)|assumption|exact List.not_mem_nil|apply aJ))
  refine SG.alloc rfl rfl rfl (fun b15 w9 hk9 hb15 hB15=>?_)
  refine SG.aN (l:=dq y) rfl rfl (ag rfl) (ag rfl) hB15 (aJ _) rfl (dU _) (fun w10 hk10 hB15=>?_)
  have k810:=hk9.ai hk10 (aV hb15)
  have h10:=h8.ay k810
  obtain⟨z0,-,-,-⟩:=cy h10.blk
  have r15:Row w10 b15 0 (dq y):=Row.all hB15 rfl
  clear hrow
  repeat apply aj
  refine CG.tail mixed 5 [0,1,2,3,4] (by kernel_rfl) ?_
  repeat (apply bZ;rfl;rfl;(first|apply bM|apply az|apply bf|apply bj|apply aW)<;>first|rfl|assumption|exact List.not_mem_nil|apply aJ)
  refine aI.tl (fun w11 hk11 _ _=>?_)
  have h11:=h10.ay hk11
  have hyI11:=(hyI.ay k810).ay hk11
  refine SG.call rfl rfl rfl (vs:=[.pointer (some ⟨q1.c.cb,0,none⟩),iH y]) (bz.of rfl) ((nY h11.ch ok7.ch (by omega) (by omega) (hnA h11) h11.nb hyI11).mono (fun e w12 hh=>?_))
  obtain⟨rfl,hh⟩:=hh
  rw[h77] at hh
  rcases hh with⟨-,hC,hk12⟩|⟨h0,-⟩
  rotate_left
  ·cases h0
  refine⟨_,rfl,?_⟩
  rw[h77]
  have h12:df w12 n (fS (jK m4 4)) bw q1:=h11.DC hk12 h11.ch.qI hC ⟨rfl,rfl,rfl,rfl⟩ (fun p hp=>Or.inl hp)
  have k512:Kp [] w5 w12:=((k58.trans k810).trans hk11).ai hk12 (fun x hx=>Or.inr (by rw[hn];exact(h11.ch.qI x hx).1))
  clear z0 r15
  repeat (first|apply aj|(apply ar;rfl;apply dK<;>first|rfl|(apply bK;first|assumption|omega)))
  refine bG rfl ?_
  repeat (first|apply aj|(apply ar;rfl;(first|apply az|apply dG)<;>first|rfl|(apply Ar.mk;omega)))
  refine NG.round (k+1) (aS.of rfl) ⟨by omega,h12,k512⟩ (by omega)
 have g2:¬(k:Int)<((q1.bs.length-1:Nat):Int):=by omega
 clear hlt
 repeat (first|apply aj|(apply ar;rfl;apply cG<;>first|rfl|(apply bN;first|assumption|omega)))
 refine bG rfl ?_
 obtain⟨z0,-,-,-⟩:=cy h8.blk
 repeat (first|apply aj|(apply ar;rfl;(first|apply bM|apply az|apply bf|apply aW)<;>first|rfl|assumption|exact List.not_mem_nil))
 refine SG.call rfl rfl rfl (vs:=[.pointer (some ⟨q1.c.cb,0,none⟩)]) (bz.of rfl) ((kj h8.ch ok7.ch).mono (fun e w9 hh=>?_))
 obtain⟨cw,rfl,hk9,hcl⟩:=hh
 refine⟨_,rfl,?_⟩
 have h9:=h8.ay hk9
 have hsd:=ia.side hcl h8 h9 (fun _ h=>h)
 obtain⟨sm1,-⟩:=kK h9.ch hsd.ch hcl ok7.ch (by omega) (by rw[ag7.1];exact hbf) (ag7.fst hi7)
 clear z0
 obtain⟨z0,-,-,-⟩:=cy h9.blk
 repeat (first|apply aj|(apply ar;rfl;(first|apply iC|apply bM|apply az|apply aD|apply bf|apply aW)<;>first|rfl|assumption|exact List.not_mem_nil))
 refine SG.ret rfl rfl rfl (vs:=[.pointer (some ⟨cw.cb,0,none⟩),.pointer (some ⟨q1.c.cb,0,none⟩)]) (bz.of rfl) sm1 (fun w10 hk10=>?_)
 have h10:=h9.ay hk10
 have hcl10:=hcl.ay hk10
 clear z0
 repeat (first|apply aj|(apply ar;rfl;(first|apply cu|apply fZ)<;>rfl))
 refine bG rfl ?_
 obtain⟨a',c',ev',-,hS10⟩:=Sl.own aJ h10.bl rfl
 rw[evb] at ev'
 cases ev'
 obtain⟨sa,sc,evs⟩:=gF h10.sg
 obtain⟨-,y1,y2,y3⟩:=cy h10.blk
 rw[evb] at y3
 rw[evs] at y2
 have hne:q1.bs≠[]:=List.length_pos_iff.1 hb1
 repeat apply aj
 refine CG.dM mixed 15 [0,1,2,3,4,5,6,7,8,10,11,12,13,9,14] [9,14] [] (fun _=>True) (by kernel_rfl) trivial (fun _ _ _ _=>trivial) ?_
 repeat (apply bZ;rfl;rfl;(first|apply bM|apply az|apply bf|apply aW)<;>first|rfl|assumption|exact List.not_mem_nil)
 refine aI.GO rfl rfl rfl (fun b9=>?_)
 refine aI.Iy q1.bs aJ dU rfl rfl rfl rfl (ag rfl) (ag rfl) rfl rfl rfl hb1 (by simp only[maxLen];omega) (by show q1.bs.length*48≤_;omega) (fun W hk=>(hS10.ay hk).flat aJ hne) (fun v=>?_)
 refine aI.tl (fun w11 hk11 _ hown=>?_)
 have h11:=h10.ay hk11
 refine SG.val rfl rfl rfl rfl (aG rfl (fun W=>Pk W _ _ _ _ _ _ _ _)) ?_
 refine SG.box rfl rfl rfl (ag rfl) (fun bo w12 hk12 hbo hBo=>?_)
 have h12:=h11.ay hk12
 have s8:=hk9.size
 have s9:=hk10.size
 have s10:=hk11.size
 have hnN:=h8.ch.w0
 have ewl:Ap {q1 with c:=cw,vb:= .slice v.1 q1.bs.length v.2}=[.pointer (some ⟨cw.cb,0,none⟩),.pointer (some ⟨q1.c.vb,0,none⟩),.slice sa q1.ss.length sc,.slice v.1 q1.bs.length v.2]:=by
  show[_,Value.pointer (some ⟨cw.vb,0,none⟩),q1.vs,_]=_
  rw[hcl.vb,evs]
 obtain⟨hW,hs1,hbw⟩:=h12.fork h8.lt h8.ch.blk.lt hnN ((hcl10.ay hk11).ay hk12) (bo:=bo) (v':= .slice v.1 q1.bs.length v.2) (by omega) (by rw[ewl];exact hBo) (cX (aT hown hk12) (by omega)) (fun x hx=>by have:=so hown x hx;omega)
 have okO:=ok7.fork hcl h7.ch.map.nodup (v':= .slice v.1 q1.bs.length v.2)
 have hqs:∀p∈q1.c.ns,p∈({q1 with c:=cw,vb:= .slice v.1 q1.bs.length v.2}:Wl).c.ns:=fun p hp=>hcl.ns.mem_iff.2 hp
 obtain⟨qo,hqo⟩:∃qo,({q1 with c:=cw,vb:= .slice v.1 q1.bs.length v.2}:Wl)=qo:=⟨_,rfl⟩
 rw[hqo] at hW hs1 hbw okO hqs
 have hbwB:=h12.blk
 clear y1 y2 y3
 obtain⟨z0,-,-,-⟩:=cy hbwB
 repeat (first|apply aj|(apply ar;rfl;(first|apply bM|apply az|apply aD|apply bf|apply aW)<;>first|rfl|assumption|exact List.not_mem_nil))
 refine SG.call rfl rfl rfl (vs:=[.pointer (some ⟨q1.c.cb,0,none⟩)]) (bz.of rfl) ((kj h12.ch ok7.ch).mono (fun e w13 hh=>?_))
 obtain⟨cz,rfl,hk13,hcz⟩:=hh
 refine⟨_,rfl,?_⟩
 have hW13:=hW.ay hk13
 have hs2:=ia.side hcz hW hW13 hqs
 have hs1:=hs1.ay hk13
 have hbwB:=hbwB.ay hk13
 have k513:=((((k58.trans hk9).trans hk10).trans hk11).trans hk12).trans hk13
 clear z0
 repeat (first|apply aj|(apply ar;rfl;(first|apply az|apply aD|apply dy)<;>rfl))
 refine CG.loop (X:=Nat×Wl) (fun p=>[(9,.pointer (some ⟨bw,0,none⟩)),(17,.pointer (some ⟨bo,0,none⟩)),(18,.pointer (some ⟨cz.cb,0,none⟩)),(147,.slice a2 more.length c2),(148,.int .i64 (more.length:Int)),(149,.int .i64 (p.1:Int))])
  (fun p w'=>p.1≤more.length∧df w' n (fS (jK m4 4)) bo p.2∧ni p.2 ((j:Int)+(p.1:Int))∧Kp [] w5 w'∧nj w' n (fS (jK m4 4)) bo p.2 q1.c∧nj w' n (fS (jK m4 4)) bo p.2 cz∧aF w' bw (.cells (Ap q1).toArray 44)∧bw∉l7 bo p.2) (fun p=>more.length-p.1) (0,qo) ⟨Nat.zero_le _,hW13,by simpa using okO,k513,hs1,hs2,hbwB,hbw⟩ (aS.of rfl) ?_
 rintro⟨i,qo1⟩ w14 ⟨hi,h14,ok14,k514,hs1,hs2,hbwB,hbw⟩
 simp only at hi h14 ok14 hs1 hs2 hbw
 refine CG.to [(9,.pointer (some ⟨bw,0,none⟩)),(17,.pointer (some ⟨bo,0,none⟩)),(18,.pointer (some ⟨cz.cb,0,none⟩)),(147,.slice a2 more.length c2),(148,.int .i64 (more.length:Int)),(149,.int .i64 (i:Int))] (aS.of rfl) ?_
 by_cases hlt:i<more.length
 ·have g3:(i:Int)<(more.length:Int):=by omega
  have k14:=k5.trans k514
  obtain⟨ba,off,rfl,hrow⟩:=(hS2.ay k14).at hlt
  have hxI:=(hI2 _ (List.getElem_mem hlt)).ay k14
  have hxb:=hb2 _ (List.getElem_mem hlt)
  generalize more[i]=x at*
  repeat (first|apply aj|(apply ar;rfl;apply cG<;>first|rfl|(apply bK;first|assumption|omega)))
  refine bL rfl ?_
  repeat (first|apply aj|(apply ar;rfl;(first|apply bj|apply fv)<;>first|rfl|(apply Ar.mk;omega)|assumption|exact List.not_mem_nil))
  refine SG.alloc rfl rfl rfl (fun b8 w15 hk15 hb8 hB8=>?_)
  refine SG.aN (l:=qx x) rfl rfl (ag rfl) (ag rfl) hB8 (qg _) rfl (yy _) (fun w16 hk16 hB9=>?_)
  have k79:=hk15.ai hk16 (aV hb8)
  have r9:Row w16 b8 0 (qx x):=Row.all hB9 rfl
  clear hrow
  have hn5:=k5.size
  have h16:=h14.ay k79
  have hxn:x.In n w16:=Ax.In.up (hxI.ay k79) (by omega)
  repeat (first|apply aj|(apply ar;rfl;(first|apply az|apply bj)<;>first|rfl|assumption|exact List.not_mem_nil))
  refine SG.call rfl rfl rfl (vs:=[.pointer (some ⟨bo,0,none⟩),Hf x]) (bz.of rfl) ((ux h16 ok14 (by omega) (by omega) hxn hxb).mono (fun e w17 hh=>?_))
  obtain⟨q2,z,rfl,h17,ok17,-,-,-,ko⟩:=hh
  refine⟨_,rfl,?_⟩
  have k517:Kp [] w5 w17:=(k514.trans k79).ai ko.kp (fun x hx=>Or.inr (by rw[hn];exact h16.ge x hx))
  have hbw16:=hbwB.ay k79
  have lbw:=hbw16.lt
  have ej:(j:Int)+((i+1:Nat):Int)=(j:Int)+(i:Int)+1:=by omega
  clear r9
  repeat (first|apply aj|(apply ar;rfl;(first|apply az|apply dG)<;>first|rfl|(apply Ar.mk;omega)))
  refine NG.round (i+1,q2) (aS.of rfl) ⟨hlt,h17,by simp only;rw[ej];exact ok17,k517,(hs1.ay k79).act h16 ko,(hs2.ay k79).act h16 ko,hbw16.kp ko.kp hbw,fun hm=>(ko.sub _ hm).elim hbw (fun g=>by omega)⟩ (by simp only;omega)
 have g3:¬(i:Int)<(more.length:Int):=by omega
 repeat (first|apply aj|(apply ar;rfl;apply cG<;>first|rfl|(apply bN;first|assumption|omega)))
 refine bG rfl ?_
 obtain⟨z0,-,-,-⟩:=cy hbwB
 obtain⟨sm5,-⟩:=kK hs1.ch hs2.ch hcz ok7.ch (by omega) (by rw[ag7.1];exact hbf) (ag7.fst hi7)
 repeat (first|apply aj|(apply ar;rfl;(first|apply P1|apply bM|apply az|apply bf|apply aW)<;>first|rfl|assumption|exact List.not_mem_nil))
 refine SG.ret rfl rfl rfl (vs:=[.pointer (some ⟨cz.cb,0,none⟩),.pointer (some ⟨q1.c.cb,0,none⟩)]) (bz.of rfl) sm5 (fun w15 hk15=>?_)
 clear z0
 obtain⟨z0,-,-,-⟩:=cy (hbwB.ay hk15)
 repeat (apply ar;rfl;(first|apply bM|apply az|apply bf|apply aW|apply cu)<;>first|rfl|assumption|exact List.not_mem_nil)
 refine SG.ret rfl rfl rfl (vs:=[.pointer (some ⟨q1.c.cb,0,none⟩),.pointer none]) (bz.of rfl) (CB w15 _) (fun w16 hk16=>?_)
 clear z0
 repeat (first|apply aj|(apply ar;rfl;(first|apply aD|apply cu|apply fZ)<;>rfl))
 refine aO (Or.inl rfl) Tryz.results6 (aC.tmp rfl) ?_
 exact⟨rfl,((k5.trans k514).trans hk15).trans hk16⟩
end
section
open Go.ChangeShapes Go.WideShapes Go.ChangeAt Go.RowKit
theorem B7(os:Os):laidMet Tryz.prog Rows.chainAgainUptoRow.laid ((nM os).forCall (fun _ _=>0) ⟨#[],#[Fe,Fc,.slice none 0 0,.slice none 0 0],[]⟩).memory:=
 laidMet_of_run' 8 (by kernel_rfl) (by kernel_rfl)
theorem reads(os:Os){H:Type}(enc:TypeId×Value→H):∃places,DataW.whole enc Tryz.prog ((nM os).forCall (fun _ _=>0) ⟨#[],#[Fe,Fc,.slice none 0 0,.slice none 0 0],[]⟩).memory Tryz.f6.params.toList Rows.chainAgainSpec.vars false #[Fe,Fc,.slice none 0 0,.slice none 0 0].toList 8=some ([.agg [.lit (.int .u8 0),.lit (.int .u8 0),.lit (.int .u8 0)],.agg [.lit (.int .u16 0),.lit (.int .u16 0),.lit (.int .u16 0),.lit (.int .u16 0)],.nil,.nil],[],places):=
 ⟨[],by kernel_rfl⟩
set_option maxRecDepth 100000 in
theorem mV(os:Os)(started:os.Started)(H:Type)(enc:TypeId×Value→H)(F:Stop.Interp):
  ReturnsInHanded {} Tryz.checked os 6 .any ((Rows.OpenSpec.upto Rows.chainAgainSpec).preRow enc Tryz.prog Tryz.f6 Rows.chainAgainUptoRow.domain false Rows.chainAgainUptoRow.laid) (((Rows.OpenSpec.upto Rows.chainAgainSpec).at F).post enc Tryz.prog Tryz.f6 false true false false):=by
 obtain⟨places,hx⟩:=reads os enc
 refine returnsInHanded_of_row (C:=Tryz.checked) (s:=Rows.OpenSpec.upto Rows.chainAgainSpec) own started (by kernel_rfl) Tryz.func6
  (witness_row_at (enc:=enc) (C:=Tryz.checked) false (nM os) #[Fe,Fc,.slice none 0 0,.slice none 0 0] rfl (by kernel_rfl) (by kernel_rfl) (by kernel_rfl)
   (OpenSpec.preRow_of_cond 8 hx (by kernel_rfl) (fun k hk=>by cases hk;kernel_rfl) (by kernel_rfl) (B7 os))) ?_
 intro W base args ds gs before hval0 hW0 _ hcond _ _ _ _
 have hval:∀(j:Nat) t v,Tryz.f6.params[j]?=some t→args[j]?=some v→Value.okWide Tryz.prog W .any base t v:=hval0
 have hW':DataW.Whole enc Tryz.prog Tryz.f6.params.toList Rows.chainAgainSpec.vars false W args.toList ds gs before:=hW0
 have hW:=hW'
 obtain⟨p,q,hA0,hV,rfl,hfz,hnd⟩:=hW
 have hA:DataW.TrodAll enc Tryz.prog W 0 (fun _=>true) true Tryz.f6.params.toList args.toList ds p:=hA0
 rw[Tryz.params6] at hA hval
 obtain⟨v0,v1,v2,v3,d0,d1,d2,d3,p0,p1,p2,p3,rfl,rfl,rfl,h0,h1,h2,h3⟩:=trodAll_four hA
 have hk:Rows.uptoBulkAll ([d0,d1,d2,d3]++gs)≤1048576:=of_decide_eq_true (hcond _ rfl)
 have hb:Rows.uptoBulk d2≤1048576:=Nat.le_trans (sm (List.mem_append_left _ (by simp))) hk
 have hb':Rows.uptoBulk d3≤1048576:=Nat.le_trans (sm (List.mem_append_left _ (by simp))) hk
 obtain⟨f,l,s,rfl⟩:=IZ (hval 0 22 v0 rfl rfl) h0
 obtain⟨m4,rfl,hm⟩:=HD (hval 1 24 v1 rfl rfl) h1
 obtain⟨a,c,acts,rfl,hS,hI,hbd⟩:=yA (hval 2 25 v2 rfl rfl) h2 hb
 obtain⟨a2,c2,acts2,rfl,hS2,hI2,hbd2⟩:=yA (hval 3 25 v3 rfl rfl) h3 hb'
 refine(xr f l s hm hS hI hbd hS2 hI2 hbd2).mono fun e W' ⟨he,hk⟩=>⟨_,he,?_⟩
 exact B6 laidOut (by rw[Tryz.params6];exact of_decide_eq_true (by kernel_rfl)) rfl hW' rfl (by kernel_rfl) Tryz.underlying4 hk
theorem oU:Rows.ChainAgainUptoSaid:=
 OpenClaim.holds_of_cond 6 Tryz.f6 rfl rfl rfl rfl rfl rfl rfl ⟨rfl,rfl,rfl,rfl,rfl⟩ rfl rfl rfl rfl rfl (by kernel_rfl) Tryz.func6 (by kernel_rfl)
  (of_decide_eq_true (by kernel_rfl)) (by unfold Func.isWrapper;first|(rw[if_pos (by decide+kernel)];kernel_rfl)|(rw[if_neg (by decide+kernel)];exact⟨rfl,rfl⟩))
  (fun os started H enc _ F=>by rw[OpenClaim.pre_eq_preRow];exact mV os started H enc F)
theorem nX(f:FuncId)(fn:Func)(hf:Tryz.pinned.checked.prog.funcNamed "baize/baizelaw30.ChainAgain"=some f)(hfn:Tryz.pinned.checked.prog.funcs[f]?=some fn):
  true=Tryz.pinned.checked.prog.looks []∧∀(j:Nat) t,fn.params[j]?=some t→Tryz.pinned.checked.prog.wantsStandIn t=false:=by
 obtain rfl:f=6:=Option.some.inj ((show Tryz.prog.funcNamed "baize/baizelaw30.ChainAgain"=some 6 by kernel_rfl).symm.trans hf)|>.symm
 obtain rfl:fn=Tryz.f6:=(Option.some.inj (Tryz.func6.symm.trans hfn)).symm
 refine⟨by kernel_rfl,fun j t ht=>?_⟩
 rw[Tryz.params6] at ht
 have ht:=Array.mem_of_getElem? ht
 simp only[List.mem_toArray,List.mem_cons,List.mem_nil_iff,or_false] at ht
 rcases ht with rfl|rfl|rfl|rfl
 ·exact(show Tryz.prog.wantsStandIn 22=false by kernel_rfl)
 ·exact(show Tryz.prog.wantsStandIn 24=false by kernel_rfl)
 ·exact(show Tryz.prog.wantsStandIn 25=false by kernel_rfl)
 ·exact(show Tryz.prog.wantsStandIn 25=false by kernel_rfl)
theorem chainAgain_holds:Rows.ChainAgainUptoCardSaid:=
 Claim7.holds_tied_plain_at .later [] _ _ _ _ oU (fun _ h=>by cases h) (by kernel_rfl) (fun _ h=>by cases h) chainAgainUpto_row_tie rfl ⟨rfl,rfl⟩ (by kernel_rfl) rfl nX (by kernel_rfl)
end
end Go.Proofs.YtpnjgjddabeapaaGreatDoor
