/-
  ChainMoney answers true for every input of a bulk of at most 1048576, and leaves its arguments as they were. The second form's card; no other conditions.
-/
import Derived.Test.YtpnjgjddabeapaaGreatDoorMm5
namespace Go.Proofs.YtpnjgjddabeapaaGreatDoor
set_option linter.unusedVariables false
set_option maxHeartbeats 400000000
section
theorem K2(w:World)(a b:Int)(p:Option Addr)(m cc:Nat):(Instr.build 52 #[(1,.int .i64 a),(2,.int .i64 b),(4,.slice p m cc)]).run Tryz.prog w= .ok (.agg (dc zd++[Value.int .i64 a,Value.int .i64 b,Value.int .i64 0,Value.slice p m cc,Value.slice none 0 0]).toArray) w:=by kernel_rfl
theorem Lr(w:World):(Instr.build 31 #[]).run Tryz.prog w= .ok (bdv ⟨0,0,0⟩) w:=by kernel_rfl
theorem K1(w:World):(Instr.build 24 #[(0,.int .u16 10)]).run Tryz.prog w= .ok (u4v [10,0,0,0]) w:=by kernel_rfl
theorem D0:bdz ⟨0,0,0⟩=0:=by kernel_rfl
theorem DW:iB (acU [10,0,0,0] 4)=10:=by kernel_rfl
structure KSt(i:Nat)(q:Wl)(y:Bm)(z:Nat)(m:Nm):Prop where
 tr:q.c.tr=Tr.new bH 0
 ns:q.c.ns=[(bH,z,m)]
 ps:q.c.ps.map Em.en=kP i
 nb:q.nb=kN i
 ss:q.ss.map (·.t)=[kS 0,kS 1].take i
 bs:q.bs=[y]
 yb:y.b=(bM cH).b
 mx:m.x=bM cH
 mf:m.f=kf0
 mt:m.t=kt0
 ok:kr q.c 0
theorem KSt.tip{i:Nat}{q:Wl}{y:Bm}{z:Nat}{m:Nm}(h:KSt i q y z m):az q.c.ns q.c.tr.tip=some (z,m):=by
 rw[h.ns,h.tr]
 exact if_pos rfl
theorem wW:dZ 256 []:=zY (by decide)
theorem B0:∀i,(kN i).length≤10
 |0=>by decide
 |1=>show 1≤10 by decide
 |_+2=>show 2≤10 by decide
theorem yT{y:Bm}(h:y.b=(bM cH).b):aM y.b=bH:=by rw[h];rfl
theorem yV{b:Bd}{l:List Nat}{q:Wl}{y:Bm}(h:E7 b l q y)(hf:b.fork≤1000):yj q 0:=by
 obtain⟨z,m,hns,hmx,hmf,hmt,hme⟩:=h.ns
 have hl:∀d,az q.c.ns d=if bH=d then some (z,m) else none:=fun d=>by
  rw[hns]
  rfl
 refine⟨⟨by rw[h.tr];exact nu _ _,by rw[h.tr];show b.fork.toNat≤1000;omega,by rw[h.ps];exact wW,fun d=>?_,fun d x hx=>?_⟩,fun x hx=>?_,by rw[h.bs];exact Nat.zero_lt_succ _,by rw[h.nb];decide,by rw[h.ss];decide,by rw[h.bs,List.length_singleton];decide⟩
 ·rw[hl,h.tr]
  show(if bH=d then some kd0 else none).isSome=_
  by_cases e:bH=d
  ·rw[if_pos e,if_pos e];rfl
  ·rw[if_neg e,if_neg e];rfl
 ·rw[hl] at hx
  by_cases e:bH=d
  ·rw[if_pos e] at hx
   obtain rfl:=Option.some.inj hx
   show 0≤m.x.ht∧m.x.ht≤0∧(m.t.n:Int)≤64*m.x.ht
   rw[hmx,hmt]
   exact⟨Int.le_refl _,Int.le_refl _,Int.le_refl _⟩
  ·rw[if_neg e] at hx;cases hx
 ·rw[h.bs,List.mem_singleton] at hx
  subst hx
  refine⟨(z,m),?_,?_⟩
  ·rw[hl,yT h.y,if_pos rfl]
  ·rw[h.y]
   show m.x.b=_
   rw[hmx]
theorem Ku{q:Wl}{y:Bm}(h:E7 ⟨0,0,0⟩ [10,0,0,0] q y):∃z m,KSt 0 q y z m:=by
 obtain⟨z,m,hns,hmx,hmf,hmt,hme⟩:=h.ns
 exact⟨z,m,h.tr,hns,by rw[h.ps];rfl,h.nb,by rw[h.ss];rfl,h.bs,h.y,hmx,hmf,hmt,(yV h (by decide)).ch⟩
def gMb:GD:=⟨Bm,bm0,fun x=> .tuple #[bkv x,.int .i64 0],fun x w=>x.b=kB∧x.In 0 w⟩
theorem xF(x:gMb.X):cu [] (gMb.phi x):=fun w w' hk h=>⟨h.1,h.2.kp0 hk⟩
theorem BT{m:Nm}(hx:m.x=bM cH)(hf:m.f=kf0){l:List En}(hl:l=kP 2):(⟨bH,m.x.ht+1,d1 8,mkL (d1 8) m.f [] (tkL l [])⟩:Bl)=kB:=by
 rw[hl,Kw,hf,Ky,hx]
 rfl
theorem Kx{q:Wl}{y:Bm}{z:Nat}{m qn:Nm}(h:KSt 2 q y z m)(hr:∃p,az q.c.ns kB.par=some p∧ij q.nb kB.ht kB.mkr p.2.f p.2.t [] kB.txs=(0,qn.f,qn.t,qn.es)):qn.f=kf2∧qn.es=[0,21]:=by
 obtain⟨p,h1,h2⟩:=hr
 rw[h.ns] at h1
 have h1:some (z,m)=some p:=by rw[←h1];exact(if_pos rfl).symm
 obtain rfl:=Option.some.inj h1
 have h2:ij q.nb 1 (d1 8) m.f m.t [] [kS 0,kS 1]=(0,qn.f,qn.t,qn.es):=h2
 rw[h.nb,h.mf,h.mt,BO] at h2
 simp only[Prod.mk.injEq] at h2
 exact⟨h2.2.1.symm,h2.2.2.2.symm⟩
theorem DV{l:List Tm}(h:l.map (·.t)=[kS 0,kS 1]):∃a b,l=[a,b]∧b.t=kS 1:=by
 have hl:l.length=2:=by
  have:=congrArg List.length h
  rw[List.length_map] at this
  exact this
 match l,hl with
 |[a,b],_=>
  simp only[List.map_cons,List.map_nil,List.cons.injEq,and_true] at h
  exact⟨a,b,rfl,h.2⟩
theorem Fs{w:World}{L:Env}{d:Option Nat}{ty:TypeId}{pos:String}{af:Array Edge}{g:Option (Nat×Bool)}{S:List Nat}{F:World→Prop}{x:Operand}{k:Dg}{p:Pu}(hx:rho L x=acv (qC k p)):aQ Tryz.prog S w F L ⟨d,.field 59 x 1,ty,pos,af,g⟩ (.int .i64 p.money):=
 dI (dc k) [.int .i64 p.nonce] hx rfl (by simp[acl,qC]) (by simp[ah])
attribute [local irreducible] CG NG SG aQ Der Row Blk aC aJ bB aM aV bH kf0 kf2 kF aP sgn iX oN wy adZ
theorem oV{w:World}{n bw:Nat}{tot:Int}{q:Wl}(h:je w n tot bw q){y:Bm}{l:List Bm}(hb:q.bs=y::l)(hr:aV y.b=0):Ret Tryz.prog 52 #[.pointer (some ⟨bw,0,none⟩)] w (dv (aM y.b)):=by
 refine aS Tryz.func52 rfl Tryz.ntmps52 rfl ?_
 repeat apply gst
 refine SG.alloc rfl rfl rfl (fun b2 w1 hk1 hb2 hB2=>?_)
 have h1:=h.kp0 hk1
 obtain⟨a,c,ev,hc,hS⟩:=Sl.own aD h1.bl rfl
 have hl:0<q.bs.length:=by rw[hb];exact Nat.zero_lt_succ _
 obtain⟨ba,off,rfl,hrow⟩:=hS.at hl
 have e0:q.bs[0]=y:=by simp[hb]
 rw[e0] at hrow
 have hrow:Row w1 ba (off+(0:Int).toNat*18) (bkc y):=hrow
 obtain⟨-,-,-,z3⟩:=cz h1.blk
 rw[ev] at z3
 repeat (first|apply gst|(apply gsv;exact rfl;(first|apply qnc|apply qmv|apply qlc|apply qla|apply qfa|apply qic)<;>first|exact rfl|(apply Ar.mk;omega)|assumption|exact List.not_mem_nil|apply aD))
 have hnm:=dG (h1.bi y (by rw[hb];exact List.mem_cons_self))
 rw[show orZ y.b (aM y.b)= .tuple #[dv (aM y.b),.int .i64 0] from if_pos hr] at hnm
 refine SG.ret rfl rfl rfl (vs:=[bkv y]) (Evs.of rfl) hnm (fun w2 hk2=>?_)
 clear z3 hrow
 repeat (apply gsv;exact rfl;(first|apply qmv|apply qxt)<;>exact rfl)
 refine SG.alloc rfl rfl rfl (fun b3 w3 hk3 hb3 hB3=>?_)
 refine SG.aI (l:=dc (aM y.b)) rfl rfl (by exact ag rfl) (by exact ag rfl) hB3 (ah _) rfl (aT _) (fun w4 hk4 hB3=>?_)
 have k24:=hk2.trans (hk3.ai hk4 (bh hb3))
 have r3:Row w4 b3 0 (dc (aM y.b)):=Row.all hB3 rfl
 repeat (first|apply gst|(apply gsv;exact rfl;(first|apply qas|apply qla)<;>first|exact rfl|assumption|exact List.not_mem_nil|apply ah))
 refine SG.aI (l:=dc (aM y.b)) rfl rfl (by exact ag rfl) (by exact ag rfl) (hB2.kp0 k24) (ah _) rfl (aT _) (fun w5 hk5 hB5=>?_)
 have hr:Row w5 b2 0 (dc (aM y.b)):=Row.all hB5 rfl
 clear r3
 repeat apply gst
 refine aU (Or.inl rfl) Tryz.results52 (aF.agg rfl rfl hr (ah _)) ?_
 exact⟨rfl,(hk1.trans k24).ai hk5 (bh hb2)⟩
theorem lg(w:World):Ret Tryz.prog 10 #[] w (.bool true):=by
 refine uD Tryz.func10 rfl Tryz.ntmps10 ?_
 repeat (first|apply gst|(apply gsv;exact rfl;apply qas<;>exact rfl))
 refine SG.val rfl rfl rfl rfl (ay rfl Lr) ?_
 refine SG.val rfl rfl rfl rfl (ay rfl K1) ?_
 refine SG.call rfl rfl rfl (vs:=[bdv ⟨0,0,0⟩,u4v [10,0,0,0]]) (Evs.of rfl) ((jP w D0 (by decide) (l:=[10,0,0,0]) (by decide)).mono (fun e w1 hh=>?_))
 obtain⟨hk1,bw,q,y,rfl,h1,hB⟩:=hh
 refine⟨_,rfl,?_⟩
 rw[DW] at h1
 obtain⟨z,m,hK⟩:=Ku hB
 repeat (first|apply gst|(apply gsv;exact rfl;(first|apply qep|apply qmv|apply qas)<;>exact rfl))
 refine CG.ar rfl (by exact ag rfl) rfl ?_
 obtain⟨n,hn⟩:∃n,w.heap.size=n:=⟨_,rfl⟩
 rw[hn] at h1
 clear hB
 repeat (first|apply gst|(apply gsv;exact rfl;apply qmv<;>exact rfl))
 refine CG.loop (X:=Nat×Wl) (fun p=>[(0,.bool false),(1,.pointer (some ⟨bw,0,none⟩)),(15,.int .i64 (p.1:Int))])
  (fun p w'=>p.1≤2∧Kp [] w w'∧je w' n 10 bw p.2∧KSt p.1 p.2 y z m) (fun p=>2-p.1) (0,q) ⟨Nat.zero_le _,hk1,h1,hK⟩ (bg.of rfl) ?_
 clear hK h1 hk1
 rintro⟨i,q⟩ w1 ⟨hi,hk1,h1,hK⟩
 simp only at hi h1 hK
 refine CG.to [(0,.bool false),(1,.pointer (some ⟨bw,0,none⟩)),(15,.int .i64 (i:Int))] (bg.of rfl) ?_
 by_cases hlt:i<2
 ·have g1:(i:Int)<2:=by omega
  obtain⟨-,z1,-,-⟩:=cz h1.blk
  have hNb:=h1.nb
  have niw:=hNb.nin h1.blk (by decide) (by decide)
  have hS:∀x∈q.c.vb::q.pm::bf q.vN,x<w1.heap.size:=fun x hx=>by
   rcases List.mem_cons.1 hx with rfl|hx
   ·exact hNb.blk.lt
   rcases List.mem_cons.1 hx with rfl|hx
   ·exact hNb.map.lt
   exact bU hNb.own x (aB hx)
  repeat (first|apply gst|(apply gsv;exact rfl;apply qls<;>first|exact rfl|(apply dct;first|assumption|omega)))
  refine CG.au rfl (by exact ag rfl) rfl ?_
  repeat (first|apply gst|(apply gsv;exact rfl;(first|apply qmv|apply qas)<;>exact rfl))
  refine CG.Ag mixed (q.c.vb::q.pm::bf q.vN,10) 16 [0,1,4,5,6,7,8,9,2,3,10,11,12,13,14,15] [(2,gOP w1.heap.size 5 by1 1 (kF (d1 9) 7) (fun v=>v)),(10,gSg (sgn q.nb (kU (i:Int)) (d1 1)).2.1 (sgn q.nb (kU (i:Int)) (d1 1)).1 w1.heap.size n q.c.vb q.pm q.vN (sgn q.nb (kU (i:Int)) (d1 1)).2.2),(14,gV w1.heap.size 52 13),(15,gP w1.heap.size 52)] (by kernel_rfl) ?_ ?_
  ·intro p hp
   simp only[List.mem_cons,List.mem_nil_iff,or_false] at hp
   rcases hp with rfl|rfl|rfl|rfl
   ·exact xD
   ·exact qi
   ·exact lR
   ·exact lU
  have hwn:n≤w1.heap.size:=h1.ch.w0
  have hnl:q.nb.length≤10:=by rw[hK.nb];exact B0 i
  repeat (apply gxv;exact rfl;exact rfl;apply qmv<;>exact rfl)
  refine bB.val rfl rfl rfl rfl (ay rfl (fun W=>bd1 9 W)) ?_
  repeat (apply gxv;exact rfl;exact rfl;(first|apply qnc|apply qmv|apply qlc|apply qfa)<;>first|exact rfl|assumption)
  refine bB.val rfl rfl rfl rfl (ay rfl (fun W=>bd1 1 W)) ?_
  skip
  refine bB.call rfl rfl rfl rfl (vs:=[.pointer (some ⟨q.c.vb,0,none⟩),dv (d1 1)]) (Evs.of rfl) (fun W _ _=>jz q.c.vb (d1 1) W) ?_
  refine bB.uT (vs:=[dv (d1 9),.int .i64 7]) (gOP w1.heap.size 5 by1 1 (kF (d1 9) 7) (fun v=>v)) rfl rfl rfl rfl (Evs.of rfl) (fun W hk hF=>(kR (d1 9) 7 W).mono (fun e W' hh=>?_)) (fun v=>?_)
  ·obtain⟨v,he,ho,hk'⟩:=hh
   obtain⟨a,c,rfl,-⟩:=Bs.own ho
   exact⟨(a,c),he,bY ho hk.size,hk'⟩
  refine bB.val rfl rfl rfl rfl (ay rfl (fun W=>K2 W _ _ v.1 _ v.2)) ?_
  refine bB.CV (vs:=[txv ⟨kU (i:Int),v.1,v.2,none,0⟩,.iface 197 (wrv q.c.vb (d1 1))]) (gSg (sgn q.nb (kU (i:Int)) (d1 1)).2.1 (sgn q.nb (kU (i:Int)) (d1 1)).1 w1.heap.size n q.c.vb q.pm q.vN (sgn q.nb (kU (i:Int)) (d1 1)).2.2) rfl rfl rfl rfl rfl (Evs.of rfl) (fun W hk hF=>?_) ?_ (fun y2=>?_)
  ·have ho:W.ownsRow w1.heap.size 5 1 (.slice v.1 (kF (d1 9) 7).length v.2) (kF (d1 9) 7).length (flt by1 (kF (d1 9) 7)):=hF _ (.head _) (by kernel_rfl)
   obtain⟨a',c',e,hB⟩:=Bs.own ho
   simp only[Value.slice.injEq,true_and] at e
   obtain⟨e1,e2⟩:=e
   rw[←e1,←e2] at hB
   have hx:Tm.In ⟨kU (i:Int),v.1,v.2,none,0⟩ 0 W:=⟨hB,Bs.nil,Or.inl (Ty.own ho),Or.inl (fun h=>absurd rfl h),by show(kF (d1 9) 7).length≤_;rw[yE];decide,by show 0≤_;exact Nat.zero_le _⟩
   refine(kL (hNb.kp0 hk) (Nat.le_trans hwn hk.size) (by omega) hx (d1 1)).mono (fun e W2 hh=>?_)
   obtain⟨y,v',he,h1,h2,h3,h4,h5,h6,h7⟩:=hh
   exact⟨(y,v'),he,⟨⟨⟨h1,h7⟩,fun g hg=>(h5 g hg).elim Or.inl (fun h=>Or.inr (Nat.le_trans hk.size h))⟩,h2,h3,bY h6 hk.size⟩,h4⟩
  ·intro j hj W1 W2 y hk hp
   refine nG (q:=fun D=>∀y,D.phi y W1→D.phi y W2) (fun _ _=>trivial) (fun p hp hne y hy=>?_) j hj y hp
   simp only[List.mem_cons,List.mem_nil_iff,or_false] at hp
   rcases hp with rfl|rfl|rfl|rfl
   ·exact cI hy hk (fun b hb hm=>by have h1:=bG hy b hb;have h2:=hS b hm;omega)
   ·exact absurd rfl hne
   ·exact B5 hS hk y hy
   ·exact B6 hS hk y hy
  repeat (apply gxv;exact rfl;exact rfl;(first|apply qmv|apply qxt)<;>exact rfl)
  refine bB.qx rfl rfl rfl rfl rfl (Nat.le_refl _) (fun b3=>?_)
  refine bB.pQ (l:=txc y2.1) rfl rfl rfl rfl (by kernel_rfl) (by exact ag rfl) (by exact ag rfl) (aj _) (Nat.le_refl _) (fun W hk hF=>⟨hF _ (.head _) (by kernel_rfl),bF _⟩) ?_ ?_
  ·intro p hp hne y w w' cs g0 g1 g2 g3 g4 g5
   simp only[List.mem_cons,List.not_mem_nil,or_false] at hp
   rcases hp with rfl|rfl|rfl|rfl
   ·exact cI g5 g3 (bN g5 (by decide) g1)
   ·exact qj g1 g3 y g5
   ·exact lS (aj _) g3 g4 g5
   ·exact absurd rfl hne
  refine bB.tl (fun w2 hk2 hF=>?_)
  obtain⟨lb3,hB3⟩:w1.heap.size≤b3∧Blk w2 b3 (.cells (txc y2.1).toArray 52):=hF _ (.head _)
  obtain⟨⟨⟨hy,-⟩,-⟩,hyI,hN2,-⟩:((y2.1.t=(sgn q.nb (kU (i:Int)) (d1 1)).2.1∧(y2.1.t.body≠[]→∀b off,y2.1.a1=some ⟨b,off,none⟩→b∉bf y2.1.s))∧∀g,y2.2.ownBlock=some g→q.vN.ownBlock=some g∨w1.heap.size≤g)∧y2.1.In 0 w2∧dE w2 n q.c.vb q.pm y2.2 (sgn q.nb (kU (i:Int)) (d1 1)).2.2∧w2.ownsRow w1.heap.size 5 1 y2.1.s y2.1.t.sig.length (flt by1 y2.1.t.sig):=hF _ (.tail _ (.tail _ (.head _)))
  obtain⟨y2,v2⟩:=y2
  simp only at hB3 hy hyI hN2
  clear hF z1
  rw[hK.nb,BN hlt] at hy hN2
  simp only at hy hN2
  rw[show(gSg (sgn q.nb (kU (i:Int)) (d1 1)).2.1 (sgn q.nb (kU (i:Int)) (d1 1)).1 w1.heap.size n q.c.vb q.pm q.vN (sgn q.nb (kU (i:Int)) (d1 1)).2.2).val (y2,v2)= .tuple #[txv y2,.int .i64 (sgn q.nb (kU (i:Int)) (d1 1)).1] from rfl]
  rw[hK.nb,BN hlt]
  have h2:=h1.sgn hk2 hN2
  obtain⟨q2,hq2⟩:∃q2,({q with vN:=v2,nb:=kN (i+1)}:Wl)=q2:=⟨_,rfl⟩
  have e1:q2.c=q.c:=by rw[←hq2]
  have e2:q2.ss=q.ss:=by rw[←hq2]
  have e3:q2.bs=q.bs:=by rw[←hq2]
  have e4:q2.nb=kN (i+1):=by rw[←hq2]
  have e5:q2.vs=q.vs:=by rw[←hq2]
  rw[hq2] at h2
  obtain⟨z0,-,-,-⟩:=cz h2.blk
  have r3:Row w2 b3 0 (txc y2):=Row.all hB3 rfl
  repeat (first|apply gst|(apply gsv;exact rfl;apply qas<;>exact rfl))
  refine CG.tail mixed 8 [0,1,2,3,4,5,6,7] (by kernel_rfl) ?_
  repeat (apply gdv;exact rfl;exact rfl;(first|apply qnc|apply qmv|apply qlc|apply qla|apply qfa|apply qni)<;>first|exact rfl|assumption|(apply dct;first|assumption|omega)|exact List.not_mem_nil|apply aj)
  refine Der.tl (fun w3 hk3 _ _=>?_)
  have h3:=h2.kp0 hk3
  have hq:az q2.c.ns q2.c.tr.tip=some (z,m):=by rw[e1];exact hK.tip
  have hpool:dZ 256 (q2.c.ps.map Em.en):=by rw[e1];exact hK.ok.pool
  have hps:q2.c.ps.map Em.en=kP i:=by rw[e1];exact hK.ps
  have hy3:y2.In n w3:=(hyI.mono (Nat.zero_le n)).kp0 hk3
  obtain⟨k1,k2⟩:=DX hlt hK.mx hK.mf
  clear z0 r3
  refine SG.call rfl rfl rfl (vs:=[.pointer (some ⟨q2.c.cb,0,none⟩),txv y2]) (Evs.of rfl) ((jx h3.ch h3.nb hpool hy3 hq).mono (fun e w4 hh=>?_))
  obtain⟨rfl,pv',ps',hC4,eps,hk4,-⟩:=hh
  have okq2:kr q2.c 0:=by rw[e1];exact hK.ok
  have ok4:=okq2.sub (pv:=pv') eps
  rw[hps,e4,hy] at eps
  rw[hps,e4,hy]
  have eps:ps'.map Em.en=kP (i+1):=by rw[eps];exact k2
  have k1:oN (kN (i+1)) (z,m).2 (kP i) (kS i)=0:=k1
  rw[k1]
  refine⟨_,rfl,?_⟩
  have hcnd:Cnd n CT [q2.c.tm,q2.c.nm] w3 (q2.c.pb::bf q2.c.pv):=h3.ch.pool.cnd
  have h4:=h3.chn hk4 hcnd hC4 ⟨rfl,rfl,rfl,rfl⟩ (fun p hp=>Or.inl hp)
  have hy4:y2.In n w4:=hy3.cnd hk4 hcnd (by decide)
  have hB34:Blk w4 b3 (.cells (txc y2).toArray 52):=hcnd.blk hk4 (hB3.kp0 hk3) (by decide)
  obtain⟨q4,hq4⟩:∃q4,({q2 with c:={q2.c with pv:=pv',ps:=ps'}}:Wl)=q4:=⟨_,rfl⟩
  have f1:q4.c={q2.c with pv:=pv',ps:=ps'}:=by rw[←hq4]
  have f2:q4.ss=q.ss:=by rw[←hq4];exact e2
  have f3:q4.bs=q.bs:=by rw[←hq4];exact e3
  have f4:q4.nb=kN (i+1):=by rw[←hq4];exact e4
  have f5:q4.vs=q.vs:=by rw[←hq4];exact e5
  rw[hq4] at h4
  repeat (first|apply gst|(apply gsv;exact rfl;(first|apply qpk|apply qni)<;>first|exact rfl|(apply dct;first|assumption|omega)))
  refine CG.ar rfl (by exact ag rfl) rfl ?_
  obtain⟨-,-,z2,-⟩:=cz h4.blk
  have r5:Row w4 b3 0 (txc y2):=Row.all hB34 rfl
  have hSl:∀z∈bf q4.vs,z<w4.heap.size:=fun z hz=>bU h4.sg z (aB hz)
  have s12:=hk2.size
  have n3:b3∉bf q4.vs:=fun hm=>by
   rw[f5] at hm
   have h1:=bU h1.sg b3 (aB hm)
   omega
  have nw:bw∉bf q4.vs:=fun hm=>bN h4.sg (by decide) h4.blk bw (aB hm) (List.mem_singleton.2 rfl)
  have hsl2:q4.ss.length≤10:=by
   rw[f2]
   have:=congrArg List.length hK.ss
   rw[List.length_map] at this
   rw[this,List.length_take]
   exact Nat.le_trans (Nat.min_le_left _ _) (by omega)
  have hn4:=h4.ch.w0
  repeat apply gst
  refine CG.dJ mixed 8 [0,1,2,3,4,5,6,7] [6,7] (bf q4.vs) (fun W=>W.ownsRow n 52 13 q4.vs q4.ss.length (flt txc q4.ss)) (by kernel_rfl) h4.sg (fun _ _ hk h=>aK h hk) ?_
  repeat (apply gdv;exact rfl;exact rfl;(first|apply qnc|apply qmv|apply qlc|apply qla|apply qfa)<;>first|exact rfl|assumption|apply aj)
  refine Der.iW (cs:=(txc y2).toArray) (E:=52) rfl rfl rfl rfl rfl (fun W=>A2 y2 W) hSl (fun W W' hk h=>trivial) (fun _ _ hk h=>aK h hk) (fun bn=>?_)
  apply Der.iJ (P:=Tryz.prog) (t:=41) (base:=n) (e:=52) (i:=Tryz.t52) (f:=ty.i52) (v:=q4.vs) (nn:=q4.ss.length) (xs:=flt txc q4.ss) (b:=bn) (off:=0) (m:=1) (c:=1) (news:=txc y2)
  iterate 4 exact rfl
  iterate 2 exact ag rfl
  iterate 3 exact rfl
  ·exact fun W hk hF=>Row.all hF.2.2 rfl
  ·rw[aj];rfl
  ·exact bF _
  ·simp only[maxLen];omega
  ·show(q4.ss.length+1)*80≤_;omega
  ·omega
  ·exact fun _ h=>h
  ·exact fun W W' hk hF=>⟨trivial,hF.2.1,hF.2.2.kp hk (fun hm=>by have:=hSl _ hm;have:=hF.2.1;omega)⟩
  intro v7
  refine Der.tl (fun w5 hk5 hF ho7=>?_)
  obtain⟨-,hv7⟩:=hF
  have ho7:w5.ownsRow n 52 13 v7 (q4.ss++[y2]).length (flt txc (q4.ss++[y2])):=by
   rw[bW,eS,List.length_append]
   exact ho7
  obtain⟨a7,c7,rfl⟩:=fL ho7
  have hbw5:=h4.blk.kp hk5 nw
  clear z2 r5
  repeat (apply gsv;exact rfl;(first|apply qnc|apply qfa)<;>exact rfl)
  refine SG.bI [.pointer (some ⟨q4.c.cb,0,none⟩),.pointer (some ⟨q4.c.vb,0,none⟩)] [q4.vs] [q4.vb] rfl rfl (by exact ag rfl) (by exact ag rfl) hbw5 rfl rfl rfl rfl rfl (fun w6 hk6 hB6=>?_)
  have h6:=h4.put hk5 ho7 hv7 hy4 hk6 hB6
  repeat (first|apply gst|(apply gsv;exact rfl;(first|apply qmv|apply qad)<;>first|exact rfl|(apply Ar.mk;omega)))
  refine NG.round (i+1,{q4 with vs:= .slice a7 (q4.ss++[y2]).length c7,ss:=q4.ss++[y2]}) (bg.of rfl) ⟨hlt,?_,h6,?_⟩ (by simp only;omega)
  ·have hz:∀z∈q.c.vb::q.pm::bf q.vN,z∈([]:List Nat)∨w.heap.size≤z:=fun x hx=>by
    rw[hn]
    rcases List.mem_cons.1 hx with rfl|hx
    ·exact Or.inr hNb.bp
    rcases List.mem_cons.1 hx with rfl|hx
    ·exact Or.inr hNb.pp
    exact Or.inr (bG hNb.own x (aB hx))
   refine(((((hk1.ai hk2 hz).trans hk3).ai hk4 (fun x hx=>Or.inr (by rw[hn];exact(hcnd x hx).1))).ai hk5 (fun x hx=>Or.inr (by rw[hn];exact bG h4.sg x (aB hx)))).ai hk6 (bh (by rw[hn];exact h4.bn)))
  ·refine⟨?_,?_,?_,?_,?_,?_,hK.yb,hK.mx,hK.mf,hK.mt,?_⟩
   ·show q4.c.tr=_
    rw[f1]
    show q2.c.tr=_
    rw[e1]
    exact hK.tr
   ·show q4.c.ns=_
    rw[f1]
    show q2.c.ns=_
    rw[e1]
    exact hK.ns
   ·show q4.c.ps.map Em.en=_
    rw[f1]
    exact eps
   ·show q4.nb=_
    exact f4
   ·show(q4.ss++[y2]).map (·.t)=_
    rw[f2,List.map_append,hK.ss]
    show _++[y2.t]=_
    rw[hy]
    match i,hlt with
    |0,_=>rfl
    |1,_=>rfl
   ·show q4.bs=_
    rw[f3]
    exact hK.bs
   ·show kr q4.c 0
    rw[f1]
    exact ok4
 ·have g1:¬(i:Int)<2:=by omega
  have e2:i=2:=by omega
  subst e2
  repeat (first|apply gst|(apply gsv;exact rfl;apply qls<;>first|exact rfl|(apply dcf;first|assumption|omega)))
  refine CG.ar rfl (by exact ag rfl) rfl ?_
  obtain⟨z0,-,-,-⟩:=cz h1.blk
  have hfst:aM y.b=bH:=yT hK.yb
  have hrt:aV y.b=0:=by rw[hK.yb];exact uo
  have hxh:m.x.ht=0:=by rw[hK.mx];rfl
  have htn:m.t.n=0:=by rw[hK.mt];rfl
  have hkm:=BT hK.mx hK.mf hK.ps
  have hwn:=h1.ch.w0
  repeat apply gst
  refine CG.free mixed 13 [0,1,2,3,4,5,6,7,8,9,10,11,12] [(7,gMb),(11,gV w1.heap.size 50 18),(12,gP w1.heap.size 50)] (by kernel_rfl) ?_ ?_
  ·intro p hp
   simp only[List.mem_cons,List.mem_nil_iff,or_false] at hp
   rcases hp with rfl|rfl|rfl
   ·exact xF
   ·exact lR
   ·exact lU
  repeat (apply gxv;exact rfl;exact rfl;(first|apply qnc|apply qmv|apply qlc|apply qfa)<;>first|exact rfl|assumption|exact List.not_mem_nil)
  refine bB.call rfl rfl rfl rfl (vs:=[.pointer (some ⟨bw,0,none⟩)]) (v:=dv bH) (Evs.of rfl) (fun W hk _=>by
   have:=oV (h1.kp0 hk) hK.bs hrt
   rw[hfst] at this
   exact this) ?_
  refine bB.val rfl rfl rfl rfl (ay rfl (fun W=>bd1 8 W)) ?_
  refine bB.uT (vs:=[.pointer (some ⟨q.c.cb,0,none⟩),dv bH,dv (d1 8),.slice none 0 0]) gMb rfl rfl rfl rfl (Evs.of rfl) (fun W hk hF=>(nC (h1.kp0 hk).ch (by decide) hK.ok.pool bH (d1 8) (q:=(z,m)) (by rw[hK.ns];exact if_pos rfl) ⟨by rw[hxh];decide,by rw[hxh];decide⟩ (by rw[htn];decide) (a0:=none) (c0:=0) (ls:=[]) Sl.nil (Nat.zero_le _)).mono (fun e W' hh=>?_)) (fun y3=>?_)
  ·obtain⟨y3,he,hb,hyI,-,hk'⟩:=hh
   exact⟨y3,he,⟨hb.trans hkm,hyI⟩,hk'⟩
  repeat (apply gxv;exact rfl;exact rfl;(first|apply qmv|apply qxt)<;>exact rfl)
  refine bB.qx rfl rfl rfl rfl rfl (Nat.le_refl _) (fun b5=>?_)
  refine bB.pQ (l:=bkc y3) rfl rfl rfl rfl (by kernel_rfl) (by exact ag rfl) (by exact ag rfl) (aD _) (Nat.le_refl _) (fun W hk hF=>⟨hF _ (.head _) (by kernel_rfl),dp _⟩) ?_ ?_
  ·intro p hp hne y w w' cs g0 g1 g2 g3 g4 g5
   simp only[List.mem_cons,List.not_mem_nil,or_false] at hp
   rcases hp with rfl|rfl|rfl
   ·exact⟨g5.1,g5.2.wr g3 (Nat.zero_le _) g1⟩
   ·exact lS (aD _) g3 g4 g5
   ·exact absurd rfl hne
  refine bB.tl (fun w2 hk2 hF=>?_)
  obtain⟨lb5,hB5⟩:w1.heap.size≤b5∧Blk w2 b5 (.cells (bkc y3).toArray 50):=hF _ (.head _)
  obtain⟨hyb,hyI⟩:Bm.b y3=kB∧Bm.In y3 0 w2:=hF _ (.tail _ (.tail _ (.head _)))
  clear hF z0
  have h2:=h1.kp0 hk2
  obtain⟨z0,-,-,-⟩:=cz h2.blk
  have r5:Row w2 b5 0 (bkc y3):=Row.all hB5 rfl
  repeat (first|apply gst|(apply gsv;exact rfl;apply qas<;>exact rfl))
  refine CG.tail mixed 8 [0,1,2,3,4,5,6,7] (by kernel_rfl) ?_
  repeat (apply gdv;exact rfl;exact rfl;(first|apply qnc|apply qmv|apply qlc|apply qla|apply qfa|apply qni)<;>first|exact rfl|assumption|(apply dct;first|assumption|omega)|exact List.not_mem_nil|apply aD)
  refine Der.tl (fun w3 hk3 _ _=>?_)
  have h3:=h2.kp0 hk3
  have l1:=h3.ch.tree.map.lt
  have l2:=h3.ch.map.lt
  have l3:=h3.nb.map.lt
  have hy3:Bm.In y3 n w3:=(Bm.In.up hyI (Nat.zero_le n)).kp0 hk3
  have haz:adZ q.nb q.c (Bm.b y3)=0:=by rw[hyb,hK.nb];exact D3 hK.ns hK.tr hK.mx hK.mf hK.mt
  clear z0 r5
  refine SG.call rfl rfl rfl (vs:=[.pointer (some ⟨q.c.cb,0,none⟩),bkv y3]) (Evs.of rfl) ((oe h3.ch hK.ok (by decide) (by decide) (fun z hz=>by
   simp only[List.mem_cons,List.mem_nil_iff,or_false] at hz
   rcases hz with rfl|rfl|rfl
   ·exact l1
   ·exact l2
   ·exact l3) h3.nb hy3).mono (fun e w4 hh=>?_))
  obtain⟨rfl,hh⟩:=hh
  refine⟨_,rfl,?_⟩
  obtain⟨-,hA⟩:=hh.elim (fun g=>absurd haz g.1) id
  obtain⟨pv',ps',z2,qn,hC4,hqb,hr,hps,hk4,-,hfr⟩:=hA
  have h4:=h3.chn hk4 h3.ch.A1 hC4 ⟨rfl,rfl,rfl,rfl⟩ (fun p hp=>(mn hp).elim (fun e=>Or.inr (by rw[e];exact hfr)) Or.inl)
  have ok4:=hK.ok.added haz (pv:=pv') hqb hr hps
  rw[haz]
  repeat (first|apply gst|(apply gsv;exact rfl;(first|apply qpk|apply qni)<;>first|exact rfl|(apply dct;first|assumption|omega)))
  refine CG.ar rfl (by exact ag rfl) rfl ?_
  rw[hyb] at hr hqb h4 ok4
  obtain⟨kqf,kqe⟩:=Kx hK hr
  rw[hK.ns,hK.tr,Fk] at h4 ok4
  obtain⟨c4,hc4⟩:∃c4,({q.c with pv:=pv',ps:=ps',tr:=(Tr.new bH 0).put (aM kB) bH,ns:=cE [(bH,z,m)] (aM kB) (z2,qn)}:Cm)=c4:=⟨_,rfl⟩
  have g1:c4.tr=(Tr.new bH 0).put (aM kB) bH:=by rw[←hc4]
  have g2:c4.ns=cE [(bH,z,m)] (aM kB) (z2,qn):=by rw[←hc4]
  have h4:je w4 n 10 bw {q with c:=c4}:=by rw[←hc4];exact h4
  have ok4:kr c4 (0+1):=by rw[←hc4];exact ok4
  obtain⟨q4,hq4⟩:∃q4,({q with c:=c4}:Wl)=q4:=⟨_,rfl⟩
  have f1:q4.c=c4:=by rw[←hq4]
  have f2:q4.ss=q.ss:=by rw[←hq4]
  rw[hq4] at h4
  obtain⟨xa,xb,hss,hxb⟩:=DV (l:=q4.ss) (by rw[f2];exact hK.ss)
  have hmm:az q4.c.ns q4.c.tr.tip=some (z2,qn):=by rw[f1,g1,g2,BM,bA,if_pos rfl]
  have hfind:ja q4.c.ns (aP xb.t) (q4.c.tr.line q4.c.tr.tip)=some (1,21):=by
   rw[f1,g1,um,hxb]
   exact BU g2 hK.mx hqb kqe
  have hln:∀d∈q4.c.tr.line q4.c.tr.tip,∃q,az q4.c.ns d=some q:=fun d hd=>by
   rw[f1,g1,um] at hd
   rw[f1,g2]
   simp only[List.mem_cons,List.mem_nil_iff,or_false] at hd
   rcases hd with rfl|rfl
   ·exact⟨(z,m),by rw[bA,if_neg uq];exact if_pos rfl⟩
   ·exact⟨(z2,qn),by rw[bA,if_pos rfl]⟩
  have hll:(q4.c.tr.line q4.c.tr.tip).length≤100000:=by
   rw[f1,g1,um]
   decide
  have wf4:q4.c.tr.WF:=by rw[f1];exact ok4.wf
  clear hr hqb hps hfr hc4 g1 g2 ok4 hB5
  obtain⟨as4,cs4,ev4,hcs4,hS4⟩:=Sl.own aj h4.sg rfl
  have l2s:1<q4.ss.length:=by rw[hss];exact Nat.lt_succ_self 1
  obtain⟨ba,off,rfl,hrow⟩:=hS4.at l2s
  have e1:q4.ss[1]=xb:=by simp only[hss];rfl
  rw[e1] at hrow
  have hrow:Row w4 ba (off+(1:Int).toNat*13) (txc xb):=hrow
  have hl2:q4.ss.length=2:=by rw[hss];rfl
  obtain⟨z0,-,z2',-⟩:=cz h4.blk
  rw[ev4,hl2] at z2'
  have hxI:xb.In n w4:=h4.si xb (by rw[hss];simp)
  repeat apply gst
  refine CG.hZ mixed [0,1,2,3,4,5,6,7,8,9,10,11,12,13,14,17] [(15,16,7,.tmp 89)] (by kernel_rfl) (by kernel_rfl) ?_
  repeat (apply gdv;exact rfl;exact rfl;(first|apply qnc|apply qmv|apply qlc|apply qla|apply qfa|apply qic)<;>first|exact rfl|(apply Ar.mk;omega)|assumption|exact List.not_mem_nil|apply aj)
  refine Der.call rfl rfl rfl (vs:=[txv xb]) (Evs.of rfl) (fun W hk _=>fi (hxI.kp0 hk)) ?_
  refine Der.call rfl rfl rfl (v:= .tuple #[.agg (dnc (1,21)).toArray,.bool true]) (vs:=[.pointer (some ⟨q4.c.cb,0,none⟩),dv (aP xb.t)]) (Evs.of rfl) (fun W hk _=>by
   have:=rV (h4.kp0 hk).ch wf4 hll hln (aP xb.t)
   rw[hfind] at this
   exact this) ?_
  repeat (apply gdv;exact rfl;exact rfl;(first|apply qmv|apply qas|apply qxt)<;>exact rfl)
  refine Der.one (iL.of (by rfl) rfl rfl rfl (by exact ag rfl) (by rfl) (by rfl) (by rfl)) (fun b7 w5 hk5 hb7 hB7=>?_)
  have h5:=h4.kp0 hk5
  clear z0 z2' hrow
  obtain⟨z0,-,-,-⟩:=cz h5.blk
  repeat (first|apply gst|(apply gsv;exact rfl;(first|apply qnc|apply qmv|apply qlc|apply qfa)<;>first|exact rfl|assumption|exact List.not_mem_nil))
  refine SG.call rfl rfl rfl (vs:=[.pointer (some ⟨q4.c.cb,0,none⟩)]) (Evs.of rfl) ((j0 h5.ch hmm).mono (fun e w6 hh=>?_))
  obtain⟨bt,bm,mk,rfl,hbk,hbi,-,-,hk6⟩:=hh
  refine⟨_,rfl,?_⟩
  clear z0
  have hB76:=hB7.kp0 hk6
  have r0:Row w6 b7 0 [.int .i64 1]:=Row.of hB76 [] [.int .i64 21] rfl rfl
  have r1:Row w6 b7 1 [.int .i64 21]:=Row.of hB76 [.int .i64 1] [] rfl rfl
  have hbf:bal mk=kf2:=hbi.eq.trans kqf
  have b1:∀{W:World},Kp [] w6 W→Ret Tryz.prog 19 #[.pointer (some ⟨bt,0,none⟩),dv (d1 1)] W (acv (qC (d1 1) (kf2 (d1 1)))):=fun hk=>by
   have:=ib (hbk.kp0 hk) (d1 1)
   rw[hbf] at this
   exact this
  have b8:∀{W:World},Kp [] w6 W→Ret Tryz.prog 19 #[.pointer (some ⟨bt,0,none⟩),dv (d1 8)] W (acv (qC (d1 8) (kf2 (d1 8)))):=fun hk=>by
   have:=ib (hbk.kp0 hk) (d1 8)
   rw[hbf] at this
   exact this
  repeat (first|apply gst|(apply gsv;exact rfl;(first|apply qnp|apply qmv|apply qas|apply qlc|apply qfa|apply qpk|apply qei)<;>first|exact rfl|assumption|(apply dct;first|assumption|omega)|exact List.not_mem_nil))
  refine SG.val rfl rfl rfl rfl (ay rfl (fun W=>bd1 1 W)) ?_
  refine SG.ret rfl rfl rfl (vs:=[.pointer (some ⟨bt,0,none⟩),dv (d1 1)]) (Evs.of rfl) (b1 (Kp.refl _ _)) (fun w7 hk7=>?_)
  refine SG.val rfl rfl rfl rfl (Fs rfl) ?_
  rw[KA]
  repeat (apply gsv;exact rfl;(first|apply qmv|apply qpk|apply qei)<;>first|exact rfl|(apply dct;first|assumption|omega))
  refine SG.val rfl rfl rfl rfl (ay rfl (fun W=>bd1 8 W)) ?_
  refine SG.ret rfl rfl rfl (vs:=[.pointer (some ⟨bt,0,none⟩),dv (d1 8)]) (Evs.of rfl) (b8 hk7) (fun w8 hk8=>?_)
  refine SG.val rfl rfl rfl rfl (Fs rfl) ?_
  rw[Kz]
  repeat (first|apply gst|(apply gsv;exact rfl;(first|apply qas|apply qpk|apply qei)<;>first|exact rfl|(apply dct;first|assumption|omega)))
  refine aU (Or.inl rfl) Tryz.results10 (aF.tmp rfl) ?_
  have hcn:Cnd n CT [q.c.tm,q.c.nm] w3 (chS q.c):=h3.ch.A1
  exact⟨rfl,(((((((hk1.trans hk2).trans hk3).ai hk4 (fun x hx=>Or.inr (by rw[hn];exact(hcn x hx).1))).trans hk5).trans hk6).trans hk7).trans hk8)⟩
end
section
theorem nQ(l:List Ac)(e:Ac):iB (l++[e])=iB l+e.money:=by simp[iB]
theorem AH(a:Ax):aX (axc a)=true:=by simp[axc,aX,my]
theorem AM{tot:Int}{n:Nat}{m:Bk}{f:Fb}(h:BkI tot n m f){l:List Ac}(hp:l.Perm (m.map acE)):∀x∈l,0≤x.money:=fun x hx=>by
 have hx:=hp.mem_iff.1 hx
 obtain⟨p,hp,rfl⟩:=List.mem_map.1 hx
 exact h.ok.mon p hp
theorem qB(l:List Nat):acU l 0=[]:=rfl
theorem AP{l:List Nat}(hm:∀x∈l,x<65536){i:Nat}(hi:i≤4):0≤iB (acU l i)∧iB (acU l i)≤300000:=by
 have key:∀i,0≤iB (acU l i)∧iB (acU l i)≤65536*(i:Int):=fun i=>by
  induction i with
  |zero=>rw[qB];exact⟨Int.le_refl _,Int.le_refl _⟩
  |succ i ih=>
   have:=U4.lt hm i
   rw[mu,nQ]
   simp only
   omega
 have:=key i
 omega
theorem Ax.In.up{a:Ax}{n n':Nat}{w:World}(h:a.In n w)(hn:n≤n'):a.In n' w:=⟨h.b,fun h0 b off e=>Nat.lt_of_lt_of_le (h.bn h0 b off e) hn,h.l,fun h0 b off e=>Nat.lt_of_lt_of_le (h.ln h0 b off e) hn,h.lb,h.ll,h.l2⟩
attribute [local irreducible] CG NG SG aQ Der Row Blk aC aJ bB acU
theorem xJ(w:World)(a:Option Addr)(c n:Nat):Ret Tryz.prog 11 #[.slice a n c] w (.bool (decide ((n:Int)≤40))):=by
 refine aS Tryz.func11 rfl Tryz.ntmps11 rfl ?_
 repeat (first|apply gst|(apply gsv;exact rfl;(first|apply qmv|apply qas|apply qln|apply qle)<;>first|exact rfl|exact dcu))
 refine aU (Or.inl rfl) Tryz.results11 (aF.tmp rfl) ?_
 exact⟨rfl,Kp.refl _ _⟩
theorem rz{w:World}(f l s:UInt8){m4:List Nat}(hm:∀x∈m4,x<65536){a:Option Addr}{c:Nat}{acts:List Ax}(hS:Sl axc 9 w a acts)(hI:∀x∈acts,x.In w.heap.size w)(hb:∀x∈acts,x.body.length≤10000000):
  Calls Tryz.prog 4 #[.agg #[bv f,bv l,bv s],u4v m4,.slice a acts.length c] w (fun e w'=>e= .returned (.bool true)∧Kp [] w w'):=by
 refine db Tryz.func4 rfl Tryz.ntmps4 rfl ?_
 obtain⟨hz,he0,he1⟩:=yY hm
 obtain⟨u1,u2,u3⟩:=C7 f l s
 repeat apply gst
 refine SG.box rfl rfl rfl (by exact ag rfl) (fun b3 w1 hk1 hb3 hB3=>?_)
 have hB3:Blk w1 b3 (.cells #[bv f,bv l,bv s] 22):=hB3
 refine SG.box rfl rfl rfl (by exact ag rfl) (fun b4 w2 hk2 hb4 hB4=>?_)
 have hB4:Blk w2 b4 (.cells (u4c m4).toArray 24):=hB4
 repeat (first|apply gst|(apply gsv;exact rfl;apply qas<;>exact rfl))
 refine SG.ret rfl rfl rfl (vs:=[]) (Evs.of rfl) (lg w2) (fun w3 hk3=>?_)
 have k3:=(hk1.trans hk2).trans hk3
 repeat (apply gsv;exact rfl;(first|apply qmv|apply qnt)<;>exact rfl)
 refine SG.ret rfl rfl rfl (vs:=[.slice a acts.length c]) (Evs.of rfl) (xJ w3 a c acts.length) (fun w4 hk4=>?_)
 have k4:=k3.trans hk4
 by_cases hfew:acts.length≤40
 rotate_left
 ·have hf':¬(acts.length:Int)≤40:=by omega
  rw[decide_eq_false hf']
  repeat (first|apply gst|(apply gsv;exact rfl;(first|apply qpk|apply qnt)<;>exact rfl))
  refine CG.au rfl (by exact ag rfl) rfl ?_
  repeat apply gst
  refine SG.ret rfl rfl rfl (vs:=[]) (Evs.of rfl) (lg w4) (fun w5 hk5=>?_)
  repeat (first|apply gst|(apply gsv;exact rfl;apply qas<;>exact rfl))
  refine aU (Or.inl rfl) Tryz.results4 (aF.tmp rfl) ?_
  exact⟨rfl,k4.trans hk5⟩
 have hf':(acts.length:Int)≤40:=by omega
 rw[decide_eq_true hf']
 repeat (first|apply gst|(apply gsv;exact rfl;(first|apply qpk|apply qnt)<;>exact rfl))
 refine CG.ar rfl (by exact ag rfl) rfl ?_
 have k14:=(hk2.trans hk3).trans hk4
 have k24:=hk3.trans hk4
 have q0:Row w4 b3 0 [bv f]:=Row.of (hB3.kp0 k14) [] [bv l,bv s] rfl rfl
 have q1:Row w4 b3 1 [bv l]:=Row.of (hB3.kp0 k14) [bv f] [bv s] rfl rfl
 have q2:Row w4 b3 2 [bv s]:=Row.of (hB3.kp0 k14) [bv f,bv l] [] rfl rfl
 have q4:Row w4 b4 0 (u4c m4):=Row.all (hB4.kp0 k24) rfl
 repeat apply gst
 refine CG.tail mixed 8 [0,1,2,3,4,5,6,7] (by kernel_rfl) ?_
 repeat (apply gdv;exact rfl;exact rfl;(first|apply yx|apply qlc)<;>first|exact rfl|(apply Ar.mk;omega)|assumption|exact List.not_mem_nil)
 refine Der.call rfl rfl rfl (vs:=[bv f,bv l,bv s]) (Evs.of rfl) (fun W _ _=>pq f l s W) ?_
 repeat (apply gdv;exact rfl;exact rfl;apply qla<;>first|exact rfl|assumption|exact List.not_mem_nil)
 refine Der.tl (fun w5 hk5 _ _=>?_)
 have k5:=k4.trans hk5
 clear q0 q1 q2 q4
 refine SG.call rfl rfl rfl (vs:=[bdv (bdU f l s),u4v m4]) (Evs.of rfl) ((jP w5 u1 (by omega) hm).mono (fun e w6 hh=>?_))
 obtain⟨hk6,bw,q,y,rfl,h6,hB⟩:=hh
 refine⟨_,rfl,?_⟩
 have ok6:=yV hB (by omega)
 clear hB
 obtain⟨n,hn⟩:∃n,w5.heap.size=n:=⟨_,rfl⟩
 rw[hn] at h6
 have q4:Row w6 b4 0 (u4c m4):=Row.all ((hB4.kp0 k24).kp0 (hk5.trans hk6)) rfl
 repeat (first|apply gst|(apply gsv;exact rfl;(first|apply qep|apply qmv|apply qas)<;>exact rfl))
 refine CG.ar rfl (by exact ag rfl) rfl ?_
 repeat (first|apply gst|(apply gsv;exact rfl;(first|apply qmv|apply qas|apply qla)<;>first|exact rfl|assumption|exact List.not_mem_nil))
 refine CG.loop (X:=Nat×Int) (fun p=>[(2,.slice a acts.length c),(6,.bool false),(7,.pointer (some ⟨bw,0,none⟩)),(8,.int .i64 p.2),(35,.agg (u4c m4).toArray),(36,.int .i64 (p.1:Int))])
  (fun p w'=>p.1≤4∧p.2=iB (acU m4 p.1)∧w'=w6) (fun p=>4-p.1) (0,0) ⟨Nat.zero_le _,by rw[show acU m4 0=[] from qB m4];rfl,rfl⟩ (bg.of rfl) ?_
 clear q4
 rintro⟨i,sm⟩ w6' ⟨hi,hsm,e6⟩
 simp only at hi hsm
 subst e6
 refine CG.to [(2,.slice a acts.length c),(6,.bool false),(7,.pointer (some ⟨bw,0,none⟩)),(8,.int .i64 sm),(35,.agg (u4c m4).toArray),(36,.int .i64 (i:Int))] (bg.of rfl) ?_
 by_cases hlt:i<4
 ·have g1:(i:Int)<4:=by omega
  have hat:=A9 m4 hlt
  have hx:=U4.lt hm i
  obtain⟨x,ex⟩:∃x,m4.getD i 0=x:=⟨_,rfl⟩
  rw[ex] at hat hx
  have hxr:0≤(x:Int)∧(x:Int)<65536:=by omega
  have hsb:0≤sm∧sm≤300000:=by
   rw[hsm]
   exact AP hm (Nat.le_of_lt hlt)
  repeat (first|apply gst|(apply gsv;exact rfl;apply qls<;>first|exact rfl|(apply dct;first|assumption|omega)))
  refine CG.au rfl (by exact ag rfl) rfl ?_
  repeat (first|apply gst|(apply gsv;exact rfl;(first|apply qid|apply q16|apply qmv|apply qas|apply qad)<;>first|exact rfl|(apply Ar.mk;omega)|assumption))
  refine NG.round (i+1,sm+(x:Int)) (bg.of rfl) ⟨hlt,by simp only;rw[mu,nQ,←hsm,ex],rfl⟩ (by simp only;omega)
 have g1:¬(i:Int)<4:=by omega
 have e4:i=4:=by omega
 subst e4
 repeat (first|apply gst|(apply gsv;exact rfl;apply qls<;>first|exact rfl|(apply dcf;first|assumption|omega)))
 refine CG.ar rfl (by exact ag rfl) rfl ?_
 have hsb:0≤sm∧sm≤300000:=by rw[hsm];exact⟨he0,he1⟩
 rw[←hsm] at h6
 clear he0 he1 hsm
 obtain⟨N,hNl⟩:∃N,acts.length=N:=⟨_,rfl⟩
 repeat (first|apply gst|(apply gsv;exact rfl;(first|apply qmv|apply qln)<;>exact rfl))
 refine CG.loop (X:=Nat×Wl) (fun p=>[(6,.bool false),(7,.pointer (some ⟨bw,0,none⟩)),(8,.int .i64 sm),(44,.slice a acts.length c),(45,.int .i64 (acts.length:Int)),(46,.int .i64 (p.1:Int))])
  (fun p w'=>p.1≤acts.length∧je w' n sm bw p.2∧yj p.2 (p.1:Int)∧Kp [] w5 w') (fun p=>acts.length-p.1) (0,q) ⟨Nat.zero_le _,h6,ok6,hk6⟩ (bg.of rfl) ?_
 rintro⟨j,q1⟩ w7 ⟨hj,h7,ok7,k57⟩
 simp only at hj h7 ok7
 refine CG.to [(6,.bool false),(7,.pointer (some ⟨bw,0,none⟩)),(8,.int .i64 sm),(44,.slice a acts.length c),(45,.int .i64 (acts.length:Int)),(46,.int .i64 (j:Int))] (bg.of rfl) ?_
 by_cases hlt:j<acts.length
 ·have g1:(j:Int)<(acts.length:Int):=by omega
  have k7:=k5.trans k57
  obtain⟨ba,off,rfl,hrow⟩:=(hS.kp0 k7).at hlt
  have hxI:=(hI _ (List.getElem_mem hlt)).kp0 k7
  have hxb:=hb _ (List.getElem_mem hlt)
  generalize acts[j]=x at*
  repeat (first|apply gst|(apply gsv;exact rfl;apply qls<;>first|exact rfl|(apply dct;first|assumption|omega)))
  refine CG.au rfl (by exact ag rfl) rfl ?_
  repeat (first|apply gst|(apply gsv;exact rfl;(first|apply qla|apply qix)<;>first|exact rfl|(apply Ar.mk;omega)|assumption|exact List.not_mem_nil))
  refine SG.alloc rfl rfl rfl (fun b8 w8 hk8 hb8 hB8=>?_)
  refine SG.aI (l:=axc x) rfl rfl (by exact ag rfl) (by exact ag rfl) hB8 (sr _) rfl (AH _) (fun w9 hk9 hB9=>?_)
  have k79:=hk8.ai hk9 (bh hb8)
  have r9:Row w9 b8 0 (axc x):=Row.all hB9 rfl
  clear hrow
  have hn5:=k5.size
  have hxn:x.In n w9:=Ax.In.up (hxI.kp0 k79) (by omega)
  repeat (first|apply gst|(apply gsv;exact rfl;(first|apply qmv|apply qla)<;>first|exact rfl|assumption|exact List.not_mem_nil))
  refine SG.call rfl rfl rfl (vs:=[.pointer (some ⟨bw,0,none⟩),axv x]) (Evs.of rfl) ((xw (h7.kp0 k79) ok7 (by omega) (by omega) hxn hxb).mono (fun e w10 hh=>?_))
  obtain⟨q2,z,rfl,h10,ok10,-,-,ko⟩:=hh
  refine⟨_,rfl,?_⟩
  have k510:Kp [] w5 w10:=ko w5 hn (k57.trans k79)
  clear r9
  obtain⟨z0,-,-,-⟩:=cz h10.blk
  obtain⟨qn,hqn⟩:=ok10.ch.tip
  repeat (first|apply gst|(apply gsv;exact rfl;(first|apply qnc|apply qmv|apply qlc|apply qfa)<;>first|exact rfl|assumption|exact List.not_mem_nil))
  refine SG.call rfl rfl rfl (vs:=[.pointer (some ⟨q2.c.cb,0,none⟩)]) (Evs.of rfl) ((j0 h10.ch hqn).mono (fun e w11 hh=>?_))
  obtain⟨bt,bm,m,rfl,hbk,hbi,-,-,hk11⟩:=hh
  refine⟨_,rfl,?_⟩
  have htot:tot m=sm:=hbi.ok.tot
  have hgm:=hbi.Ab (by omega)
  have hml:m.length≤100000:=by
   obtain⟨g1,g2,-⟩:=ok10.ch.nd _ _ hqn
   have g3:=hbi.len
   unfold ndN at g3
   omega
  repeat (first|apply gst|(apply gsv;exact rfl;(first|apply qep|apply qmv|apply qas)<;>exact rfl))
  refine SG.ret rfl rfl rfl (vs:=[.pointer (some ⟨bt,0,none⟩)]) (Evs.of rfl) (po hbk hgm (by omega)) (fun w12 hk12=>?_)
  rw[htot]
  repeat (first|apply gst|(apply gsv;exact rfl;(first|apply qmv|apply qpk|apply qni)<;>first|exact rfl|(apply dct;first|assumption|omega)))
  refine CG.ar rfl (by exact ag rfl) rfl ?_
  repeat (first|apply gst|(apply gsv;exact rfl;apply qmv<;>exact rfl))
  refine SG.call rfl rfl rfl (vs:=[.pointer (some ⟨bt,0,none⟩)]) (Evs.of rfl) ((sj (hbk.kp0 hk12) hml).mono (fun e w13 hh=>?_))
  obtain⟨v,ls,rfl,ho,hp,-,hk13⟩:=hh
  refine⟨_,rfl,?_⟩
  have hpos:=AM hbi hp
  have hll:ls.length≤100000:=by rw[hp.length_eq,List.length_map];exact hml
  obtain⟨a13,c13,rfl,-,hS13⟩:=Sl.own aH ho rfl
  have k1013:=(hk11.trans hk12).trans hk13
  have h13:=h10.kp0 k1013
  have k513:=k510.trans k1013
  clear z0 ho hp
  repeat (first|apply gst|(apply gsv;exact rfl;(first|apply qmv|apply qln)<;>exact rfl))
  refine CG.loop (X:=Nat) (fun i=>[(6,.bool false),(7,.pointer (some ⟨bw,0,none⟩)),(8,.int .i64 sm),(44,.slice (some ⟨ba,off,none⟩) acts.length c),(45,.int .i64 (acts.length:Int)),(46,.int .i64 (j:Int)),(67,.slice a13 ls.length c13),(68,.int .i64 (ls.length:Int)),(69,.int .i64 (i:Int))])
   (fun i w'=>i≤ls.length∧Kp [] w13 w') (fun i=>ls.length-i) 0 ⟨Nat.zero_le _,Kp.refl _ _⟩ (bg.of rfl) ?_
  rintro i w14 ⟨hi,k14⟩
  refine CG.to [(6,.bool false),(7,.pointer (some ⟨bw,0,none⟩)),(8,.int .i64 sm),(44,.slice (some ⟨ba,off,none⟩) acts.length c),(45,.int .i64 (acts.length:Int)),(46,.int .i64 (j:Int)),(67,.slice a13 ls.length c13),(68,.int .i64 (ls.length:Int)),(69,.int .i64 (i:Int))] (bg.of rfl) ?_
  by_cases hlt2:i<ls.length
  ·have g2:(i:Int)<(ls.length:Int):=by omega
   obtain⟨bc,ofc,rfl,hrow⟩:=(hS13.kp0 k14).at hlt2
   have hp0:=hpos _ (List.getElem_mem hlt2)
   generalize ls[i]=e at*
   repeat (first|apply gst|(apply gsv;exact rfl;apply qls<;>first|exact rfl|(apply dct;first|assumption|omega)))
   refine CG.au rfl (by exact ag rfl) rfl ?_
   repeat (first|apply gst|(apply gsv;exact rfl;(first|apply qla|apply qix)<;>first|exact rfl|(apply Ar.mk;omega)|assumption|exact List.not_mem_nil|apply aH))
   refine SG.alloc rfl rfl rfl (fun b15 w15 hk15 hb15 hB15=>?_)
   refine SG.aI (l:=acl e) rfl rfl (by exact ag rfl) (by exact ag rfl) hB15 (aH _) rfl (fx _) (fun w16 hk16 hB16=>?_)
   have k16:=hk15.ai hk16 (bh hb15)
   obtain⟨-,r8,-⟩:=iK hB16
   clear hrow
   repeat (first|apply gst|(apply gsv;exact rfl;(first|apply qlc|apply qfa|apply qls)<;>first|exact rfl|assumption|(apply dcf;first|assumption|omega)|exact List.not_mem_nil))
   refine CG.ar rfl (by exact ag rfl) rfl ?_
   repeat (first|apply gst|(apply gsv;exact rfl;(first|apply qmv|apply qad)<;>first|exact rfl|(apply Ar.mk;omega)))
   refine NG.round (i+1) (bg.of rfl) ⟨hlt2,k14.trans k16⟩ (by omega)
  ·have g2:¬(i:Int)<(ls.length:Int):=by omega
   repeat (first|apply gst|(apply gsv;exact rfl;apply qls<;>first|exact rfl|(apply dcf;first|assumption|omega)))
   refine CG.ar rfl (by exact ag rfl) rfl ?_
   repeat (first|apply gst|(apply gsv;exact rfl;(first|apply qmv|apply qad)<;>first|exact rfl|(apply Ar.mk;omega)))
   have ej:((j+1:Nat):Int)=(j:Int)+1:=by omega
   refine NG.round (j+1,q2) (bg.of rfl) ⟨hlt,h13.kp0 k14,?_,k513.trans k14⟩ (by simp only;omega)
   simp only
   rw[ej]
   exact ok10
 ·have g1:¬(j:Int)<(acts.length:Int):=by omega
  repeat (first|apply gst|(apply gsv;exact rfl;apply qls<;>first|exact rfl|(apply dcf;first|assumption|omega)))
  refine CG.ar rfl (by exact ag rfl) rfl ?_
  repeat (first|apply gst|(apply gsv;exact rfl;apply qas<;>exact rfl))
  refine aU (Or.inl rfl) Tryz.results4 (aF.tmp rfl) ?_
  exact⟨rfl,k5.trans k57⟩
end
section
open Go.ChangeShapes Go.WideShapes Go.ChangeAt Go.RowKit
theorem xy(os:Os):laidMet Tryz.prog Rows.chainMoneyUptoRow.laid ((jQ os).forCall (fun _ _=>0) ⟨#[],#[Dx,Dw,.slice none 0 0],[]⟩).memory:=
 laidMet_of_run' 8 (by kernel_rfl) (by kernel_rfl)
theorem reads(os:Os){H:Type}(enc:TypeId×Value→H):∃places,DataW.whole enc Tryz.prog ((jQ os).forCall (fun _ _=>0) ⟨#[],#[Dx,Dw,.slice none 0 0],[]⟩).memory Tryz.f4.params.toList Rows.chainMoneySpec.vars false #[Dx,Dw,.slice none 0 0].toList 8=some ([.agg [.lit (.int .u8 0),.lit (.int .u8 0),.lit (.int .u8 0)],.agg [.lit (.int .u16 0),.lit (.int .u16 0),.lit (.int .u16 0),.lit (.int .u16 0)],.nil],[],places):=
 ⟨[],by kernel_rfl⟩
set_option maxRecDepth 100000 in
theorem iD(os:Os)(started:os.Started)(H:Type)(enc:TypeId×Value→H)(F:Stop.Interp):
  ReturnsInHanded {} Tryz.checked os 4 .any ((Rows.OpenSpec.upto Rows.chainMoneySpec).preRow enc Tryz.prog Tryz.f4 Rows.chainMoneyUptoRow.domain false Rows.chainMoneyUptoRow.laid) (((Rows.OpenSpec.upto Rows.chainMoneySpec).at F).post enc Tryz.prog Tryz.f4 false true false false):=by
 obtain⟨places,hx⟩:=reads os enc
 refine returnsInHanded_of_row (C:=Tryz.checked) (s:=Rows.OpenSpec.upto Rows.chainMoneySpec) own started (by kernel_rfl) Tryz.func4
  (witness_row_at (enc:=enc) (C:=Tryz.checked) false (jQ os) #[Dx,Dw,.slice none 0 0] rfl (by kernel_rfl) (by kernel_rfl) (by kernel_rfl)
   (OpenSpec.preRow_of_cond 8 hx (by kernel_rfl) (fun k hk=>by cases hk;kernel_rfl) (by kernel_rfl) (xy os))) ?_
 intro W base args ds gs before hval0 hW0 _ hcond _ _ _ _
 have hval:∀(j:Nat) t v,Tryz.f4.params[j]?=some t→args[j]?=some v→Value.okWide Tryz.prog W .any base t v:=hval0
 have hW':DataW.Whole enc Tryz.prog Tryz.f4.params.toList Rows.chainMoneySpec.vars false W args.toList ds gs before:=hW0
 have hW:=hW'
 obtain⟨p,q,hA0,hV,rfl,hfz,hnd⟩:=hW
 have hA:DataW.TrodAll enc Tryz.prog W 0 (fun _=>true) true Tryz.f4.params.toList args.toList ds p:=hA0
 rw[Tryz.params4] at hA hval
 obtain⟨v0,v1,v2,d0,d1,d2,p0,p1,p2,rfl,rfl,rfl,h0,h1,h2⟩:=trodAll_three hA
 have hk:Rows.uptoBulkAll ([d0,d1,d2]++gs)≤1048576:=of_decide_eq_true (hcond _ rfl)
 have hb:Rows.uptoBulk d2≤1048576:=Nat.le_trans (tL (List.mem_append_left _ (by simp))) hk
 obtain⟨f,l,s,rfl⟩:=EY (hval 0 22 v0 rfl rfl) h0
 obtain⟨m4,rfl,hm⟩:=DD (hval 1 24 v1 rfl rfl) h1
 obtain⟨a,c,acts,rfl,hS,hI,hbd⟩:=AO (hval 2 25 v2 rfl rfl) h2 hb
 refine(rz f l s hm hS hI hbd).mono fun e W' ⟨he,hk⟩=>⟨_,he,?_⟩
 exact xx laidOut (by rw[Tryz.params4];exact of_decide_eq_true (by kernel_rfl)) rfl hW' rfl (by kernel_rfl) Tryz.underlying4 hk
theorem j3:Rows.ChainMoneyUptoSaid:=
 OpenClaim.holds_of_cond 4 Tryz.f4 rfl rfl rfl rfl rfl rfl rfl ⟨rfl,rfl,rfl,rfl,rfl⟩ rfl rfl rfl rfl rfl (by kernel_rfl) Tryz.func4 (by kernel_rfl)
  (of_decide_eq_true (by kernel_rfl)) (by unfold Func.isWrapper;first|(rw[if_pos (by decide+kernel)];kernel_rfl)|(rw[if_neg (by decide+kernel)];exact⟨rfl,rfl⟩))
  (fun os started H enc _ F=>by rw[OpenClaim.pre_eq_preRow];exact iD os started H enc F)
theorem jc(f:FuncId)(fn:Func)(hf:Tryz.pinned.checked.prog.funcNamed "baize/baizelaw30.ChainMoney"=some f)(hfn:Tryz.pinned.checked.prog.funcs[f]?=some fn):
  true=Tryz.pinned.checked.prog.looks []∧∀(j:Nat) t,fn.params[j]?=some t→Tryz.pinned.checked.prog.wantsStandIn t=false:=by
 obtain rfl:f=4:=Option.some.inj ((show Tryz.prog.funcNamed "baize/baizelaw30.ChainMoney"=some 4 by kernel_rfl).symm.trans hf)|>.symm
 obtain rfl:fn=Tryz.f4:=(Option.some.inj (Tryz.func4.symm.trans hfn)).symm
 refine⟨by kernel_rfl,fun j t ht=>?_⟩
 rw[Tryz.params4] at ht
 have ht:=Array.mem_of_getElem? ht
 simp only[List.mem_toArray,List.mem_cons,List.mem_nil_iff,or_false] at ht
 rcases ht with rfl|rfl|rfl
 ·exact(show Tryz.prog.wantsStandIn 22=false by kernel_rfl)
 ·exact(show Tryz.prog.wantsStandIn 24=false by kernel_rfl)
 ·exact(show Tryz.prog.wantsStandIn 25=false by kernel_rfl)
theorem chainMoney_holds:Rows.ChainMoneyUptoCardSaid:=
 Claim7.holds_tied_plain_at .later [] _ _ _ _ j3 (fun _ h=>by cases h) (by kernel_rfl) (fun _ h=>by cases h) chainMoneyUpto_row_tie rfl ⟨rfl,rfl⟩ (by kernel_rfl) rfl jc (by kernel_rfl)
end
end Go.Proofs.YtpnjgjddabeapaaGreatDoor
