/-
  ChainFinal answers true for every input of a bulk of at most 1048576, and leaves its arguments as they were. The second form's card; no other conditions.
-/
import Derived.Test.YtpnjgjddabeapaaGreatDoorMf5
namespace Go.Proofs.YtpnjgjddabeapaaGreatDoor
set_option linter.all false
set_option maxHeartbeats 400000000
section
theorem La(w:World)(a b:Int)(p:Option Addr)(m cc:Nat):(Instr.build 52 #[(1,.int .i64 a),(2,.int .i64 b),(4,.slice p m cc)]).run Tryz.prog w= .ok (.agg (dc zd++[Value.int .i64 a,Value.int .i64 b,Value.int .i64 0,Value.slice p m cc,Value.slice none 0 0]).toArray) w:=by kernel_rfl
theorem LC(w:World):(Instr.build 31 #[]).run Tryz.prog w= .ok (bdv ⟨0,0,0⟩) w:=by kernel_rfl
theorem K9(w:World):(Instr.build 24 #[(0,.int .u16 10)]).run Tryz.prog w= .ok (u4v [10,0,0,0]) w:=by kernel_rfl
theorem Ea:bdz ⟨0,0,0⟩=0:=by kernel_rfl
theorem D6:lC (acU [10,0,0,0] 4)=10:=by kernel_rfl
structure KSt(i:Nat)(q:Wl)(y:Bm)(z:Nat)(m:Nm):Prop where
 tr:q.c.tr=Tr.new bH 0
 ns:q.c.ns=[(bH,z,m)]
 ps:q.c.ps.map Em.en=kP i
 nb:q.nb=kN i
 ss:q.ss.map (·.t)=[kS 0,kS 1].take i
 bs:q.bs=[y]
 yb:y.b=(bJ cG).b
 mx:m.x=bJ cG
 mf:m.f=kf0
 mt:m.t=kt0
 ok:jv q.c 0
theorem KSt.tip{i:Nat}{q:Wl}{y:Bm}{z:Nat}{m:Nm}(h:KSt i q y z m):ay q.c.ns q.c.tr.tip=some (z,m):=by
 rw[h.ns,h.tr]
 exact if_pos rfl
theorem xd:eB 256 []:=Ad (by decide)
theorem B6:∀i,(kN i).length≤10
 |0=>by decide
 |1=>show 1≤10 by decide
 |_+2=>show 2≤10 by decide
theorem yZ{y:Bm}(h:y.b=(bJ cG).b):aI y.b=bH:=by rw[h];rfl
theorem zb{b:Bd}{l:List Nat}{q:Wl}{y:Bm}(h:DG b l q y)(hf:b.fork≤1000):yr q 0:=by
 obtain⟨z,m,hns,hmx,hmf,hmt,hme⟩:=h.ns
 have hl:∀d,ay q.c.ns d=if bH=d then some (z,m) else none:=fun d=>by
  rw[hns]
  rfl
 refine⟨⟨by rw[h.tr];exact jR _ _,by rw[h.tr];show b.fork.toNat≤1000;omega,by rw[h.ps];exact xd,fun d=>?_,fun d x hx=>?_⟩,fun x hx=>?_,by rw[h.bs];exact Nat.zero_lt_succ _,by rw[h.nb];decide,by rw[h.ss];decide,by rw[h.bs,List.length_singleton];decide⟩
 ·rw[hl,h.tr]
  show(if bH=d then some kd0 else none).isSome=_
  by_cases e:bH=d
  ·rw[if_pos e,if_pos e];rfl
  ·rw[if_neg e,if_neg e];rfl
 ·rw[hl] at hx
  by_cases e:bH=d
  ·rw[if_pos e] at hx
   obtain rfl:=Option.some.inj hx
   show 0≤m.x.ht∧m.x.ht≤0∧(m.t.n:Int)≤64*m.x.ht
   rw[hmx,hmt]
   exact⟨Int.le_refl _,Int.le_refl _,Int.le_refl _⟩
  ·rw[if_neg e] at hx;cases hx
 ·rw[h.bs,List.mem_singleton] at hx
  subst hx
  refine⟨(z,m),?_,?_⟩
  ·rw[hl,yZ h.y,if_pos rfl]
  ·rw[h.y]
   show m.x.b=_
   rw[hmx]
theorem KB{q:Wl}{y:Bm}(h:DG ⟨0,0,0⟩ [10,0,0,0] q y):∃z m,KSt 0 q y z m:=by
 obtain⟨z,m,hns,hmx,hmf,hmt,hme⟩:=h.ns
 exact⟨z,m,h.tr,hns,by rw[h.ps];rfl,h.nb,by rw[h.ss];rfl,h.bs,h.y,hmx,hmf,hmt,(zb h (by decide)).ch⟩
def gMb:GD:=⟨Bm,bm0,fun x=> .tuple #[bkv x,.int .i64 0],fun x w=>x.b=kB∧x.In 0 w⟩
theorem xL(x:gMb.X):cu [] (gMb.phi x):=fun w w' hk h=>⟨h.1,h.2.kp0 hk⟩
theorem B0{m:Nm}(hx:m.x=bJ cG)(hf:m.f=kf0){l:List En}(hl:l=kP 2):(⟨bH,m.x.ht+1,d1 8,mkL (d1 8) m.f [] (tkL l [])⟩:Bl)=kB:=by
 rw[hl,KD,hf,KF,hx]
 rfl
theorem KE{q:Wl}{y:Bm}{z:Nat}{m qn:Nm}(h:KSt 2 q y z m)(hr:∃p,ay q.c.ns kB.par=some p∧gy q.nb kB.ht kB.mkr p.2.f p.2.t [] kB.txs=(0,qn.f,qn.t,qn.es)):qn.f=kf2∧qn.es=[0,21]:=by
 obtain⟨p,h1,h2⟩:=hr
 rw[h.ns] at h1
 have h1:some (z,m)=some p:=by rw[←h1];exact(if_pos rfl).symm
 obtain rfl:=Option.some.inj h1
 have h2:gy q.nb 1 (d1 8) m.f m.t [] [kS 0,kS 1]=(0,qn.f,qn.t,qn.es):=h2
 rw[h.nb,h.mf,h.mt,BU] at h2
 simp only[Prod.mk.injEq] at h2
 exact⟨h2.2.1.symm,h2.2.2.2.symm⟩
theorem D5{l:List Tm}(h:l.map (·.t)=[kS 0,kS 1]):∃a b,l=[a,b]∧b.t=kS 1:=by
 have hl:l.length=2:=by
  have:=congrArg List.length h
  rw[List.length_map] at this
  exact this
 match l,hl with
 |[a,b],_=>
  simp only[List.map_cons,List.map_nil,List.cons.injEq,and_true] at h
  exact⟨a,b,rfl,h.2⟩
theorem Fz{w:World}{L:Env}{d:Option Nat}{ty:TypeId}{pos:String}{af:Array Edge}{g:Option (Nat×Bool)}{S:List Nat}{F:World→Prop}{x:Operand}{k:Dg}{p:Pu}(hx:rho L x=acv (sE k p)):aP Tryz.prog S w F L ⟨d,.field 59 x 1,ty,pos,af,g⟩ (.int .i64 p.money):=
 dK (dc k) [.int .i64 p.nonce] hx rfl (by simp[acl,sE]) (by simp[ah])
attribute [local irreducible] CG NG SG aP Der Row Blk aD aH bB aI aV bH kf0 kf2 kL aN sgn ja oS wK adZ
theorem oZ{w:World}{n bw:Nat}{tot:Int}{q:Wl}(h:fT w n tot bw q){y:Bm}{l:List Bm}(hb:q.bs=y::l)(hr:aV y.b=0):Ret Tryz.prog 52 #[.pointer (some ⟨bw,0,none⟩)] w (dv (aI y.b)):=by
 refine aS Tryz.func52 rfl Tryz.ntmps52 rfl ?_
 repeat apply gst
 refine SG.alloc rfl rfl rfl (fun b2 w1 hk1 hb2 hB2=>?_)
 have h1:=h.kp0 hk1
 obtain⟨a,c,ev,hc,hS⟩:=Sl.own az h1.bl rfl
 have hl:0<q.bs.length:=by rw[hb];exact Nat.zero_lt_succ _
 obtain⟨ba,off,rfl,hrow⟩:=hS.at hl
 have e0:q.bs[0]=y:=by simp[hb]
 rw[e0] at hrow
 have hrow:Row w1 ba (off+(0:Int).toNat*18) (bkc y):=hrow
 obtain⟨-,-,-,z3⟩:=bY h1.blk
 rw[ev] at z3
 repeat (first|apply gst|(apply gsv;exact rfl;(first|apply qnc|apply qmv|apply qlc|apply qla|apply qfa|apply qic)<;>first|exact rfl|(apply Ar.mk;omega)|assumption|exact List.not_mem_nil|apply az))
 have hnm:=dI (h1.bi y (by rw[hb];exact List.mem_cons_self))
 rw[show orZ y.b (aI y.b)= .tuple #[dv (aI y.b),.int .i64 0] from if_pos hr] at hnm
 refine SG.ret rfl rfl rfl (vs:=[bkv y]) (Evs.of rfl) hnm (fun w2 hk2=>?_)
 clear z3 hrow
 repeat (apply gsv;exact rfl;(first|apply qmv|apply qxt)<;>exact rfl)
 refine SG.alloc rfl rfl rfl (fun b3 w3 hk3 hb3 hB3=>?_)
 refine SG.aG (l:=dc (aI y.b)) rfl rfl (by exact ag rfl) (by exact ag rfl) hB3 (ah _) rfl (aT _) (fun w4 hk4 hB3=>?_)
 have k24:=hk2.trans (hk3.ai hk4 (bh hb3))
 have r3:Row w4 b3 0 (dc (aI y.b)):=Row.all hB3 rfl
 repeat (first|apply gst|(apply gsv;exact rfl;(first|apply qas|apply qla)<;>first|exact rfl|assumption|exact List.not_mem_nil|apply ah))
 refine SG.aG (l:=dc (aI y.b)) rfl rfl (by exact ag rfl) (by exact ag rfl) (hB2.kp0 k24) (ah _) rfl (aT _) (fun w5 hk5 hB5=>?_)
 have hr:Row w5 b2 0 (dc (aI y.b)):=Row.all hB5 rfl
 clear r3
 repeat apply gst
 refine aR (Or.inl rfl) Tryz.results52 (aE.agg rfl rfl hr (ah _)) ?_
 exact⟨rfl,(hk1.trans k24).ai hk5 (bh hb2)⟩
theorem lu(w:World):Ret Tryz.prog 10 #[] w (.bool true):=by
 refine uM Tryz.func10 rfl Tryz.ntmps10 ?_
 repeat (first|apply gst|(apply gsv;exact rfl;apply qas<;>exact rfl))
 refine SG.val rfl rfl rfl rfl (aB rfl LC) ?_
 refine SG.val rfl rfl rfl rfl (aB rfl K9) ?_
 refine SG.call rfl rfl rfl (vs:=[bdv ⟨0,0,0⟩,u4v [10,0,0,0]]) (Evs.of rfl) ((jV w Ea (by decide) (l:=[10,0,0,0]) (by decide)).mono (fun e w1 hh=>?_))
 obtain⟨hk1,bw,q,y,rfl,h1,hB⟩:=hh
 refine⟨_,rfl,?_⟩
 rw[D6] at h1
 obtain⟨z,m,hK⟩:=KB hB
 repeat (first|apply gst|(apply gsv;exact rfl;(first|apply qep|apply qmv|apply qas)<;>exact rfl))
 refine CG.ar rfl (by exact ag rfl) rfl ?_
 obtain⟨n,hn⟩:∃n,w.heap.size=n:=⟨_,rfl⟩
 rw[hn] at h1
 clear hB
 repeat (first|apply gst|(apply gsv;exact rfl;apply qmv<;>exact rfl))
 refine CG.loop (X:=Nat×Wl) (fun p=>[(0,.bool false),(1,.pointer (some ⟨bw,0,none⟩)),(15,.int .i64 (p.1:Int))])
  (fun p w'=>p.1≤2∧Kp [] w w'∧fT w' n 10 bw p.2∧KSt p.1 p.2 y z m) (fun p=>2-p.1) (0,q) ⟨Nat.zero_le _,hk1,h1,hK⟩ (bf.of rfl) ?_
 clear hK h1 hk1
 rintro⟨i,q⟩ w1 ⟨hi,hk1,h1,hK⟩
 simp only at hi h1 hK
 refine CG.to [(0,.bool false),(1,.pointer (some ⟨bw,0,none⟩)),(15,.int .i64 (i:Int))] (bf.of rfl) ?_
 by_cases hlt:i<2
 ·have g1:(i:Int)<2:=by omega
  obtain⟨-,z1,-,-⟩:=bY h1.blk
  have hNb:=h1.nb
  have niw:=hNb.nin h1.blk (by decide) (by decide)
  have hS:∀x∈q.c.vb::q.pm::aU q.vN,x<w1.heap.size:=fun x hx=>by
   rcases List.mem_cons.1 hx with rfl|hx
   ·exact hNb.blk.lt
   rcases List.mem_cons.1 hx with rfl|hx
   ·exact hNb.map.lt
   exact bM hNb.own x (aC hx)
  repeat (first|apply gst|(apply gsv;exact rfl;apply qls<;>first|exact rfl|(apply dct;first|assumption|omega)))
  refine CG.au rfl (by exact ag rfl) rfl ?_
  repeat (first|apply gst|(apply gsv;exact rfl;(first|apply qmv|apply qas)<;>exact rfl))
  refine CG.Ak mixed (q.c.vb::q.pm::aU q.vN,10) 16 [0,1,4,5,6,7,8,9,2,3,10,11,12,13,14,15] [(2,gOP w1.heap.size 5 by1 1 (kL (d1 9) 7) (fun v=>v)),(10,gSg (sgn q.nb (kU (i:Int)) (d1 1)).2.1 (sgn q.nb (kU (i:Int)) (d1 1)).1 w1.heap.size n q.c.vb q.pm q.vN (sgn q.nb (kU (i:Int)) (d1 1)).2.2),(14,gV w1.heap.size 52 13),(15,gP w1.heap.size 52)] (by kernel_rfl) ?_ ?_
  ·intro p hp
   simp only[List.mem_cons,List.mem_nil_iff,or_false] at hp
   rcases hp with rfl|rfl|rfl|rfl
   ·exact xJ
   ·exact qo
   ·exact l4
   ·exact ma
  have hwn:n≤w1.heap.size:=h1.ch.w0
  have hnl:q.nb.length≤10:=by rw[hK.nb];exact B6 i
  repeat (apply gxv;exact rfl;exact rfl;apply qmv<;>exact rfl)
  refine bB.val rfl rfl rfl rfl (aB rfl (fun W=>bd1 9 W)) ?_
  repeat (apply gxv;exact rfl;exact rfl;(first|apply qnc|apply qmv|apply qlc|apply qfa)<;>first|exact rfl|assumption)
  refine bB.val rfl rfl rfl rfl (aB rfl (fun W=>bd1 1 W)) ?_
  skip
  refine bB.call rfl rfl rfl rfl (vs:=[.pointer (some ⟨q.c.vb,0,none⟩),dv (d1 1)]) (Evs.of rfl) (fun W _ _=>jF q.c.vb (d1 1) W) ?_
  refine bB.vf (vs:=[dv (d1 9),.int .i64 7]) (gOP w1.heap.size 5 by1 1 (kL (d1 9) 7) (fun v=>v)) rfl rfl rfl rfl (Evs.of rfl) (fun W hk hF=>(lg (d1 9) 7 W).mono (fun e W' hh=>?_)) (fun v=>?_)
  ·obtain⟨v,he,ho,hk'⟩:=hh
   obtain⟨a,c,rfl,-⟩:=Bs.own ho
   exact⟨(a,c),he,bV ho hk.size,hk'⟩
  refine bB.val rfl rfl rfl rfl (aB rfl (fun W=>La W _ _ v.1 _ v.2)) ?_
  refine bB.C1 (vs:=[txv ⟨kU (i:Int),v.1,v.2,none,0⟩,.iface 197 (wrv q.c.vb (d1 1))]) (gSg (sgn q.nb (kU (i:Int)) (d1 1)).2.1 (sgn q.nb (kU (i:Int)) (d1 1)).1 w1.heap.size n q.c.vb q.pm q.vN (sgn q.nb (kU (i:Int)) (d1 1)).2.2) rfl rfl rfl rfl rfl (Evs.of rfl) (fun W hk hF=>?_) ?_ (fun y2=>?_)
  ·have ho:W.ownsRow w1.heap.size 5 1 (.slice v.1 (kL (d1 9) 7).length v.2) (kL (d1 9) 7).length (flt by1 (kL (d1 9) 7)):=hF _ (.head _) (by kernel_rfl)
   obtain⟨a',c',e,hB⟩:=Bs.own ho
   simp only[Value.slice.injEq,true_and] at e
   obtain⟨e1,e2⟩:=e
   rw[←e1,←e2] at hB
   have hx:Tm.In ⟨kU (i:Int),v.1,v.2,none,0⟩ 0 W:=⟨hB,Bs.nil,Or.inl (Ty.own ho),Or.inl (fun h=>absurd rfl h),by show(kL (d1 9) 7).length≤_;rw[yI];decide,by show 0≤_;exact Nat.zero_le _⟩
   refine(kX (hNb.kp0 hk) (Nat.le_trans hwn hk.size) (by omega) hx (d1 1)).mono (fun e W2 hh=>?_)
   obtain⟨y,v',he,h1,h2,h3,h4,h5,h6,h7⟩:=hh
   exact⟨(y,v'),he,⟨⟨⟨h1,h7⟩,fun g hg=>(h5 g hg).elim Or.inl (fun h=>Or.inr (Nat.le_trans hk.size h))⟩,h2,h3,bV h6 hk.size⟩,h4⟩
  ·intro j hj W1 W2 y hk hp
   refine nP (q:=fun D=>∀y,D.phi y W1→D.phi y W2) (fun _ _=>trivial) (fun p hp hne y hy=>?_) j hj y hp
   simp only[List.mem_cons,List.mem_nil_iff,or_false] at hp
   rcases hp with rfl|rfl|rfl|rfl
   ·exact cS hy hk (fun b hb hm=>by have h1:=bE hy b hb;have h2:=hS b hm;omega)
   ·exact absurd rfl hne
   ·exact Cb hS hk y hy
   ·exact Cc hS hk y hy
  repeat (apply gxv;exact rfl;exact rfl;(first|apply qmv|apply qxt)<;>exact rfl)
  refine bB.qB rfl rfl rfl rfl rfl (Nat.le_refl _) (fun b3=>?_)
  refine bB.pO (l:=txc y2.1) rfl rfl rfl rfl (by kernel_rfl) (by exact ag rfl) (by exact ag rfl) (aj _) (Nat.le_refl _) (fun W hk hF=>⟨hF _ (.head _) (by kernel_rfl),bD _⟩) ?_ ?_
  ·intro p hp hne y w w' cs g0 g1 g2 g3 g4 g5
   simp only[List.mem_cons,List.not_mem_nil,or_false] at hp
   rcases hp with rfl|rfl|rfl|rfl
   ·exact cS g5 g3 (bO g5 (by decide) g1)
   ·exact qp g1 g3 y g5
   ·exact l7 (aj _) g3 g4 g5
   ·exact absurd rfl hne
  refine bB.tl (fun w2 hk2 hF=>?_)
  obtain⟨lb3,hB3⟩:w1.heap.size≤b3∧Blk w2 b3 (.cells (txc y2.1).toArray 52):=hF _ (.head _)
  obtain⟨⟨⟨hy,-⟩,-⟩,hyI,hN2,-⟩:((y2.1.t=(sgn q.nb (kU (i:Int)) (d1 1)).2.1∧(y2.1.t.body≠[]→∀b off,y2.1.a1=some ⟨b,off,none⟩→b∉aU y2.1.s))∧∀g,y2.2.ownBlock=some g→q.vN.ownBlock=some g∨w1.heap.size≤g)∧y2.1.In 0 w2∧dW w2 n q.c.vb q.pm y2.2 (sgn q.nb (kU (i:Int)) (d1 1)).2.2∧w2.ownsRow w1.heap.size 5 1 y2.1.s y2.1.t.sig.length (flt by1 y2.1.t.sig):=hF _ (.tail _ (.tail _ (.head _)))
  obtain⟨y2,v2⟩:=y2
  simp only at hB3 hy hyI hN2
  clear hF z1
  rw[hK.nb,BT hlt] at hy hN2
  simp only at hy hN2
  rw[show(gSg (sgn q.nb (kU (i:Int)) (d1 1)).2.1 (sgn q.nb (kU (i:Int)) (d1 1)).1 w1.heap.size n q.c.vb q.pm q.vN (sgn q.nb (kU (i:Int)) (d1 1)).2.2).val (y2,v2)= .tuple #[txv y2,.int .i64 (sgn q.nb (kU (i:Int)) (d1 1)).1] from rfl]
  rw[hK.nb,BT hlt]
  have h2:=h1.sgn hk2 hN2
  obtain⟨q2,hq2⟩:∃q2,({q with vN:=v2,nb:=kN (i+1)}:Wl)=q2:=⟨_,rfl⟩
  have e1:q2.c=q.c:=by rw[←hq2]
  have e2:q2.ss=q.ss:=by rw[←hq2]
  have e3:q2.bs=q.bs:=by rw[←hq2]
  have e4:q2.nb=kN (i+1):=by rw[←hq2]
  have e5:q2.vs=q.vs:=by rw[←hq2]
  rw[hq2] at h2
  obtain⟨z0,-,-,-⟩:=bY h2.blk
  have r3:Row w2 b3 0 (txc y2):=Row.all hB3 rfl
  repeat (first|apply gst|(apply gsv;exact rfl;apply qas<;>exact rfl))
  refine CG.tail mixed 8 [0,1,2,3,4,5,6,7] (by kernel_rfl) ?_
  repeat (apply gdv;exact rfl;exact rfl;(first|apply qnc|apply qmv|apply qlc|apply qla|apply qfa|apply qni)<;>first|exact rfl|assumption|(apply dct;first|assumption|omega)|exact List.not_mem_nil|apply aj)
  refine Der.tl (fun w3 hk3 _ _=>?_)
  have h3:=h2.kp0 hk3
  have hq:ay q2.c.ns q2.c.tr.tip=some (z,m):=by rw[e1];exact hK.tip
  have hpool:eB 256 (q2.c.ps.map Em.en):=by rw[e1];exact hK.ok.pool
  have hps:q2.c.ps.map Em.en=kP i:=by rw[e1];exact hK.ps
  have hy3:y2.In n w3:=(hyI.mono (Nat.zero_le n)).kp0 hk3
  obtain⟨k1,k2⟩:=D7 hlt hK.mx hK.mf
  clear z0 r3
  refine SG.call rfl rfl rfl (vs:=[.pointer (some ⟨q2.c.cb,0,none⟩),txv y2]) (Evs.of rfl) ((jD h3.ch h3.nb hpool hy3 hq).mono (fun e w4 hh=>?_))
  obtain⟨rfl,pv',ps',hC4,eps,hk4,-⟩:=hh
  have okq2:jv q2.c 0:=by rw[e1];exact hK.ok
  have ok4:=okq2.sub (pv:=pv') eps
  rw[hps,e4,hy] at eps
  rw[hps,e4,hy]
  have eps:ps'.map Em.en=kP (i+1):=by rw[eps];exact k2
  have k1:oS (kN (i+1)) (z,m).2 (kP i) (kS i)=0:=k1
  rw[k1]
  refine⟨_,rfl,?_⟩
  have hcnd:Cnd n CT [q2.c.tm,q2.c.nm] w3 (q2.c.pb::aU q2.c.pv):=h3.ch.pool.cnd
  have h4:=h3.chn hk4 hcnd hC4 ⟨rfl,rfl,rfl,rfl⟩ (fun p hp=>Or.inl hp)
  have hy4:y2.In n w4:=hy3.cnd hk4 hcnd (by decide)
  have hB34:Blk w4 b3 (.cells (txc y2).toArray 52):=hcnd.blk hk4 (hB3.kp0 hk3) (by decide)
  obtain⟨q4,hq4⟩:∃q4,({q2 with c:={q2.c with pv:=pv',ps:=ps'}}:Wl)=q4:=⟨_,rfl⟩
  have f1:q4.c={q2.c with pv:=pv',ps:=ps'}:=by rw[←hq4]
  have f2:q4.ss=q.ss:=by rw[←hq4];exact e2
  have f3:q4.bs=q.bs:=by rw[←hq4];exact e3
  have f4:q4.nb=kN (i+1):=by rw[←hq4];exact e4
  have f5:q4.vs=q.vs:=by rw[←hq4];exact e5
  rw[hq4] at h4
  repeat (first|apply gst|(apply gsv;exact rfl;(first|apply qpk|apply qni)<;>first|exact rfl|(apply dct;first|assumption|omega)))
  refine CG.ar rfl (by exact ag rfl) rfl ?_
  obtain⟨-,-,z2,-⟩:=bY h4.blk
  have r5:Row w4 b3 0 (txc y2):=Row.all hB34 rfl
  have hSl:∀z∈aU q4.vs,z<w4.heap.size:=fun z hz=>bM h4.sg z (aC hz)
  have s12:=hk2.size
  have n3:b3∉aU q4.vs:=fun hm=>by
   rw[f5] at hm
   have h1:=bM h1.sg b3 (aC hm)
   omega
  have nw:bw∉aU q4.vs:=fun hm=>bO h4.sg (by decide) h4.blk bw (aC hm) (List.mem_singleton.2 rfl)
  have hsl2:q4.ss.length≤10:=by
   rw[f2]
   have:=congrArg List.length hK.ss
   rw[List.length_map] at this
   rw[this,List.length_take]
   exact Nat.le_trans (Nat.min_le_left _ _) (by omega)
  have hn4:=h4.ch.w0
  repeat apply gst
  refine CG.dF mixed 8 [0,1,2,3,4,5,6,7] [6,7] (aU q4.vs) (fun W=>W.ownsRow n 52 13 q4.vs q4.ss.length (flt txc q4.ss)) (by kernel_rfl) h4.sg (fun _ _ hk h=>aK h hk) ?_
  repeat (apply gdv;exact rfl;exact rfl;(first|apply qnc|apply qmv|apply qlc|apply qla|apply qfa)<;>first|exact rfl|assumption|apply aj)
  refine Der.iZ (cs:=(txc y2).toArray) (E:=52) rfl rfl rfl rfl rfl (fun W=>A9 y2 W) hSl (fun W W' hk h=>trivial) (fun _ _ hk h=>aK h hk) (fun bn=>?_)
  apply Der.iM (P:=Tryz.prog) (t:=41) (base:=n) (e:=52) (i:=Tryz.t52) (f:=ty.i52) (v:=q4.vs) (nn:=q4.ss.length) (xs:=flt txc q4.ss) (b:=bn) (off:=0) (m:=1) (c:=1) (news:=txc y2)
  iterate 4 exact rfl
  iterate 2 exact ag rfl
  iterate 3 exact rfl
  ·exact fun W hk hF=>Row.all hF.2.2 rfl
  ·rw[aj];rfl
  ·exact bD _
  ·simp only[maxLen];omega
  ·show(q4.ss.length+1)*80≤_;omega
  ·omega
  ·exact fun _ h=>h
  ·exact fun W W' hk hF=>⟨trivial,hF.2.1,hF.2.2.kp hk (fun hm=>by have:=hSl _ hm;have:=hF.2.1;omega)⟩
  intro v7
  refine Der.tl (fun w5 hk5 hF ho7=>?_)
  obtain⟨-,hv7⟩:=hF
  have ho7:w5.ownsRow n 52 13 v7 (q4.ss++[y2]).length (flt txc (q4.ss++[y2])):=by
   rw[bW,eY,List.length_append]
   exact ho7
  obtain⟨a7,c7,rfl⟩:=fP ho7
  have hbw5:=h4.blk.kp hk5 nw
  clear z2 r5
  repeat (apply gsv;exact rfl;(first|apply qnc|apply qfa)<;>exact rfl)
  refine SG.bI [.pointer (some ⟨q4.c.cb,0,none⟩),.pointer (some ⟨q4.c.vb,0,none⟩)] [q4.vs] [q4.vb] rfl rfl (by exact ag rfl) (by exact ag rfl) hbw5 rfl rfl rfl rfl rfl (fun w6 hk6 hB6=>?_)
  have h6:=h4.put hk5 ho7 hv7 hy4 hk6 hB6
  repeat (first|apply gst|(apply gsv;exact rfl;(first|apply qmv|apply qad)<;>first|exact rfl|(apply Ar.mk;omega)))
  refine NG.round (i+1,{q4 with vs:= .slice a7 (q4.ss++[y2]).length c7,ss:=q4.ss++[y2]}) (bf.of rfl) ⟨hlt,?_,h6,?_⟩ (by simp only;omega)
  ·have hz:∀z∈q.c.vb::q.pm::aU q.vN,z∈([]:List Nat)∨w.heap.size≤z:=fun x hx=>by
    rw[hn]
    rcases List.mem_cons.1 hx with rfl|hx
    ·exact Or.inr hNb.bp
    rcases List.mem_cons.1 hx with rfl|hx
    ·exact Or.inr hNb.pp
    exact Or.inr (bE hNb.own x (aC hx))
   refine(((((hk1.ai hk2 hz).trans hk3).ai hk4 (fun x hx=>Or.inr (by rw[hn];exact(hcnd x hx).1))).ai hk5 (fun x hx=>Or.inr (by rw[hn];exact bE h4.sg x (aC hx)))).ai hk6 (bh (by rw[hn];exact h4.bn)))
  ·refine⟨?_,?_,?_,?_,?_,?_,hK.yb,hK.mx,hK.mf,hK.mt,?_⟩
   ·show q4.c.tr=_
    rw[f1]
    show q2.c.tr=_
    rw[e1]
    exact hK.tr
   ·show q4.c.ns=_
    rw[f1]
    show q2.c.ns=_
    rw[e1]
    exact hK.ns
   ·show q4.c.ps.map Em.en=_
    rw[f1]
    exact eps
   ·show q4.nb=_
    exact f4
   ·show(q4.ss++[y2]).map (·.t)=_
    rw[f2,List.map_append,hK.ss]
    show _++[y2.t]=_
    rw[hy]
    match i,hlt with
    |0,_=>rfl
    |1,_=>rfl
   ·show q4.bs=_
    rw[f3]
    exact hK.bs
   ·show jv q4.c 0
    rw[f1]
    exact ok4
 ·have g1:¬(i:Int)<2:=by omega
  have e2:i=2:=by omega
  subst e2
  repeat (first|apply gst|(apply gsv;exact rfl;apply qls<;>first|exact rfl|(apply dcf;first|assumption|omega)))
  refine CG.ar rfl (by exact ag rfl) rfl ?_
  obtain⟨z0,-,-,-⟩:=bY h1.blk
  have hfst:aI y.b=bH:=yZ hK.yb
  have hrt:aV y.b=0:=by rw[hK.yb];exact uy
  have hxh:m.x.ht=0:=by rw[hK.mx];rfl
  have htn:m.t.n=0:=by rw[hK.mt];rfl
  have hkm:=B0 hK.mx hK.mf hK.ps
  have hwn:=h1.ch.w0
  repeat apply gst
  refine CG.free mixed 13 [0,1,2,3,4,5,6,7,8,9,10,11,12] [(7,gMb),(11,gV w1.heap.size 50 18),(12,gP w1.heap.size 50)] (by kernel_rfl) ?_ ?_
  ·intro p hp
   simp only[List.mem_cons,List.mem_nil_iff,or_false] at hp
   rcases hp with rfl|rfl|rfl
   ·exact xL
   ·exact l4
   ·exact ma
  repeat (apply gxv;exact rfl;exact rfl;(first|apply qnc|apply qmv|apply qlc|apply qfa)<;>first|exact rfl|assumption|exact List.not_mem_nil)
  refine bB.call rfl rfl rfl rfl (vs:=[.pointer (some ⟨bw,0,none⟩)]) (v:=dv bH) (Evs.of rfl) (fun W hk _=>by
   have:=oZ (h1.kp0 hk) hK.bs hrt
   rw[hfst] at this
   exact this) ?_
  refine bB.val rfl rfl rfl rfl (aB rfl (fun W=>bd1 8 W)) ?_
  refine bB.vf (vs:=[.pointer (some ⟨q.c.cb,0,none⟩),dv bH,dv (d1 8),.slice none 0 0]) gMb rfl rfl rfl rfl (Evs.of rfl) (fun W hk hF=>(nK (h1.kp0 hk).ch (by decide) hK.ok.pool bH (d1 8) (q:=(z,m)) (by rw[hK.ns];exact if_pos rfl) ⟨by rw[hxh];decide,by rw[hxh];decide⟩ (by rw[htn];decide) (a0:=none) (c0:=0) (ls:=[]) Sl.nil (Nat.zero_le _)).mono (fun e W' hh=>?_)) (fun y3=>?_)
  ·obtain⟨y3,he,hb,hyI,-,hk'⟩:=hh
   exact⟨y3,he,⟨hb.trans hkm,hyI⟩,hk'⟩
  repeat (apply gxv;exact rfl;exact rfl;(first|apply qmv|apply qxt)<;>exact rfl)
  refine bB.qB rfl rfl rfl rfl rfl (Nat.le_refl _) (fun b5=>?_)
  refine bB.pO (l:=bkc y3) rfl rfl rfl rfl (by kernel_rfl) (by exact ag rfl) (by exact ag rfl) (az _) (Nat.le_refl _) (fun W hk hF=>⟨hF _ (.head _) (by kernel_rfl),cz _⟩) ?_ ?_
  ·intro p hp hne y w w' cs g0 g1 g2 g3 g4 g5
   simp only[List.mem_cons,List.not_mem_nil,or_false] at hp
   rcases hp with rfl|rfl|rfl
   ·exact⟨g5.1,g5.2.wr g3 (Nat.zero_le _) g1⟩
   ·exact l7 (az _) g3 g4 g5
   ·exact absurd rfl hne
  refine bB.tl (fun w2 hk2 hF=>?_)
  obtain⟨lb5,hB5⟩:w1.heap.size≤b5∧Blk w2 b5 (.cells (bkc y3).toArray 50):=hF _ (.head _)
  obtain⟨hyb,hyI⟩:Bm.b y3=kB∧Bm.In y3 0 w2:=hF _ (.tail _ (.tail _ (.head _)))
  clear hF z0
  have h2:=h1.kp0 hk2
  obtain⟨z0,-,-,-⟩:=bY h2.blk
  have r5:Row w2 b5 0 (bkc y3):=Row.all hB5 rfl
  repeat (first|apply gst|(apply gsv;exact rfl;apply qas<;>exact rfl))
  refine CG.tail mixed 8 [0,1,2,3,4,5,6,7] (by kernel_rfl) ?_
  repeat (apply gdv;exact rfl;exact rfl;(first|apply qnc|apply qmv|apply qlc|apply qla|apply qfa|apply qni)<;>first|exact rfl|assumption|(apply dct;first|assumption|omega)|exact List.not_mem_nil|apply az)
  refine Der.tl (fun w3 hk3 _ _=>?_)
  have h3:=h2.kp0 hk3
  have l1:=h3.ch.tree.map.lt
  have l2:=h3.ch.map.lt
  have l3:=h3.nb.map.lt
  have hy3:Bm.In y3 n w3:=(Bm.In.up hyI (Nat.zero_le n)).kp0 hk3
  have haz:adZ q.nb q.c (Bm.b y3)=0:=by rw[hyb,hK.nb];exact Eb hK.ns hK.tr hK.mx hK.mf hK.mt
  clear z0 r5
  refine SG.call rfl rfl rfl (vs:=[.pointer (some ⟨q.c.cb,0,none⟩),bkv y3]) (Evs.of rfl) ((oq h3.ch hK.ok (by decide) (by decide) (fun z hz=>by
   simp only[List.mem_cons,List.mem_nil_iff,or_false] at hz
   rcases hz with rfl|rfl|rfl
   ·exact l1
   ·exact l2
   ·exact l3) h3.nb hy3).mono (fun e w4 hh=>?_))
  obtain⟨rfl,hh⟩:=hh
  refine⟨_,rfl,?_⟩
  obtain⟨-,hA⟩:=hh.elim (fun g=>absurd haz g.1) id
  obtain⟨pv',ps',z2,qn,hC4,hqb,hr,hps,hk4,-,hfr⟩:=hA
  have h4:=h3.chn hk4 h3.ch.Ay hC4 ⟨rfl,rfl,rfl,rfl⟩ (fun p hp=>(mB hp).elim (fun e=>Or.inr (by rw[e];exact hfr)) Or.inl)
  have ok4:=hK.ok.added haz (pv:=pv') hqb hr hps
  rw[haz]
  repeat (first|apply gst|(apply gsv;exact rfl;(first|apply qpk|apply qni)<;>first|exact rfl|(apply dct;first|assumption|omega)))
  refine CG.ar rfl (by exact ag rfl) rfl ?_
  rw[hyb] at hr hqb h4 ok4
  obtain⟨kqf,kqe⟩:=KE hK hr
  rw[hK.ns,hK.tr,Ft] at h4 ok4
  obtain⟨c4,hc4⟩:∃c4,({q.c with pv:=pv',ps:=ps',tr:=(Tr.new bH 0).put (aI kB) bH,ns:=cC [(bH,z,m)] (aI kB) (z2,qn)}:Cm)=c4:=⟨_,rfl⟩
  have g1:c4.tr=(Tr.new bH 0).put (aI kB) bH:=by rw[←hc4]
  have g2:c4.ns=cC [(bH,z,m)] (aI kB) (z2,qn):=by rw[←hc4]
  have h4:fT w4 n 10 bw {q with c:=c4}:=by rw[←hc4];exact h4
  have ok4:jv c4 (0+1):=by rw[←hc4];exact ok4
  obtain⟨q4,hq4⟩:∃q4,({q with c:=c4}:Wl)=q4:=⟨_,rfl⟩
  have f1:q4.c=c4:=by rw[←hq4]
  have f2:q4.ss=q.ss:=by rw[←hq4]
  rw[hq4] at h4
  obtain⟨xa,xb,hss,hxb⟩:=D5 (l:=q4.ss) (by rw[f2];exact hK.ss)
  have hmm:ay q4.c.ns q4.c.tr.tip=some (z2,qn):=by rw[f1,g1,g2,BS,bg,if_pos rfl]
  have hfind:je q4.c.ns (aN xb.t) (q4.c.tr.line q4.c.tr.tip)=some (1,21):=by
   rw[f1,g1,ux,hxb]
   exact B1 g2 hK.mx hqb kqe
  have hln:∀d∈q4.c.tr.line q4.c.tr.tip,∃q,ay q4.c.ns d=some q:=fun d hd=>by
   rw[f1,g1,ux] at hd
   rw[f1,g2]
   simp only[List.mem_cons,List.mem_nil_iff,or_false] at hd
   rcases hd with rfl|rfl
   ·exact⟨(z,m),by rw[bg,if_neg uz];exact if_pos rfl⟩
   ·exact⟨(z2,qn),by rw[bg,if_pos rfl]⟩
  have hll:(q4.c.tr.line q4.c.tr.tip).length≤100000:=by
   rw[f1,g1,ux]
   decide
  have wf4:q4.c.tr.WF:=by rw[f1];exact ok4.wf
  clear hr hqb hps hfr hc4 g1 g2 ok4 hB5
  obtain⟨as4,cs4,ev4,hcs4,hS4⟩:=Sl.own aj h4.sg rfl
  have l2s:1<q4.ss.length:=by rw[hss];exact Nat.lt_succ_self 1
  obtain⟨ba,off,rfl,hrow⟩:=hS4.at l2s
  have e1:q4.ss[1]=xb:=by simp only[hss];rfl
  rw[e1] at hrow
  have hrow:Row w4 ba (off+(1:Int).toNat*13) (txc xb):=hrow
  have hl2:q4.ss.length=2:=by rw[hss];rfl
  obtain⟨z0,-,z2',-⟩:=bY h4.blk
  rw[ev4,hl2] at z2'
  have hxI:xb.In n w4:=h4.si xb (by rw[hss];simp)
  repeat apply gst
  refine CG.ig mixed [0,1,2,3,4,5,6,7,8,9,10,11,12,13,14,17] [(15,16,7,.tmp 89)] (by kernel_rfl) (by kernel_rfl) ?_
  repeat (apply gdv;exact rfl;exact rfl;(first|apply qnc|apply qmv|apply qlc|apply qla|apply qfa|apply qic)<;>first|exact rfl|(apply Ar.mk;omega)|assumption|exact List.not_mem_nil|apply aj)
  refine Der.call rfl rfl rfl (vs:=[txv xb]) (Evs.of rfl) (fun W hk _=>fp (hxI.kp0 hk)) ?_
  refine Der.call rfl rfl rfl (v:= .tuple #[.agg (dnc (1,21)).toArray,.bool true]) (vs:=[.pointer (some ⟨q4.c.cb,0,none⟩),dv (aN xb.t)]) (Evs.of rfl) (fun W hk _=>by
   have:=rZ (h4.kp0 hk).ch wf4 hll hln (aN xb.t)
   rw[hfind] at this
   exact this) ?_
  repeat (apply gdv;exact rfl;exact rfl;(first|apply qmv|apply qas|apply qxt)<;>exact rfl)
  refine Der.one (iN.of (by rfl) rfl rfl rfl (by exact ag rfl) (by rfl) (by rfl) (by rfl)) (fun b7 w5 hk5 hb7 hB7=>?_)
  have h5:=h4.kp0 hk5
  clear z0 z2' hrow
  obtain⟨z0,-,-,-⟩:=bY h5.blk
  repeat (first|apply gst|(apply gsv;exact rfl;(first|apply qnc|apply qmv|apply qlc|apply qfa)<;>first|exact rfl|assumption|exact List.not_mem_nil))
  refine SG.call rfl rfl rfl (vs:=[.pointer (some ⟨q4.c.cb,0,none⟩)]) (Evs.of rfl) ((po h5.ch hmm).mono (fun e w6 hh=>?_))
  obtain⟨bt,bm,mk,rfl,hbk,hbi,-,-,hk6⟩:=hh
  refine⟨_,rfl,?_⟩
  clear z0
  have hB76:=hB7.kp0 hk6
  have r0:Row w6 b7 0 [.int .i64 1]:=Row.of hB76 [] [.int .i64 21] rfl rfl
  have r1:Row w6 b7 1 [.int .i64 21]:=Row.of hB76 [.int .i64 1] [] rfl rfl
  have hbf:bal mk=kf2:=hbi.eq.trans kqf
  have b1:∀{W:World},Kp [] w6 W→Ret Tryz.prog 19 #[.pointer (some ⟨bt,0,none⟩),dv (d1 1)] W (acv (sE (d1 1) (kf2 (d1 1)))):=fun hk=>by
   have:=jr (hbk.kp0 hk) (d1 1)
   rw[hbf] at this
   exact this
  have b8:∀{W:World},Kp [] w6 W→Ret Tryz.prog 19 #[.pointer (some ⟨bt,0,none⟩),dv (d1 8)] W (acv (sE (d1 8) (kf2 (d1 8)))):=fun hk=>by
   have:=jr (hbk.kp0 hk) (d1 8)
   rw[hbf] at this
   exact this
  repeat (first|apply gst|(apply gsv;exact rfl;(first|apply qnp|apply qmv|apply qas|apply qlc|apply qfa|apply qpk|apply qei)<;>first|exact rfl|assumption|(apply dct;first|assumption|omega)|exact List.not_mem_nil))
  refine SG.val rfl rfl rfl rfl (aB rfl (fun W=>bd1 1 W)) ?_
  refine SG.ret rfl rfl rfl (vs:=[.pointer (some ⟨bt,0,none⟩),dv (d1 1)]) (Evs.of rfl) (b1 (Kp.refl _ _)) (fun w7 hk7=>?_)
  refine SG.val rfl rfl rfl rfl (Fz rfl) ?_
  rw[KH]
  repeat (apply gsv;exact rfl;(first|apply qmv|apply qpk|apply qei)<;>first|exact rfl|(apply dct;first|assumption|omega))
  refine SG.val rfl rfl rfl rfl (aB rfl (fun W=>bd1 8 W)) ?_
  refine SG.ret rfl rfl rfl (vs:=[.pointer (some ⟨bt,0,none⟩),dv (d1 8)]) (Evs.of rfl) (b8 hk7) (fun w8 hk8=>?_)
  refine SG.val rfl rfl rfl rfl (Fz rfl) ?_
  rw[KG]
  repeat (first|apply gst|(apply gsv;exact rfl;(first|apply qas|apply qpk|apply qei)<;>first|exact rfl|(apply dct;first|assumption|omega)))
  refine aR (Or.inl rfl) Tryz.results10 (aE.tmp rfl) ?_
  have hcn:Cnd n CT [q.c.tm,q.c.nm] w3 (chS q.c):=h3.ch.Ay
  exact⟨rfl,(((((((hk1.trans hk2).trans hk3).ai hk4 (fun x hx=>Or.inr (by rw[hn];exact(hcn x hx).1))).trans hk5).trans hk6).trans hk7).trans hk8)⟩
end
section
structure Hi(c:Cm)(f0:Fb):Prop where
 ht:∀d q,ay c.ns d=some q→q.2.x.ht=(c.tr.ht d:Int)
 fst:∃q,ay c.ns c.tr.first=some q∧q.2.x.b=(bJ cG).b∧q.2.f=f0∧q.2.t=t00∧q.2.es=[]
 first:c.tr.first=bH
 up:∀d q,ay c.ns d=some q→d≠c.tr.first→aI q.2.x.b=d∧c.tr.par d=q.2.x.b.par∧aV q.2.x.b=0∧∃p,ay c.ns q.2.x.b.par=some p∧mv q.2.x.b p.2.x.b=0∧∃nb,gy nb q.2.x.b.ht q.2.x.b.mkr p.2.f p.2.t [] q.2.x.b.txs=(0,q.2.f,q.2.t,q.2.es)
theorem oo{t:Tr}(wf:t.WF):∀(k:Nat) {x:Dg},t.has x=true→k≤t.ht x→∀d∈t.cK k x,t.has d=true
 |0,x,hx,_,d,hd=>by
  rw[Tr.cK,List.mem_singleton] at hd
  rw[hd]
  exact hx
 |k+1,x,hx,hk,d,hd=>by
  have h1:=wf.anc 1 hx (by omega)
  rcases List.mem_cons.1 hd with rfl|hd
  ·exact hx
  ·exact oo wf k h1.1 (by have:=h1.2;show k≤t.ht (t.anc 1 x);omega) d hd
theorem qi{t:Tr}(wf:t.WF){x:Dg}(hx:t.has x=true){d:Dg}(hd:d∈t.line x):t.has d=true:=by
 unfold Tr.line at hd
 rw[if_pos hx,List.mem_reverse] at hd
 exact oo wf _ hx (Nat.le_refl _) d hd
theorem il{ns:List (Dg×Nat×Nm)}{d x:Dg}{v:Nat×Nm}(h:ay ns d=none){q:Nat×Nm}(hq:ay ns x=some q):ay (cC ns d v) x=some q:=by
 rw[bg,if_neg (fun e=>by rw[e,hq] at h;cases h),hq]
theorem AV{t:Tr}{x p:Dg}(h:t.addE x p=0):t.add x p=t.put x p:=if_pos h
theorem Hi.step{c c':Cm}{f0:Fb}{H:Int}(h:Hi c f0)(ok:jv c H)(s:zg c c'):Hi c' f0:=by
 obtain⟨-,⟨e1,e2⟩|⟨nb,b,z,qn,hz,e1,e2,hb,p,hp,hr⟩⟩:=s
 ·obtain⟨h1,h2,h3,h4⟩:=h
  exact⟨by rw[e1,e2];exact h1,by rw[e1,e2];exact h2,by rw[e1];exact h3,by rw[e1,e2];exact h4⟩
 obtain⟨g1,g2,q0,g3,g4,g5⟩:=qG hz
 rw[hp] at g3
 obtain rfl:=Option.some.inj g3
 obtain⟨a1,a2,a3,-⟩:=qD g5
 rw[AV g5] at e1
 have hne:∀{x:Dg} {q:Nat×Nm},ay c.ns x=some q→aI b≠x:=fun hq e=>by rw[←e,g2] at hq;cases hq
 have hht:=uY g4
 have epar:p.2.x.ht=(c.tr.ht b.par:Int):=h.ht _ _ hp
 have ehb:qn.x.ht=b.ht:=by rw[←hb];rfl
 have eph:p.2.x.b.ht=p.2.x.ht:=rfl
 obtain⟨qf,f1,f2⟩:=h.fst
 have hfirst:c'.tr.first=c.tr.first:=by rw[e1];rfl
 refine⟨fun d q hq=>?_,⟨qf,by rw[hfirst,e2];exact il g2 f1,f2⟩,by rw[hfirst];exact h.first,fun d q hq hd=>?_⟩
 ·rw[e2,bg] at hq
  rw[e1]
  by_cases e:aI b=d
  ·rw[if_pos e] at hq
   obtain rfl:=Option.some.inj hq
   rw[←e,df]
   show qn.x.ht=_
   omega
  ·rw[if_neg e] at hq
   rw[bF _ e]
   exact h.ht d q hq
 ·rw[hfirst] at hd
  rw[e2,bg] at hq
  by_cases e:aI b=d
  ·rw[if_pos e] at hq
   obtain rfl:=Option.some.inj hq
   show aI qn.x.b=d∧c'.tr.par d=qn.x.b.par∧aV qn.x.b=0∧∃p,ay c'.ns qn.x.b.par=some p∧mv qn.x.b p.2.x.b=0∧∃nb,gy nb qn.x.b.ht qn.x.b.mkr p.2.f p.2.t [] qn.x.b.txs=(0,qn.f,qn.t,qn.es)
   rw[hb]
   refine⟨e,?_,g1,p,by rw[e2];exact il g2 hp,g4,nb,hr⟩
   rw[e1,←e]
   exact dM _ _ _
  ·rw[if_neg e] at hq
   obtain⟨u1,u2,u3,p',u4,u5⟩:=h.up d q hq hd
   exact⟨u1,by rw[e1,dL _ e];exact u2,u3,p',by rw[e2];exact il g2 u4,u5⟩
theorem C9{b:Bd}{l:List Nat}{q:Wl}{y:Bm}(h:DG b l q y):Hi q.c (bal (kK [] (acU l 4))):=by
 obtain⟨z,m,hns,hmx,hmf,hmt,hme⟩:=h.ns
 have hl:∀d,ay q.c.ns d=if bH=d then some (z,m) else none:=fun d=>by
  rw[hns]
  rfl
 have hfst:q.c.tr.first=bH:=by rw[h.tr];rfl
 refine⟨fun d x hx=>?_,⟨(z,m),by rw[hfst,hl,if_pos rfl],by show m.x.b=_;rw[hmx],hmf,hmt,hme⟩,hfst,fun d x hx hd=>?_⟩
 ·rw[hl] at hx
  by_cases e:bH=d
  ·rw[if_pos e] at hx
   obtain rfl:=Option.some.inj hx
   have h0:q.c.tr.ht d=0:=by rw[←e,←hfst,h.tr];exact(jR bH _).h0
   rw[h0]
   show m.x.ht=0
   rw[hmx]
   rfl
  ·rw[if_neg e] at hx;cases hx
 ·rw[hl,if_neg (fun e=>hd (by rw[hfst,e]))] at hx
  cases hx
theorem xO{c c':Cm}{H:Int}(ok:jv c H)(s:zg c c'):c.tr.ht c.tr.tip≤c'.tr.ht c'.tr.tip∧c'.tr.depth=c.tr.depth∧∀k,k≤c.tr.ht c.tr.tip+1-c.tr.depth→((c'.tr.line c'.tr.tip).take k).map (qd c'.ns)=((c.tr.line c.tr.tip).take k).map (qd c.ns):=by
 obtain⟨-,⟨e1,e2⟩|⟨nb,b,z,qn,hz,e1,e2,hb,p,hp,hr⟩⟩:=s
 ·rw[e1,e2]
  exact⟨Nat.le_refl _,rfl,fun _ _=>rfl⟩
 obtain⟨g1,g2,q0,g3,g4,g5⟩:=qG hz
 obtain⟨a1,a2,-,-,a5,-,a7⟩:=ju ok.wf (aI b) b.par
 obtain⟨s1,s2⟩:=uG ok.wf (aI b) b.par
 have hup:c.tr.ht c.tr.tip≤(c.tr.add (aI b) b.par).ht (c.tr.add (aI b) b.par).tip:=by
  rcases a7 with h|⟨-,h⟩
  ·rw[h,a5];exact Nat.le_refl _
  ·omega
 refine⟨by rw[e1];exact hup,by rw[e1];exact a2,fun k hk=>?_⟩
 have hkf:k≤c.tr.nX:=by unfold Tr.nX;omega
 have el:(c'.tr.line c'.tr.tip).take k=(c.tr.line c.tr.tip).take k:=by
  have h1:c.tr.fin.take k=(c.tr.line c.tr.tip).take k:=by unfold Tr.fin;rw[List.take_take,Nat.min_eq_left hkf]
  have h2:(c.tr.add (aI b) b.par).fin.take k=((c.tr.add (aI b) b.par).line (c.tr.add (aI b) b.par).tip).take k:=by
   show(((c.tr.add (aI b) b.par).line (c.tr.add (aI b) b.par).tip).take (c.tr.add (aI b) b.par).nX).take k=_
   rw[List.take_take,Nat.min_eq_left (Nat.le_trans hkf s1)]
  rw[e1,←h1,←h2,←s2,List.take_take,Nat.min_eq_left hkf]
 rw[el]
 refine List.map_congr_left (fun d hd=>?_)
 obtain⟨q,hq⟩:∃q,ay c.ns d=some q:=ok.get (qi ok.wf (ok.wf.tip) (List.mem_of_mem_take hd))
 unfold qd
 rw[e2,il g2 hq,hq]
end
section
theorem AO(a:Ax):aZ (axc a)=true:=by simp[axc,aZ,mI]
theorem Ax.In.up{a:Ax}{n n':Nat}{w:World}(h:a.In n w)(hn:n≤n'):a.In n' w:=⟨h.b,fun h0 b off e=>Nat.lt_of_lt_of_le (h.bn h0 b off e) hn,h.l,fun h0 b off e=>Nat.lt_of_lt_of_le (h.ln h0 b off e) hn,h.lb,h.ll,h.l2⟩
attribute [local irreducible] CG NG SG aP Der Row Blk aD aH bB acU
theorem xQ(w:World)(a:Option Addr)(c n:Nat):Ret Tryz.prog 11 #[.slice a n c] w (.bool (decide ((n:Int)≤40))):=by
 refine aS Tryz.func11 rfl Tryz.ntmps11 rfl ?_
 repeat (first|apply gst|(apply gsv;exact rfl;(first|apply qmv|apply qas|apply qln|apply qle)<;>first|exact rfl|exact dcu))
 refine aR (Or.inl rfl) Tryz.results11 (aE.tmp rfl) ?_
 exact⟨rfl,Kp.refl _ _⟩
end
section
def WT:List TypeId:=[44,162,341,200,214,216,52,50]
theorem Cnd.sub{n:Nat}{Ts Us:List TypeId}{A B:List Nat}{w:World}{S:List Nat}(h:Cnd n Ts A w S)(hT:∀T∈Ts,T∈Us)(hA:∀x∈A,x∈B):Cnd 0 Us B w S:=fun b hb=>by
 obtain⟨-,h2⟩:=h b hb
 refine⟨Nat.zero_le _,h2.imp id (fun⟨o,h3,h4⟩=>⟨o,h3,?_⟩)⟩
 cases o with
 |cells a T f=>exact hT T h4
 |map a c=>exact hA b h4
 |_=>exact h4
theorem fT.KO{w:World}{n bw:Nat}{tot:Int}{q:Wl}(h:fT w n tot bw q):Cnd 0 WT [q.c.tm,q.c.nm,q.pm] w (wlS bw q):=by
 have h1:Cnd 0 WT [q.c.tm,q.c.nm,q.pm] w [bw]:=Cnd.cells (Nat.zero_le _) h.blk (by decide)
 have h2:Cnd 0 WT [q.c.tm,q.c.nm,q.pm] w (q.c.vb::q.pm::aU q.vN):=(Cnd.cells (Nat.zero_le _) h.nb.blk (by decide)).cons ((Cnd.map (Nat.zero_le _) h.nb.map (by simp)).cons (Cnd.own h.nb.own (Nat.zero_le _) (by decide)))
 have h3:Cnd 0 WT [q.c.tm,q.c.nm,q.pm] w (chS q.c):=h.ch.Ay.sub (by decide) (fun x hx=>by rcases List.mem_cons.1 hx with e|e<;>simp_all)
 have h4:Cnd 0 WT [q.c.tm,q.c.nm,q.pm] w (aU q.vs):=Cnd.own h.sg (Nat.zero_le _) (by decide)
 have h5:Cnd 0 WT [q.c.tm,q.c.nm,q.pm] w (aU q.vb):=Cnd.own h.bl (Nat.zero_le _) (by decide)
 have:=h1.app (h2.app (h3.app (h4.app h5)))
 unfold wlS
 exact this
theorem fT.lt{w:World}{n bw:Nat}{tot:Int}{q:Wl}(h:fT w n tot bw q):∀x∈wlS bw q,x<w.heap.size:=fun x hx=>by
 rw[dP] at hx
 rcases hx with h1|h1|h1|h1|h1|h1|h1|h1|h1|h1|h1
 ·rw[h1];exact h.blk.lt
 ·rw[h1];exact h.nb.blk.lt
 ·rw[h1];exact h.nb.map.lt
 ·exact bM h.nb.own x (aC h1)
 ·rw[h1];exact h.ch.tree.blk.lt
 ·rw[h1];exact h.ch.tree.map.lt
 ·rw[h1];exact h.ch.map.lt
 ·rw[h1];exact h.ch.pool.blk.lt
 ·exact bM h.ch.pool.own x (aC h1)
 ·exact bM h.sg x (aC h1)
 ·exact bM h.bl x (aC h1)
structure A2(w:World)(bw:Nat)(q:Wl)(a:Option Addr)(ys:List Bm):Prop where
 sl:Sl bkc 18 w a ys
 ins:∀y∈ys,y.In 0 w
 out:ys≠[]→∀b off,a=some ⟨b,off,none⟩→b∉wlS bw q
 out2:∀y∈ys,y.xs≠[]→∀b off,y.a=some ⟨b,off,none⟩→b∉wlS bw q
theorem A2.kp0{w w':World}{bw:Nat}{q:Wl}{a:Option Addr}{ys:List Bm}(h:A2 w bw q a ys)(hk:Kp [] w w'):A2 w' bw q a ys:=⟨h.sl.kp0 hk,fun y hy=>(h.ins y hy).kp0 hk,h.out,h.out2⟩
theorem A2.act{w w':World}{n bw:Nat}{tot:Int}{q q':Wl}{a:Option Addr}{ys:List Bm}(h:A2 w bw q a ys)(hq:fT w n tot bw q)(hk:WlK w w' bw q q'):A2 w' bw q' a ys:=by
 refine⟨?_,fun y hy=>(h.ins y hy).FB hk.kp hq.KO (by decide) (h.out2 y hy),fun hn b off e hm=>?_,fun y hy hn b off e hm=>?_⟩
 ·by_cases e:ys=[]
  ·rw[e];exact Sl.nil
  ·exact h.sl.kp hk.kp (h.out e)
 ·rcases hk.sub b hm with g|g
  ·exact h.out hn b off e g
  ·obtain⟨b',off',e',hr⟩:=h.sl.at (List.length_pos_iff.2 hn)
   rw[e] at e'
   cases e'
   have:=hr.lt
   omega
 ·rcases hk.sub b hm with g|g
  ·exact h.out2 y hy hn b off e g
  ·have:=(h.ins y hy).lt hn e
   omega
theorem Ao{d i h:Int}(hi:0≤i)(hh:0≤h):yN d i h=decide (i≤h-d):=by simp[yN,hi,hh]
theorem uH{d i h:Int}(h1:i<0∨h-d<i):yN d i h=false:=by
 unfold yN
 rcases h1 with h1|h1
 ·rw[decide_eq_false (by omega:¬0≤i)];rfl
 ·rw[decide_eq_false (by omega:¬i≤h-d)];simp
theorem yg(f l s:UInt8):0≤(bdU f l s).fork∧(bdU f l s).fork≤5∧((bdU f l s).fork.toNat:Int)=(f.toNat:Int)%6∧(bdU f l s).fork=(f.toNat:Int)%6:=by
 have e:(bdU f l s).fork=(f.toNat:Int)%6:=rfl
 rw[e]
 omega
attribute [local irreducible] CG NG SG aP Der Row Blk aD aH bB acU bdU wlS qd
theorem rN{w:World}(f l s:UInt8){m4:List Nat}(hm:∀x∈m4,x<65536){a:Option Addr}{c:Nat}{acts:List Ax}(hS:Sl axc 9 w a acts)(hI:∀x∈acts,x.In w.heap.size w)(hb:∀x∈acts,x.body.length≤10000000):
  Calls Tryz.prog 5 #[.agg #[bv f,bv l,bv s],u4v m4,.slice a acts.length c] w (fun e w'=>e= .returned (.bool true)∧Kp [] w w'):=by
 refine cW Tryz.func5 rfl Tryz.ntmps5 rfl ?_
 obtain⟨hz,he0,he1⟩:=zf hm
 obtain⟨u1,u2,u3⟩:=Dd f l s
 repeat apply gst
 refine SG.box rfl rfl rfl (by exact ag rfl) (fun b3 w1 hk1 hb3 hB3=>?_)
 have hB3:Blk w1 b3 (.cells #[bv f,bv l,bv s] 22):=hB3
 refine SG.box rfl rfl rfl (by exact ag rfl) (fun b4 w2 hk2 hb4 hB4=>?_)
 have hB4:Blk w2 b4 (.cells (u4c m4).toArray 24):=hB4
 repeat (first|apply gst|(apply gsv;exact rfl;apply qas<;>exact rfl))
 refine SG.ret rfl rfl rfl (vs:=[]) (Evs.of rfl) (lu w2) (fun w3 hk3=>?_)
 have k3:=(hk1.trans hk2).trans hk3
 repeat (apply gsv;exact rfl;(first|apply qmv|apply qnt)<;>exact rfl)
 refine SG.ret rfl rfl rfl (vs:=[.slice a acts.length c]) (Evs.of rfl) (xQ w3 a c acts.length) (fun w4 hk4=>?_)
 have k4:=k3.trans hk4
 by_cases hfew:acts.length≤40
 rotate_left
 ·have hf':¬(acts.length:Int)≤40:=by omega
  rw[decide_eq_false hf']
  repeat (first|apply gst|(apply gsv;exact rfl;(first|apply qpk|apply qnt)<;>exact rfl))
  refine CG.au rfl (by exact ag rfl) rfl ?_
  repeat apply gst
  refine SG.ret rfl rfl rfl (vs:=[]) (Evs.of rfl) (lu w4) (fun w5 hk5=>?_)
  repeat (first|apply gst|(apply gsv;exact rfl;apply qas<;>exact rfl))
  refine aR (Or.inl rfl) Tryz.results5 (aE.tmp rfl) ?_
  exact⟨rfl,k4.trans hk5⟩
 have hf':(acts.length:Int)≤40:=by omega
 rw[decide_eq_true hf']
 repeat (first|apply gst|(apply gsv;exact rfl;(first|apply qpk|apply qnt)<;>exact rfl))
 refine CG.ar rfl (by exact ag rfl) rfl ?_
 have k14:=(hk2.trans hk3).trans hk4
 have k24:=hk3.trans hk4
 have q0:Row w4 b3 0 [bv f]:=Row.of (hB3.kp0 k14) [] [bv l,bv s] rfl rfl
 have q1:Row w4 b3 1 [bv l]:=Row.of (hB3.kp0 k14) [bv f] [bv s] rfl rfl
 have q2:Row w4 b3 2 [bv s]:=Row.of (hB3.kp0 k14) [bv f,bv l] [] rfl rfl
 have q4:Row w4 b4 0 (u4c m4):=Row.all (hB4.kp0 k24) rfl
 repeat apply gst
 refine CG.tail mixed 8 [0,1,2,3,4,5,6,7] (by kernel_rfl) ?_
 repeat (apply gdv;exact rfl;exact rfl;(first|apply vM|apply qlc)<;>first|exact rfl|(apply Ar.mk;omega)|assumption|exact List.not_mem_nil)
 refine Der.call rfl rfl rfl (vs:=[bv f,bv l,bv s]) (Evs.of rfl) (fun W _ _=>pr f l s W) ?_
 repeat (apply gdv;exact rfl;exact rfl;apply qla<;>first|exact rfl|assumption|exact List.not_mem_nil)
 refine Der.tl (fun w5 hk5 _ _=>?_)
 have k5:=k4.trans hk5
 have q0:=q0.kp0 hk5
 clear q1 q2 q4
 refine SG.call rfl rfl rfl (vs:=[bdv (bdU f l s),u4v m4]) (Evs.of rfl) ((jV w5 u1 (by omega) hm).mono (fun e w6 hh=>?_))
 obtain⟨hk6,bw,q,y,rfl,h6,hB⟩:=hh
 refine⟨_,rfl,?_⟩
 have ok6:=zb hB (by omega)
 have hi6:=C9 hB
 have hbd6:=hB.bd
 have htr6:=hB.tr
 clear hB
 obtain⟨d1,d2,d3,d4⟩:=yg f l s
 obtain⟨n,hn⟩:∃n,w5.heap.size=n:=⟨_,rfl⟩
 rw[hn] at h6
 repeat (first|apply gst|(apply gsv;exact rfl;(first|apply qep|apply qmv|apply qas)<;>exact rfl))
 refine CG.ar rfl (by exact ag rfl) rfl ?_
 obtain⟨B,hBd⟩:∃B,bdU f l s=B:=⟨_,rfl⟩
 rw[hBd] at d1 d2 d3 d4 hbd6 htr6
 have hT0:q.c.tr.ht q.c.tr.tip=0:=by rw[htr6];exact(jR bH _).h0
 have hdep6:q.c.tr.depth=B.fork.toNat:=by rw[htr6];rfl
 repeat (first|apply gst|(apply gsv;exact rfl;(first|apply qmv|apply qas|apply qln)<;>exact rfl))
 refine CG.loop (X:=Nat×Wl×(Option Addr×Nat×List Bm)) (fun p=>[(3,.pointer (some ⟨b3,0,none⟩)),(6,.bool false),(7,.pointer (some ⟨bw,0,none⟩)),(8,.slice p.2.2.1 p.2.2.2.2.length p.2.2.2.1),(9,.int .i64 (p.2.1.c.tr.ht p.2.1.c.tr.tip:Int)),(36,.slice a acts.length c),(37,.int .i64 (acts.length:Int)),(38,.int .i64 (p.1:Int))])
  (fun p w'=>p.1≤acts.length∧(fT w' n (lC (acU m4 4)) bw p.2.1∧yr p.2.1 (p.1:Int)∧Kp [] w5 w'∧Hi p.2.1.c (bal (kK [] (acU m4 4))))∧p.2.1.c.bd=B∧p.2.1.c.tr.depth=B.fork.toNat∧A2 w' bw p.2.1 p.2.2.1 p.2.2.2.2∧∃k,k≤p.2.1.c.tr.ht p.2.1.c.tr.tip+1-p.2.1.c.tr.depth∧p.2.2.2.2.map Bm.b=((p.2.1.c.tr.line p.2.1.c.tr.tip).take k).map (qd p.2.1.c.ns))
  (fun p=>acts.length-p.1) (0,q,none,0,[]) ⟨Nat.zero_le _,⟨h6,ok6,hk6,hi6⟩,hbd6,hdep6,⟨Sl.nil,(fun _ h=>absurd h List.not_mem_nil),(fun h=>absurd rfl h),(fun _ h=>absurd h List.not_mem_nil)⟩,0,Nat.zero_le _,rfl⟩ (by simp only[hT0];(repeat' (first|exact True.intro|exact rfl|refine And.intro ?_ ?_))) ?_
 rintro⟨j,q1,a8,c8,ys⟩ w7 ⟨hj,⟨h7,ok7,k57,hi7⟩,hbd7,hdep7,hF7,k,hk,hyk⟩
 simp only at hj h7 ok7 hi7 hbd7 hdep7 hF7 hk hyk
 obtain⟨T,hT⟩:∃T,q1.c.tr.ht q1.c.tr.tip=T:=⟨_,rfl⟩
 rw[hT] at hk
 refine CG.to [(3,.pointer (some ⟨b3,0,none⟩)),(6,.bool false),(7,.pointer (some ⟨bw,0,none⟩)),(8,.slice a8 ys.length c8),(9,.int .i64 (T:Int)),(36,.slice a acts.length c),(37,.int .i64 (acts.length:Int)),(38,.int .i64 (j:Int))] (by rw[←hT];(repeat' (first|exact True.intro|exact rfl|refine And.intro ?_ ?_))) ?_
 have hyl:ys.length≤T+1:=by
  have e:=congrArg List.length hyk
  rw[List.length_map,List.length_map,List.length_take,Tr.cJ ok7.ch.wf.tip,hT] at e
  omega
 by_cases hlt:j<acts.length
 ·have g1:(j:Int)<(acts.length:Int):=by omega
  have k7:=k5.trans k57
  obtain⟨ba,off,rfl,hrow⟩:=(hS.kp0 k7).at hlt
  have hxI:=(hI _ (List.getElem_mem hlt)).kp0 k7
  have hxb:=hb _ (List.getElem_mem hlt)
  generalize acts[j]=x at*
  repeat (first|apply gst|(apply gsv;exact rfl;apply qls<;>first|exact rfl|(apply dct;first|assumption|omega)))
  refine CG.au rfl (by exact ag rfl) rfl ?_
  repeat (first|apply gst|(apply gsv;exact rfl;(first|apply qla|apply qix)<;>first|exact rfl|(apply Ar.mk;omega)|assumption|exact List.not_mem_nil))
  refine SG.alloc rfl rfl rfl (fun b8 w8 hk8 hb8 hB8=>?_)
  refine SG.aG (l:=axc x) rfl rfl (by exact ag rfl) (by exact ag rfl) hB8 (sx _) rfl (AO _) (fun w9 hk9 hB9=>?_)
  have k79:=hk8.ai hk9 (bh hb8)
  have r9:Row w9 b8 0 (axc x):=Row.all hB9 rfl
  clear hrow
  have hn5:=k5.size
  have hxn:x.In n w9:=Ax.In.up (hxI.kp0 k79) (by omega)
  repeat (first|apply gst|(apply gsv;exact rfl;(first|apply qmv|apply qla)<;>first|exact rfl|assumption|exact List.not_mem_nil))
  refine SG.call rfl rfl rfl (vs:=[.pointer (some ⟨bw,0,none⟩),axv x]) (Evs.of rfl) ((xC (h7.kp0 k79) ok7 (by omega) (by omega) hxn hxb).mono (fun e w10 hh=>?_))
  obtain⟨q2,z,rfl,h10,ok10,hstp,-,ko⟩:=hh
  refine⟨_,rfl,?_⟩
  have k510:Kp [] w5 w10:=(k57.trans k79).ai ko.kp (fun x hx=>Or.inr (by rw[hn];exact(h7.kp0 k79).ge x hx))
  have hF10:=(hF7.kp0 k79).act (h7.kp0 k79) ko
  have hi10:=hi7.step ok7.ch hstp
  obtain⟨st1,st2,st3⟩:=xO ok7.ch hstp
  have hbd10:q2.c.bd=B:=hstp.1.1.trans hbd7
  have hdep10:q2.c.tr.depth=B.fork.toNat:=st2.trans hdep7
  have hyk10:ys.map Bm.b=((q2.c.tr.line q2.c.tr.tip).take k).map (qd q2.c.ns):=by rw[hyk,st3 k (by rw[hT];exact hk)]
  rw[hT] at st1
  clear r9
  obtain⟨qn,hqn⟩:=ok10.ch.tip
  have eht:qn.2.x.ht=(q2.c.tr.ht q2.c.tr.tip:Int):=hi10.ht _ _ hqn
  obtain⟨T2,hT2⟩:∃T2,q2.c.tr.ht q2.c.tr.tip=T2:=⟨_,rfl⟩
  rw[hT2] at eht st1
  have hT2s:(T2:Int)≤41:=by
   have:=(ok10.ch.nd _ _ hqn).2.1
   omega
  have hlen2:(q2.c.tr.line q2.c.tr.tip).length=T2+1:=by rw[Tr.cJ ok10.ch.wf.tip,hT2]
  obtain⟨z0,-,-,-⟩:=bY h10.blk
  repeat (first|apply gst|(apply gsv;exact rfl;(first|apply qnc|apply qmv|apply qlc|apply qfa)<;>first|exact rfl|assumption|exact List.not_mem_nil))
  refine SG.call rfl rfl rfl (vs:=[.pointer (some ⟨q2.c.cb,0,none⟩)]) (Evs.of rfl) ((rX h10.ch ok10.ch.wf (by omega) (fun d hd=>ok10.ch.get (qi ok10.ch.wf ok10.ch.wf.tip hd))).mono (fun e w11 hh=>?_))
  obtain⟨v11,zs,rfl,hL,hk11⟩:=hh
  refine⟨_,rfl,?_⟩
  have hzl:zs.length=T2+1:=by have e:=congrArg List.length hL.eq;rw[List.length_map,List.length_map,hlen2] at e;exact e
  obtain⟨a11,c11,rfl,-,hS11⟩:=Sl.own az hL.own rfl
  have h11:=h10.kp0 hk11
  have z0:=z0.kp0 hk11
  repeat (first|apply gst|(apply gsv;exact rfl;(first|apply qnc|apply qmv|apply qas|apply qlc|apply qfa)<;>first|exact rfl|assumption|exact List.not_mem_nil))
  refine SG.ret rfl rfl rfl (vs:=[.pointer (some ⟨q2.c.cb,0,none⟩)]) (Evs.of rfl) (fx h11.ch hqn) (fun w12 hk12=>?_)
  rw[eht]
  have z0:=z0.kp0 hk12
  have g2:¬(T2:Int)<(T:Int):=by omega
  have g3:¬(zs.length:Int)<(ys.length:Int):=by omega
  repeat (first|apply gst|(apply gsv;exact rfl;(first|apply qmv|apply qpk|apply qls|apply qln)<;>first|exact rfl|(apply dcf;first|assumption|omega)))
  refine CG.ar rfl (by exact ag rfl) rfl ?_
  repeat (first|apply gst|(apply gsv;exact rfl;(first|apply qnc|apply qmv|apply qlc|apply qfa)<;>first|exact rfl|assumption|exact List.not_mem_nil))
  refine SG.ret rfl rfl rfl (vs:=[.pointer (some ⟨q2.c.cb,0,none⟩)]) (Evs.of rfl) (fx (h11.kp0 hk12).ch hqn) (fun w13 hk13=>?_)
  rw[eht]
  clear z0
  have k1013:=(hk11.trans hk12).trans hk13
  repeat (first|apply gst|(apply gsv;exact rfl;(first|apply qmv|apply qas|apply qln)<;>exact rfl))
  refine CG.loop (X:=Nat) (fun i=>[(3,.pointer (some ⟨b3,0,none⟩)),(6,.bool false),(7,.pointer (some ⟨bw,0,none⟩)),(9,.int .i64 (T2:Int)),(12,.slice a11 zs.length c11),(36,.slice (some ⟨ba,off,none⟩) acts.length c),(37,.int .i64 (acts.length:Int)),(38,.int .i64 (j:Int)),(69,.slice a8 ys.length c8),(70,.int .i64 (ys.length:Int)),(71,.int .i64 (i:Int))])
   (fun i w'=>i≤ys.length∧Kp [] w13 w') (fun i=>ys.length-i) 0 ⟨Nat.zero_le _,Kp.refl _ _⟩ (bf.of rfl) ?_
  rintro i w14 ⟨hi,k14⟩
  refine CG.to [(3,.pointer (some ⟨b3,0,none⟩)),(6,.bool false),(7,.pointer (some ⟨bw,0,none⟩)),(9,.int .i64 (T2:Int)),(12,.slice a11 zs.length c11),(36,.slice (some ⟨ba,off,none⟩) acts.length c),(37,.int .i64 (acts.length:Int)),(38,.int .i64 (j:Int)),(69,.slice a8 ys.length c8),(70,.int .i64 (ys.length:Int)),(71,.int .i64 (i:Int))] (bf.of rfl) ?_
  have k1014:=k1013.trans k14
  have k1114:=(hk12.trans hk13).trans k14
  by_cases hlt2:i<ys.length
  ·have g4:(i:Int)<(ys.length:Int):=by omega
   have hlz:i<zs.length:=by omega
   have g5:(i:Int)<(zs.length:Int):=by omega
   obtain⟨bc,ofc,ea,hrow⟩:=(hF10.sl.kp0 k1014).at hlt2
   obtain⟨bc',ofc',ea',hrow'⟩:=(hS11.kp0 k1114).at hlz
   have hY:=(hF10.ins _ (List.getElem_mem hlt2)).kp0 k1014
   have hZ:=(hL.ins _ (List.getElem_mem hlz)).kp0 k1114
   have he:zs[i].b=ys[i].b:=by
    have e1:(zs.map Bm.b)[i]?=((q2.c.tr.line q2.c.tr.tip).map (qd q2.c.ns))[i]?:=by rw[hL.eq]
    have e2:(ys.map Bm.b)[i]?=(((q2.c.tr.line q2.c.tr.tip).take k).map (qd q2.c.ns))[i]?:=by rw[hyk10]
    have hik:i<k:=by
     have e:=congrArg List.length hyk10
     rw[List.length_map,List.length_map,List.length_take] at e
     omega
    rw[List.map_take,List.getElem?_take,if_pos hik,←e1] at e2
    rw[List.getElem?_map,List.getElem?_map,List.getElem?_eq_getElem hlt2,List.getElem?_eq_getElem hlz] at e2
    exact(Option.some.inj e2).symm
   rw[ea,ea']
   generalize ys[i]=y1 at*
   generalize zs[i]=z1 at*
   repeat (first|apply gst|(apply gsv;exact rfl;apply qls<;>first|exact rfl|(apply dct;first|assumption|omega)))
   refine CG.au rfl (by exact ag rfl) rfl ?_
   repeat (first|apply gst|(apply gsv;exact rfl;(first|apply qmv|apply qla|apply qix)<;>first|exact rfl|(apply Ar.mk;omega)|assumption|exact List.not_mem_nil|apply az))
   refine SG.alloc rfl rfl rfl (fun b15 w15 hk15 hb15 hB15=>?_)
   repeat (apply gsv;exact rfl;apply qas<;>exact rfl)
   refine SG.aG (l:=bkc y1) rfl rfl (by exact ag rfl) (by exact ag rfl) hB15 (az _) rfl (cz _) (fun w16 hk16 hB16=>?_)
   have k16:=hk15.ai hk16 (bh hb15)
   have r16:Row w16 b15 0 (bkc y1):=Row.all hB16 rfl
   have hrow':=hrow'.kp0 k16
   clear hrow
   repeat apply gst
   refine CG.tail mixed 5 [0,1,2,3,4] (by kernel_rfl) ?_
   repeat (apply gdv;exact rfl;exact rfl;(first|apply qmv|apply qla|apply qix)<;>first|exact rfl|(apply Ar.mk;omega)|assumption|exact List.not_mem_nil|apply az)
   refine Der.tl (fun w17 hk17 _ _=>?_)
   refine SG.ret rfl rfl rfl (vs:=[bkv z1,bkv y1]) (Evs.of rfl) (sj ((hZ.kp0 k16).kp0 hk17) ((hY.kp0 k16).kp0 hk17) he) (fun w18 hk18=>?_)
   clear r16 hrow'
   repeat (first|apply gst|(apply gsv;exact rfl;apply qnt<;>exact rfl))
   refine CG.ar rfl (by exact ag rfl) rfl ?_
   repeat (first|apply gst|(apply gsv;exact rfl;(first|apply qmv|apply qad)<;>first|exact rfl|(apply Ar.mk;omega)))
   rw[←ea,←ea']
   refine NG.round (i+1) (bf.of rfl) ⟨hlt2,((k14.trans k16).trans hk17).trans hk18⟩ (by omega)
  have g4:¬(i:Int)<(ys.length:Int):=by omega
  repeat (first|apply gst|(apply gsv;exact rfl;apply qls<;>first|exact rfl|(apply dcf;first|assumption|omega)))
  refine CG.ar rfl (by exact ag rfl) rfl ?_
  have h14:=h10.kp0 k1014
  have q14:=((q0.kp0 k510).kp0 k1014)
  repeat (first|apply gst|(apply gsv;exact rfl;(first|apply qmv|apply qas|apply qln)<;>exact rfl))
  refine CG.loop (X:=Nat×Value×List Bm) (fun p=>[(3,.pointer (some ⟨b3,0,none⟩)),(6,.bool false),(7,.pointer (some ⟨bw,0,none⟩)),(8,p.2.1),(9,.int .i64 (T2:Int)),(36,.slice (some ⟨ba,off,none⟩) acts.length c),(37,.int .i64 (acts.length:Int)),(38,.int .i64 (j:Int)),(84,.slice a11 zs.length c11),(85,.int .i64 (zs.length:Int)),(86,.int .i64 (p.1:Int))])
   (fun p w'=>p.1≤zs.length∧Kp [] w14 w'∧w'.ownsRow w14.heap.size 50 18 p.2.1 p.2.2.length (flt bkc p.2.2)∧p.2.2=zs.take (min p.1 (T2+1-B.fork.toNat)))
   (fun p=>zs.length-p.1) (0,.slice none 0 0,[]) ⟨Nat.zero_le _,Kp.refl _ _,cF,by rw[Nat.zero_min];rfl⟩ (bf.of rfl) ?_
  rintro⟨i2,v,vs⟩ w19 ⟨hi2,k19,ho19,hvs⟩
  simp only at hi2 ho19 hvs
  refine CG.to [(3,.pointer (some ⟨b3,0,none⟩)),(6,.bool false),(7,.pointer (some ⟨bw,0,none⟩)),(8,v),(9,.int .i64 (T2:Int)),(36,.slice (some ⟨ba,off,none⟩) acts.length c),(37,.int .i64 (acts.length:Int)),(38,.int .i64 (j:Int)),(84,.slice a11 zs.length c11),(85,.int .i64 (zs.length:Int)),(86,.int .i64 (i2:Int))] (bf.of rfl) ?_
  have hvl:vs.length≤zs.length:=by rw[hvs,List.length_take];omega
  by_cases hlt3:i2<zs.length
  ·have g5:(i2:Int)<(zs.length:Int):=by omega
   obtain⟨bc,ofc,ea,hrow⟩:=(hS11.kp0 (k1114.trans k19)).at hlt3
   have hzt:zs.take (i2+1)=zs.take i2++[zs[i2]]:=by rw[List.take_add_one,List.getElem?_eq_getElem hlt3];rfl
   rw[ea]
   generalize zs[i2]=z1 at*
   repeat (first|apply gst|(apply gsv;exact rfl;apply qls<;>first|exact rfl|(apply dct;first|assumption|omega)))
   refine CG.au rfl (by exact ag rfl) rfl ?_
   repeat (first|apply gst|(apply gsv;exact rfl;(first|apply qmv|apply qla|apply qix)<;>first|exact rfl|(apply Ar.mk;omega)|assumption|exact List.not_mem_nil|apply az))
   refine SG.alloc rfl rfl rfl (fun b20 w20 hk20 hb20 hB20=>?_)
   repeat (apply gsv;exact rfl;apply qas<;>exact rfl)
   refine SG.aG (l:=bkc z1) rfl rfl (by exact ag rfl) (by exact ag rfl) hB20 (az _) rfl (cz _) (fun w21 hk21 hB21=>?_)
   have k1921:=hk20.ai hk21 (bh hb20)
   have r21:Row w21 b20 0 (bkc z1):=Row.all hB21 rfl
   have h21:=h14.kp0 (k19.trans k1921)
   obtain⟨z0,-,-,-⟩:=bY h21.blk
   have q21:=q14.kp0 (k19.trans k1921)
   clear hrow
   have ef:yN q2.c.bd.fork (i2:Int) qn.2.x.ht=decide ((i2:Int)≤(T2:Int)-(f.toNat:Int)%6):=by rw[hbd10,eht,Ao (by omega) (by omega),d4]
   have cf:∀{W:World},Kp [] w21 W→Ret Tryz.prog 24 #[.pointer (some ⟨q2.c.cb,0,none⟩),.int .i64 (i2:Int)] W (.bool (decide ((i2:Int)≤(T2:Int)-(f.toNat:Int)%6))):=fun hk=>by
    have:=gu (h21.kp0 hk).ch hqn (by omega) (by rw[hbd10];omega) (i2:Int)
    rw[ef] at this
    exact this
   have hfu:=f.toNat_lt
   by_cases hf:(i2:Int)≤(T2:Int)-(f.toNat:Int)%6
   ·rw[decide_eq_true hf] at cf
    repeat apply gst
    refine CG.tail mixed 14 [0,1,2,3,4,5,6,7,8,9,10,11,12,13] (by kernel_rfl) ?_
    repeat (apply gdv;exact rfl;exact rfl;(first|apply qnc|apply qmv|apply qlc|apply qfa)<;>first|exact rfl|assumption|exact List.not_mem_nil)
    refine Der.call rfl rfl rfl (vs:=[.pointer (some ⟨q2.c.cb,0,none⟩),.int .i64 (i2:Int)]) (Evs.of rfl) (fun W hk _=>cf hk) ?_
    repeat (apply gdv;exact rfl;exact rfl;(first|apply qb3|apply vM|apply qri|apply qmv|apply qlc|apply qle|apply qsb)<;>first|exact rfl|(apply Ar.mk;omega)|assumption|(apply dct;first|assumption|omega)|exact List.not_mem_nil)
    refine Der.tl (fun w22 hk22 _ _=>?_)
    have z0:=z0.kp0 hk22
    have r21:=r21.kp0 hk22
    clear q21
    repeat (first|apply gst|(apply gsv;exact rfl;apply qnb<;>exact rfl))
    refine CG.ar rfl (by exact ag rfl) rfl ?_
    repeat (first|apply gst|(apply gsv;exact rfl;(first|apply qnc|apply qmv|apply qlc|apply qfa)<;>first|exact rfl|assumption|exact List.not_mem_nil))
    refine SG.ret rfl rfl rfl (vs:=[.pointer (some ⟨q2.c.cb,0,none⟩),.int .i64 (i2:Int)]) (Evs.of rfl) (cf hk22) (fun w23 hk23=>?_)
    have r21:=r21.kp0 hk23
    clear z0
    repeat apply gst
    refine CG.au rfl (by exact ag rfl) rfl ?_
    repeat (first|apply gst|(apply gsv;exact rfl;(first|apply qmv|apply qla)<;>first|exact rfl|assumption|exact List.not_mem_nil|apply az))
    refine SG.buildSlice rfl rfl rfl rfl (bbl z1) (fun b24 w24 hk24 hb24 hB24=>?_)
    have k1924:=((k1921.trans hk22).trans hk23).trans hk24
    have ho24:=aK ho19 k1924
    have s19:=k19.size
    have s1924:=k1924.size
    refine SG.mJ (enc:=bkc) (xs:=vs) (ys:=[z1]) (base:=w14.heap.size) rfl rfl rfl (by exact ag rfl) (by exact ag rfl) rfl rfl rfl rfl az cz ho24 (fi (enc:=bkc) (sz:=18) (x:=z1) az hB24) (by simp only[maxLen,List.length_singleton];omega) (by show(vs.length+1)*48≤_;omega) (by omega) (fun v25 w25 hk25 ho25 hv25=>?_)
    clear r21
    repeat (first|apply gst|(apply gsv;exact rfl;(first|apply qmv|apply qas|apply qad)<;>first|exact rfl|(apply Ar.mk;omega)))
    refine NG.round (i2+1,v25,vs++[z1]) (bf.of rfl) ⟨hlt3,(k19.trans k1924).ai hk25 (dh ho24 (Nat.le_refl _)),ho25,?_⟩ (by simp only;omega)
    show vs++[z1]=zs.take (min (i2+1) (T2+1-B.fork.toNat))
    rw[Nat.min_eq_left (by omega),hzt,hvs,Nat.min_eq_left (by omega)]
   ·rw[decide_eq_false hf] at cf
    repeat apply gst
    refine CG.tail mixed 14 [0,1,2,3,4,5,6,7,8,9,10,11,12,13] (by kernel_rfl) ?_
    repeat (apply gdv;exact rfl;exact rfl;(first|apply qnc|apply qmv|apply qlc|apply qfa)<;>first|exact rfl|assumption|exact List.not_mem_nil)
    refine Der.call rfl rfl rfl (vs:=[.pointer (some ⟨q2.c.cb,0,none⟩),.int .i64 (i2:Int)]) (Evs.of rfl) (fun W hk _=>cf hk) ?_
    repeat (apply gdv;exact rfl;exact rfl;(first|apply qb3|apply vM|apply qri|apply qmv|apply qlc|apply qle|apply qsb)<;>first|exact rfl|(apply Ar.mk;omega)|assumption|(apply dcf;first|assumption|omega)|exact List.not_mem_nil)
    refine Der.tl (fun w22 hk22 _ _=>?_)
    have z0:=z0.kp0 hk22
    clear q21 r21
    repeat (first|apply gst|(apply gsv;exact rfl;apply qnb<;>exact rfl))
    refine CG.ar rfl (by exact ag rfl) rfl ?_
    repeat (first|apply gst|(apply gsv;exact rfl;(first|apply qnc|apply qmv|apply qlc|apply qfa)<;>first|exact rfl|assumption|exact List.not_mem_nil))
    refine SG.ret rfl rfl rfl (vs:=[.pointer (some ⟨q2.c.cb,0,none⟩),.int .i64 (i2:Int)]) (Evs.of rfl) (cf hk22) (fun w23 hk23=>?_)
    clear z0
    repeat apply gst
    refine CG.ar rfl (by exact ag rfl) rfl ?_
    have k1923:=(k1921.trans hk22).trans hk23
    repeat (first|apply gst|(apply gsv;exact rfl;(first|apply qmv|apply qad)<;>first|exact rfl|(apply Ar.mk;omega)))
    refine NG.round (i2+1,v,vs) (bf.of rfl) ⟨hlt3,k19.trans k1923,aK ho19 k1923,?_⟩ (by simp only;omega)
    show vs=zs.take (min (i2+1) (T2+1-B.fork.toNat))
    rw[Nat.min_eq_right (by omega),hvs,Nat.min_eq_right (by omega)]
  have g5:¬(i2:Int)<(zs.length:Int):=by omega
  repeat (first|apply gst|(apply gsv;exact rfl;apply qls<;>first|exact rfl|(apply dcf;first|assumption|omega)))
  refine CG.ar rfl (by exact ag rfl) rfl ?_
  obtain⟨a19,c19,rfl,-,hS19⟩:=Sl.own az ho19 rfl
  have k1019:=k1014.trans k19
  have s1014:=k1014.size
  have hmem:∀y∈vs,y∈zs:=fun y hy=>by rw[hvs] at hy;exact List.mem_of_mem_take hy
  have ej:((j+1:Nat):Int)=(j:Int)+1:=by omega
  repeat (first|apply gst|(apply gsv;exact rfl;(first|apply qmv|apply qad)<;>first|exact rfl|(apply Ar.mk;omega)))
  refine NG.round (j+1,q2,(a19,c19,vs)) (by simp only[hT2];(repeat' (first|exact True.intro|exact rfl|refine And.intro ?_ ?_))) ⟨hlt,⟨h14.kp0 k19,by simp only;rw[ej];exact ok10,k510.trans k1019,hi10⟩,hbd10,hdep10,⟨hS19,fun y hy=>(hL.ins y (hmem y hy)).kp0 (k1114.trans k19),fun hne b o e hm=>?_,fun y hy hne b o e hm=>?_⟩,T2+1-B.fork.toNat,?_,?_⟩ (by simp only;omega)
  ·have h1:=dN ho19 b o e
   have h2:=h10.lt b hm
   omega
  ·have h1:=hL.nw y (hmem y hy) b o e
   have h2:=h10.lt b hm
   omega
  ·simp only
   rw[hT2,hdep10]
   exact Nat.le_refl _
  ·show vs.map Bm.b=((q2.c.tr.line q2.c.tr.tip).take (T2+1-B.fork.toNat)).map (qd q2.c.ns)
   rw[hvs,Nat.min_eq_right (by omega),List.map_take,hL.eq,List.map_take]
 ·have g1:¬(j:Int)<(acts.length:Int):=by omega
  repeat (first|apply gst|(apply gsv;exact rfl;apply qls<;>first|exact rfl|(apply dcf;first|assumption|omega)))
  refine CG.ar rfl (by exact ag rfl) rfl ?_
  obtain⟨qn,hqn⟩:=ok7.ch.tip
  have eht:qn.2.x.ht=(T:Int):=by rw[←hT];exact hi7.ht _ _ hqn
  have hTs:(T:Int)≤40:=by
   have:=(ok7.ch.nd _ _ hqn).2.1
   omega
  obtain⟨z0,-,-,-⟩:=bY h7.blk
  repeat (first|apply gst|(apply gsv;exact rfl;(first|apply qnc|apply qmv|apply qlc|apply qfa)<;>first|exact rfl|assumption|exact List.not_mem_nil))
  refine SG.ret rfl rfl rfl (vs:=[.pointer (some ⟨q1.c.cb,0,none⟩),.int .i64 (-1)]) (Evs.of rfl) (gu h7.ch hqn (by omega) (by rw[hbd7];omega) (-1)) (fun w8 hk8=>?_)
  rw[uH (Or.inl (by decide))]
  have z0:=z0.kp0 hk8
  repeat (apply gsv;exact rfl;(first|apply qnc|apply qmv|apply qlc|apply qfa|apply qad|apply qnt)<;>first|exact rfl|(apply Ar.mk;omega)|assumption|exact List.not_mem_nil)
  refine SG.ret rfl rfl rfl (vs:=[.pointer (some ⟨q1.c.cb,0,none⟩),.int .i64 ((T:Int)+1)]) (Evs.of rfl) (gu (h7.kp0 hk8).ch hqn (by omega) (by rw[hbd7];omega) ((T:Int)+1)) (fun w9 hk9=>?_)
  rw[uH (Or.inr (by rw[hbd7];omega))]
  repeat (first|apply gst|(apply gsv;exact rfl;(first|apply qas|apply qpk|apply qnt)<;>exact rfl))
  refine aR (Or.inl rfl) Tryz.results5 (aE.tmp rfl) ?_
  exact⟨rfl,((k5.trans k57).trans hk8).trans hk9⟩
end
section
open Go.ChangeShapes Go.WideShapes Go.ChangeAt Go.RowKit
theorem xE(os:Os):laidMet Tryz.prog Rows.chainFinalUptoRow.laid ((jW os).forCall (fun _ _=>0) ⟨#[],#[DD,DC,.slice none 0 0],[]⟩).memory:=
 laidMet_of_run' 8 (by kernel_rfl) (by kernel_rfl)
theorem reads(os:Os){H:Type}(enc:TypeId×Value→H):∃places,DataW.whole enc Tryz.prog ((jW os).forCall (fun _ _=>0) ⟨#[],#[DD,DC,.slice none 0 0],[]⟩).memory Tryz.f5.params.toList Rows.chainFinalSpec.vars false #[DD,DC,.slice none 0 0].toList 8=some ([.agg [.lit (.int .u8 0),.lit (.int .u8 0),.lit (.int .u8 0)],.agg [.lit (.int .u16 0),.lit (.int .u16 0),.lit (.int .u16 0),.lit (.int .u16 0)],.nil],[],places):=
 ⟨[],by kernel_rfl⟩
set_option maxRecDepth 100000 in
theorem iG(os:Os)(started:os.Started)(H:Type)(enc:TypeId×Value→H)(F:Stop.Interp):
  ReturnsInHanded {} Tryz.checked os 5 .any ((Rows.OpenSpec.upto Rows.chainFinalSpec).preRow enc Tryz.prog Tryz.f5 Rows.chainFinalUptoRow.domain false Rows.chainFinalUptoRow.laid) (((Rows.OpenSpec.upto Rows.chainFinalSpec).at F).post enc Tryz.prog Tryz.f5 false true false false):=by
 obtain⟨places,hx⟩:=reads os enc
 refine returnsInHanded_of_row (C:=Tryz.checked) (s:=Rows.OpenSpec.upto Rows.chainFinalSpec) own started (by kernel_rfl) Tryz.func5
  (witness_row_at (enc:=enc) (C:=Tryz.checked) false (jW os) #[DD,DC,.slice none 0 0] rfl (by kernel_rfl) (by kernel_rfl) (by kernel_rfl)
   (OpenSpec.preRow_of_cond 8 hx (by kernel_rfl) (fun k hk=>by cases hk;kernel_rfl) (by kernel_rfl) (xE os))) ?_
 intro W base args ds gs before hval0 hW0 _ hcond _ _ _ _
 have hval:∀(j:Nat) t v,Tryz.f5.params[j]?=some t→args[j]?=some v→Value.okWide Tryz.prog W .any base t v:=hval0
 have hW':DataW.Whole enc Tryz.prog Tryz.f5.params.toList Rows.chainFinalSpec.vars false W args.toList ds gs before:=hW0
 have hW:=hW'
 obtain⟨p,q,hA0,hV,rfl,hfz,hnd⟩:=hW
 have hA:DataW.TrodAll enc Tryz.prog W 0 (fun _=>true) true Tryz.f5.params.toList args.toList ds p:=hA0
 rw[Tryz.params5] at hA hval
 obtain⟨v0,v1,v2,d0,d1,d2,p0,p1,p2,rfl,rfl,rfl,h0,h1,h2⟩:=trodAll_three hA
 have hk:Rows.uptoBulkAll ([d0,d1,d2]++gs)≤1048576:=of_decide_eq_true (hcond _ rfl)
 have hb:Rows.uptoBulk d2≤1048576:=Nat.le_trans (tR (List.mem_append_left _ (by simp))) hk
 obtain⟨f,l,s,rfl⟩:=E7 (hval 0 22 v0 rfl rfl) h0
 obtain⟨m4,rfl,hm⟩:=DK (hval 1 24 v1 rfl rfl) h1
 obtain⟨a,c,acts,rfl,hS,hI,hbd⟩:=AX (hval 2 25 v2 rfl rfl) h2 hb
 refine(rN f l s hm hS hI hbd).mono fun e W' ⟨he,hk⟩=>⟨_,he,?_⟩
 exact xD laidOut (by rw[Tryz.params5];exact of_decide_eq_true (by kernel_rfl)) rfl hW' rfl (by kernel_rfl) Tryz.underlying4 hk
theorem j8:Rows.ChainFinalUptoSaid:=
 OpenClaim.holds_of_cond 5 Tryz.f5 rfl rfl rfl rfl rfl rfl rfl ⟨rfl,rfl,rfl,rfl,rfl⟩ rfl rfl rfl rfl rfl (by kernel_rfl) Tryz.func5 (by kernel_rfl)
  (of_decide_eq_true (by kernel_rfl)) (by unfold Func.isWrapper;first|(rw[if_pos (by decide+kernel)];kernel_rfl)|(rw[if_neg (by decide+kernel)];exact⟨rfl,rfl⟩))
  (fun os started H enc _ F=>by rw[OpenClaim.pre_eq_preRow];exact iG os started H enc F)
theorem jf(f:FuncId)(fn:Func)(hf:Tryz.pinned.checked.prog.funcNamed "baize/baizelaw30.ChainFinal"=some f)(hfn:Tryz.pinned.checked.prog.funcs[f]?=some fn):
  true=Tryz.pinned.checked.prog.looks []∧∀(j:Nat) t,fn.params[j]?=some t→Tryz.pinned.checked.prog.wantsStandIn t=false:=by
 obtain rfl:f=5:=Option.some.inj ((show Tryz.prog.funcNamed "baize/baizelaw30.ChainFinal"=some 5 by kernel_rfl).symm.trans hf)|>.symm
 obtain rfl:fn=Tryz.f5:=(Option.some.inj (Tryz.func5.symm.trans hfn)).symm
 refine⟨by kernel_rfl,fun j t ht=>?_⟩
 rw[Tryz.params5] at ht
 have ht:=Array.mem_of_getElem? ht
 simp only[List.mem_toArray,List.mem_cons,List.mem_nil_iff,or_false] at ht
 rcases ht with rfl|rfl|rfl
 ·exact(show Tryz.prog.wantsStandIn 22=false by kernel_rfl)
 ·exact(show Tryz.prog.wantsStandIn 24=false by kernel_rfl)
 ·exact(show Tryz.prog.wantsStandIn 25=false by kernel_rfl)
theorem chainFinal_holds:Rows.ChainFinalUptoCardSaid:=
 Claim7.holds_tied_plain_at .later [] _ _ _ _ j8 (fun _ h=>by cases h) (by kernel_rfl) (fun _ h=>by cases h) chainFinalUpto_row_tie rfl ⟨rfl,rfl⟩ (by kernel_rfl) rfl jf (by kernel_rfl)
end
end Go.Proofs.YtpnjgjddabeapaaGreatDoor
