/-
  ChainNonces answers true for every input of a bulk of at most 1048576, and leaves its arguments as they were. The second form's card; no other conditions.
-/
import Derived.Test.YtpnjgjddabeapaaGreatDoorMn5
namespace Go.Proofs.YtpnjgjddabeapaaGreatDoor
set_option linter.all false
set_option maxHeartbeats 400000000
section
theorem Ll(w:World)(a b:Int)(p:Option Addr)(m cc:Nat):(Instr.build 52 #[(1,.int .i64 a),(2,.int .i64 b),(4,.slice p m cc)]).run Tryz.prog w= .ok (.agg (dc zd++[Value.int .i64 a,Value.int .i64 b,Value.int .i64 0,Value.slice p m cc,Value.slice none 0 0]).toArray) w:=by kernel_rfl
theorem LO(w:World):(Instr.build 31 #[]).run Tryz.prog w= .ok (bdv ⟨0,0,0⟩) w:=by kernel_rfl
theorem Lj(w:World):(Instr.build 24 #[(0,.int .u16 10)]).run Tryz.prog w= .ok (u4v [10,0,0,0]) w:=by kernel_rfl
theorem Ei:bdz ⟨0,0,0⟩=0:=by kernel_rfl
theorem Ee:lD (acU [10,0,0,0] 4)=10:=by kernel_rfl
structure KSt(i:Nat)(q:Wl)(y:Bm)(z:Nat)(m:Nm):Prop where
 tr:q.c.tr=Tr.new bG 0
 ns:q.c.ns=[(bG,z,m)]
 ps:q.c.ps.map Em.en=kP i
 nb:q.nb=kN i
 ss:q.ss.map (·.t)=[kS 0,kS 1].take i
 bs:q.bs=[y]
 yb:y.b=(bK cF).b
 mx:m.x=bK cF
 mf:m.f=kf0
 mt:m.t=kt0
 ok:iR q.c 0
theorem KSt.tip{i:Nat}{q:Wl}{y:Bm}{z:Nat}{m:Nm}(h:KSt i q y z m):ay q.c.ns q.c.tr.tip=some (z,m):=by
 rw[h.ns,h.tr]
 exact if_pos rfl
theorem xe:ey 256 []:=Ak (by decide)
theorem Ce:∀i,(kN i).length≤10
 |0=>by decide
 |1=>show 1≤10 by decide
 |_+2=>show 2≤10 by decide
theorem zg{y:Bm}(h:y.b=(bK cF).b):aL y.b=bG:=by rw[h];rfl
theorem zi{b:Bd}{l:List Nat}{q:Wl}{y:Bm}(h:DN b l q y)(hf:b.fork≤1000):yw q 0:=by
 obtain⟨z,m,hns,hmx,hmf,hmt,hme⟩:=h.ns
 have hl:∀d,ay q.c.ns d=if bG=d then some (z,m) else none:=fun d=>by
  rw[hns]
  rfl
 refine⟨⟨by rw[h.tr];exact lh _ _,by rw[h.tr];show b.fork.toNat≤1000;omega,by rw[h.ps];exact xe,fun d=>?_,fun d x hx=>?_⟩,fun x hx=>?_,by rw[h.bs];exact Nat.zero_lt_succ _,by rw[h.nb];decide,by rw[h.ss];decide,by rw[h.bs,List.length_singleton];decide⟩
 ·rw[hl,h.tr]
  show(if bG=d then some kd0 else none).isSome=_
  by_cases e:bG=d
  ·rw[if_pos e,if_pos e];rfl
  ·rw[if_neg e,if_neg e];rfl
 ·rw[hl] at hx
  by_cases e:bG=d
  ·rw[if_pos e] at hx
   obtain rfl:=Option.some.inj hx
   show 0≤m.x.ht∧m.x.ht≤0∧(m.t.n:Int)≤64*m.x.ht
   rw[hmx,hmt]
   exact⟨Int.le_refl _,Int.le_refl _,Int.le_refl _⟩
  ·rw[if_neg e] at hx;cases hx
 ·rw[h.bs,List.mem_singleton] at hx
  subst hx
  refine⟨(z,m),?_,?_⟩
  ·rw[hl,zg h.y,if_pos rfl]
  ·rw[h.y]
   show m.x.b=_
   rw[hmx]
theorem KJ{q:Wl}{y:Bm}(h:DN ⟨0,0,0⟩ [10,0,0,0] q y):∃z m,KSt 0 q y z m:=by
 obtain⟨z,m,hns,hmx,hmf,hmt,hme⟩:=h.ns
 exact⟨z,m,h.tr,hns,by rw[h.ps];rfl,h.nb,by rw[h.ss];rfl,h.bs,h.y,hmx,hmf,hmt,(zi h (by decide)).ch⟩
def gMb:GD:=⟨Bm,bm0,fun x=> .tuple #[bkv x,.int .i64 0],fun x w=>x.b=kB∧x.In 0 w⟩
theorem xN(x:gMb.X):cy [] (gMb.phi x):=fun w w' hk h=>⟨h.1,h.2.kp0 hk⟩
theorem B8{m:Nm}(hx:m.x=bK cF)(hf:m.f=kf0){l:List En}(hl:l=kP 2):(⟨bG,m.x.ht+1,d1 8,mkL (d1 8) m.f [] (tkL l [])⟩:Bl)=kB:=by
 rw[hl,KL,hf,KN,hx]
 rfl
theorem KM{q:Wl}{y:Bm}{z:Nat}{m qn:Nm}(h:KSt 2 q y z m)(hr:∃p,ay q.c.ns kB.par=some p∧fQ q.nb kB.ht kB.mkr p.2.f p.2.t [] kB.txs=(0,qn.f,qn.t,qn.es)):qn.f=kf2∧qn.es=[0,21]:=by
 obtain⟨p,h1,h2⟩:=hr
 rw[h.ns] at h1
 have h1:some (z,m)=some p:=by rw[←h1];exact(if_pos rfl).symm
 obtain rfl:=Option.some.inj h1
 have h2:fQ q.nb 1 (d1 8) m.f m.t [] [kS 0,kS 1]=(0,qn.f,qn.t,qn.es):=h2
 rw[h.nb,h.mf,h.mt,B3] at h2
 simp only[Prod.mk.injEq] at h2
 exact⟨h2.2.1.symm,h2.2.2.2.symm⟩
theorem Ed{l:List Tm}(h:l.map (·.t)=[kS 0,kS 1]):∃a b,l=[a,b]∧b.t=kS 1:=by
 have hl:l.length=2:=by
  have:=congrArg List.length h
  rw[List.length_map] at this
  exact this
 match l,hl with
 |[a,b],_=>
  simp only[List.map_cons,List.map_nil,List.cons.injEq,and_true] at h
  exact⟨a,b,rfl,h.2⟩
theorem FH{w:World}{L:Env}{d:Option Nat}{ty:TypeId}{pos:String}{af:Array Edge}{g:Option (Nat×Bool)}{S:List Nat}{F:World→Prop}{x:Operand}{k:Dg}{p:Pu}(hx:rho L x=acv (sI k p)):aP Tryz.prog S w F L ⟨d,.field 59 x 1,ty,pos,af,g⟩ (.int .i64 p.money):=
 dI (dc k) [.int .i64 p.nonce] hx rfl (by simp[acl,sI]) (by simp[ah])
attribute [local irreducible] CG NG SG aP Der Row Blk aD aH bB aL aS bG kf0 kf2 kJ aM sgn fZ oZ wN adZ
theorem pc{w:World}{n bw:Nat}{tot:Int}{q:Wl}(h:iQ w n tot bw q){y:Bm}{l:List Bm}(hb:q.bs=y::l)(hr:aS y.b=0):Ret Tryz.prog 52 #[.pointer (some ⟨bw,0,none⟩)] w (dv (aL y.b)):=by
 refine aT Tryz.func52 rfl Tryz.ntmps52 rfl ?_
 repeat apply gst
 refine SG.alloc rfl rfl rfl (fun b2 w1 hk1 hb2 hB2=>?_)
 have h1:=h.kp0 hk1
 obtain⟨a,c,ev,hc,hS⟩:=Sl.own aB h1.bl rfl
 have hl:0<q.bs.length:=by rw[hb];exact Nat.zero_lt_succ _
 obtain⟨ba,off,rfl,hrow⟩:=hS.at hl
 have e0:q.bs[0]=y:=by simp[hb]
 rw[e0] at hrow
 have hrow:Row w1 ba (off+(0:Int).toNat*18) (bkc y):=hrow
 obtain⟨-,-,-,z3⟩:=bZ h1.blk
 rw[ev] at z3
 repeat (first|apply gst|(apply gsv;exact rfl;(first|apply qnc|apply qmv|apply qlc|apply qla|apply qfa|apply qic)<;>first|exact rfl|(apply Ar.mk;omega)|assumption|exact List.not_mem_nil|apply aB))
 have hnm:=dG (h1.bi y (by rw[hb];exact List.mem_cons_self))
 rw[show orZ y.b (aL y.b)= .tuple #[dv (aL y.b),.int .i64 0] from if_pos hr] at hnm
 refine SG.ret rfl rfl rfl (vs:=[bkv y]) (Evs.of rfl) hnm (fun w2 hk2=>?_)
 clear z3 hrow
 repeat (apply gsv;exact rfl;(first|apply qmv|apply qxt)<;>exact rfl)
 refine SG.alloc rfl rfl rfl (fun b3 w3 hk3 hb3 hB3=>?_)
 refine SG.aG (l:=dc (aL y.b)) rfl rfl (by exact ag rfl) (by exact ag rfl) hB3 (ah _) rfl (aR _) (fun w4 hk4 hB3=>?_)
 have k24:=hk2.trans (hk3.ai hk4 (bh hb3))
 have r3:Row w4 b3 0 (dc (aL y.b)):=Row.all hB3 rfl
 repeat (first|apply gst|(apply gsv;exact rfl;(first|apply qas|apply qla)<;>first|exact rfl|assumption|exact List.not_mem_nil|apply ah))
 refine SG.aG (l:=dc (aL y.b)) rfl rfl (by exact ag rfl) (by exact ag rfl) (hB2.kp0 k24) (ah _) rfl (aR _) (fun w5 hk5 hB5=>?_)
 have hr:Row w5 b2 0 (dc (aL y.b)):=Row.all hB5 rfl
 clear r3
 repeat apply gst
 refine aV (Or.inl rfl) Tryz.results52 (aF.agg rfl rfl hr (ah _)) ?_
 exact⟨rfl,(hk1.trans k24).ai hk5 (bh hb2)⟩
theorem lu(w:World):Ret Tryz.prog 10 #[] w (.bool true):=by
 refine uQ Tryz.func10 rfl Tryz.ntmps10 ?_
 repeat (first|apply gst|(apply gsv;exact rfl;apply qas<;>exact rfl))
 refine SG.val rfl rfl rfl rfl (az rfl LO) ?_
 refine SG.val rfl rfl rfl rfl (az rfl Lj) ?_
 refine SG.call rfl rfl rfl (vs:=[bdv ⟨0,0,0⟩,u4v [10,0,0,0]]) (Evs.of rfl) ((jT w Ei (by decide) (l:=[10,0,0,0]) (by decide)).mono (fun e w1 hh=>?_))
 obtain⟨hk1,bw,q,y,rfl,h1,hB⟩:=hh
 refine⟨_,rfl,?_⟩
 rw[Ee] at h1
 obtain⟨z,m,hK⟩:=KJ hB
 repeat (first|apply gst|(apply gsv;exact rfl;(first|apply qep|apply qmv|apply qas)<;>exact rfl))
 refine CG.ar rfl (by exact ag rfl) rfl ?_
 obtain⟨n,hn⟩:∃n,w.heap.size=n:=⟨_,rfl⟩
 rw[hn] at h1
 clear hB
 repeat (first|apply gst|(apply gsv;exact rfl;apply qmv<;>exact rfl))
 refine CG.loop (X:=Nat×Wl) (fun p=>[(0,.bool false),(1,.pointer (some ⟨bw,0,none⟩)),(15,.int .i64 (p.1:Int))])
  (fun p w'=>p.1≤2∧Kp [] w w'∧iQ w' n 10 bw p.2∧KSt p.1 p.2 y z m) (fun p=>2-p.1) (0,q) ⟨Nat.zero_le _,hk1,h1,hK⟩ (bf.of rfl) ?_
 clear hK h1 hk1
 rintro⟨i,q⟩ w1 ⟨hi,hk1,h1,hK⟩
 simp only at hi h1 hK
 refine CG.to [(0,.bool false),(1,.pointer (some ⟨bw,0,none⟩)),(15,.int .i64 (i:Int))] (bf.of rfl) ?_
 by_cases hlt:i<2
 ·have g1:(i:Int)<2:=by omega
  obtain⟨-,z1,-,-⟩:=bZ h1.blk
  have hNb:=h1.nb
  have niw:=hNb.nin h1.blk (by decide) (by decide)
  have hS:∀x∈q.c.vb::q.pm::aU q.vN,x<w1.heap.size:=fun x hx=>by
   rcases List.mem_cons.1 hx with rfl|hx
   ·exact hNb.blk.lt
   rcases List.mem_cons.1 hx with rfl|hx
   ·exact hNb.map.lt
   exact bS hNb.own x (aC hx)
  repeat (first|apply gst|(apply gsv;exact rfl;apply qls<;>first|exact rfl|(apply dct;first|assumption|omega)))
  refine CG.au rfl (by exact ag rfl) rfl ?_
  repeat (first|apply gst|(apply gsv;exact rfl;(first|apply qmv|apply qas)<;>exact rfl))
  refine CG.As mixed (q.c.vb::q.pm::aU q.vN,10) 16 [0,1,4,5,6,7,8,9,2,3,10,11,12,13,14,15] [(2,gOP w1.heap.size 5 by1 1 (kJ (d1 9) 7) (fun v=>v)),(10,gSg (sgn q.nb (kU (i:Int)) (d1 1)).2.1 (sgn q.nb (kU (i:Int)) (d1 1)).1 w1.heap.size n q.c.vb q.pm q.vN (sgn q.nb (kU (i:Int)) (d1 1)).2.2),(14,gV w1.heap.size 52 13),(15,gP w1.heap.size 52)] (by kernel_rfl) ?_ ?_
  ·intro p hp
   simp only[List.mem_cons,List.mem_nil_iff,or_false] at hp
   rcases hp with rfl|rfl|rfl|rfl
   ·exact xL
   ·exact qy
   ·exact mg
   ·exact mi
  have hwn:n≤w1.heap.size:=h1.ch.w0
  have hnl:q.nb.length≤10:=by rw[hK.nb];exact Ce i
  repeat (apply gxv;exact rfl;exact rfl;apply qmv<;>exact rfl)
  refine bB.val rfl rfl rfl rfl (az rfl (fun W=>bd1 9 W)) ?_
  repeat (apply gxv;exact rfl;exact rfl;(first|apply qnc|apply qmv|apply qlc|apply qfa)<;>first|exact rfl|assumption)
  refine bB.val rfl rfl rfl rfl (az rfl (fun W=>bd1 1 W)) ?_
  skip
  refine bB.call rfl rfl rfl rfl (vs:=[.pointer (some ⟨q.c.vb,0,none⟩),dv (d1 1)]) (Evs.of rfl) (fun W _ _=>jE q.c.vb (d1 1) W) ?_
  refine bB.vj (vs:=[dv (d1 9),.int .i64 7]) (gOP w1.heap.size 5 by1 1 (kJ (d1 9) 7) (fun v=>v)) rfl rfl rfl rfl (Evs.of rfl) (fun W hk hF=>(kY (d1 9) 7 W).mono (fun e W' hh=>?_)) (fun v=>?_)
  ·obtain⟨v,he,ho,hk'⟩:=hh
   obtain⟨a,c,rfl,-⟩:=Bs.own ho
   exact⟨(a,c),he,bV ho hk.size,hk'⟩
  refine bB.val rfl rfl rfl rfl (az rfl (fun W=>Ll W _ _ v.1 _ v.2)) ?_
  refine bB.C8 (vs:=[txv ⟨kU (i:Int),v.1,v.2,none,0⟩,.iface 197 (wrv q.c.vb (d1 1))]) (gSg (sgn q.nb (kU (i:Int)) (d1 1)).2.1 (sgn q.nb (kU (i:Int)) (d1 1)).1 w1.heap.size n q.c.vb q.pm q.vN (sgn q.nb (kU (i:Int)) (d1 1)).2.2) rfl rfl rfl rfl rfl (Evs.of rfl) (fun W hk hF=>?_) ?_ (fun y2=>?_)
  ·have ho:W.ownsRow w1.heap.size 5 1 (.slice v.1 (kJ (d1 9) 7).length v.2) (kJ (d1 9) 7).length (flt by1 (kJ (d1 9) 7)):=hF _ (.head _) (by kernel_rfl)
   obtain⟨a',c',e,hB⟩:=Bs.own ho
   simp only[Value.slice.injEq,true_and] at e
   obtain⟨e1,e2⟩:=e
   rw[←e1,←e2] at hB
   have hx:Tm.In ⟨kU (i:Int),v.1,v.2,none,0⟩ 0 W:=⟨hB,Bs.nil,Or.inl (Ty.own ho),Or.inl (fun h=>absurd rfl h),by show(kJ (d1 9) 7).length≤_;rw[yO];decide,by show 0≤_;exact Nat.zero_le _⟩
   refine(kR (hNb.kp0 hk) (Nat.le_trans hwn hk.size) (by omega) hx (d1 1)).mono (fun e W2 hh=>?_)
   obtain⟨y,v',he,h1,h2,h3,h4,h5,h6,h7⟩:=hh
   exact⟨(y,v'),he,⟨⟨⟨h1,h7⟩,fun g hg=>(h5 g hg).elim Or.inl (fun h=>Or.inr (Nat.le_trans hk.size h))⟩,h2,h3,bV h6 hk.size⟩,h4⟩
  ·intro j hj W1 W2 y hk hp
   refine nX (q:=fun D=>∀y,D.phi y W1→D.phi y W2) (fun _ _=>trivial) (fun p hp hne y hy=>?_) j hj y hp
   simp only[List.mem_cons,List.mem_nil_iff,or_false] at hp
   rcases hp with rfl|rfl|rfl|rfl
   ·exact cQ hy hk (fun b hb hm=>by have h1:=bE hy b hb;have h2:=hS b hm;omega)
   ·exact absurd rfl hne
   ·exact Cj hS hk y hy
   ·exact Ck hS hk y hy
  repeat (apply gxv;exact rfl;exact rfl;(first|apply qmv|apply qxt)<;>exact rfl)
  refine bB.qL rfl rfl rfl rfl rfl (Nat.le_refl _) (fun b3=>?_)
  refine bB.pW (l:=txc y2.1) rfl rfl rfl rfl (by kernel_rfl) (by exact ag rfl) (by exact ag rfl) (aj _) (Nat.le_refl _) (fun W hk hF=>⟨hF _ (.head _) (by kernel_rfl),bD _⟩) ?_ ?_
  ·intro p hp hne y w w' cs g0 g1 g2 g3 g4 g5
   simp only[List.mem_cons,List.not_mem_nil,or_false] at hp
   rcases hp with rfl|rfl|rfl|rfl
   ·exact cQ g5 g3 (bO g5 (by decide) g1)
   ·exact qz g1 g3 y g5
   ·exact mh (aj _) g3 g4 g5
   ·exact absurd rfl hne
  refine bB.tl (fun w2 hk2 hF=>?_)
  obtain⟨lb3,hB3⟩:w1.heap.size≤b3∧Blk w2 b3 (.cells (txc y2.1).toArray 52):=hF _ (.head _)
  obtain⟨⟨⟨hy,-⟩,-⟩,hyI,hN2,-⟩:((y2.1.t=(sgn q.nb (kU (i:Int)) (d1 1)).2.1∧(y2.1.t.body≠[]→∀b off,y2.1.a1=some ⟨b,off,none⟩→b∉aU y2.1.s))∧∀g,y2.2.ownBlock=some g→q.vN.ownBlock=some g∨w1.heap.size≤g)∧y2.1.In 0 w2∧dR w2 n q.c.vb q.pm y2.2 (sgn q.nb (kU (i:Int)) (d1 1)).2.2∧w2.ownsRow w1.heap.size 5 1 y2.1.s y2.1.t.sig.length (flt by1 y2.1.t.sig):=hF _ (.tail _ (.tail _ (.head _)))
  obtain⟨y2,v2⟩:=y2
  simp only at hB3 hy hyI hN2
  clear hF z1
  rw[hK.nb,B2 hlt] at hy hN2
  simp only at hy hN2
  rw[show(gSg (sgn q.nb (kU (i:Int)) (d1 1)).2.1 (sgn q.nb (kU (i:Int)) (d1 1)).1 w1.heap.size n q.c.vb q.pm q.vN (sgn q.nb (kU (i:Int)) (d1 1)).2.2).val (y2,v2)= .tuple #[txv y2,.int .i64 (sgn q.nb (kU (i:Int)) (d1 1)).1] from rfl]
  rw[hK.nb,B2 hlt]
  have h2:=h1.sgn hk2 hN2
  obtain⟨q2,hq2⟩:∃q2,({q with vN:=v2,nb:=kN (i+1)}:Wl)=q2:=⟨_,rfl⟩
  have e1:q2.c=q.c:=by rw[←hq2]
  have e2:q2.ss=q.ss:=by rw[←hq2]
  have e3:q2.bs=q.bs:=by rw[←hq2]
  have e4:q2.nb=kN (i+1):=by rw[←hq2]
  have e5:q2.vs=q.vs:=by rw[←hq2]
  rw[hq2] at h2
  obtain⟨z0,-,-,-⟩:=bZ h2.blk
  have r3:Row w2 b3 0 (txc y2):=Row.all hB3 rfl
  repeat (first|apply gst|(apply gsv;exact rfl;apply qas<;>exact rfl))
  refine CG.tail mixed 8 [0,1,2,3,4,5,6,7] (by kernel_rfl) ?_
  repeat (apply gdv;exact rfl;exact rfl;(first|apply qnc|apply qmv|apply qlc|apply qla|apply qfa|apply qni)<;>first|exact rfl|assumption|(apply dct;first|assumption|omega)|exact List.not_mem_nil|apply aj)
  refine Der.tl (fun w3 hk3 _ _=>?_)
  have h3:=h2.kp0 hk3
  have hq:ay q2.c.ns q2.c.tr.tip=some (z,m):=by rw[e1];exact hK.tip
  have hpool:ey 256 (q2.c.ps.map Em.en):=by rw[e1];exact hK.ok.pool
  have hps:q2.c.ps.map Em.en=kP i:=by rw[e1];exact hK.ps
  have hy3:y2.In n w3:=(hyI.mono (Nat.zero_le n)).kp0 hk3
  obtain⟨k1,k2⟩:=Ef hlt hK.mx hK.mf
  clear z0 r3
  refine SG.call rfl rfl rfl (vs:=[.pointer (some ⟨q2.c.cb,0,none⟩),txv y2]) (Evs.of rfl) ((jC h3.ch h3.nb hpool hy3 hq).mono (fun e w4 hh=>?_))
  obtain⟨rfl,pv',ps',hC4,eps,hk4,-⟩:=hh
  have okq2:iR q2.c 0:=by rw[e1];exact hK.ok
  have ok4:=okq2.sub (pv:=pv') eps
  rw[hps,e4,hy] at eps
  rw[hps,e4,hy]
  have eps:ps'.map Em.en=kP (i+1):=by rw[eps];exact k2
  have k1:oZ (kN (i+1)) (z,m).2 (kP i) (kS i)=0:=k1
  rw[k1]
  refine⟨_,rfl,?_⟩
  have hcnd:Cnd n CT [q2.c.tm,q2.c.nm] w3 (q2.c.pb::aU q2.c.pv):=h3.ch.pool.cnd
  have h4:=h3.chn hk4 hcnd hC4 ⟨rfl,rfl,rfl,rfl⟩ (fun p hp=>Or.inl hp)
  have hy4:y2.In n w4:=hy3.cnd hk4 hcnd (by decide)
  have hB34:Blk w4 b3 (.cells (txc y2).toArray 52):=hcnd.blk hk4 (hB3.kp0 hk3) (by decide)
  obtain⟨q4,hq4⟩:∃q4,({q2 with c:={q2.c with pv:=pv',ps:=ps'}}:Wl)=q4:=⟨_,rfl⟩
  have f1:q4.c={q2.c with pv:=pv',ps:=ps'}:=by rw[←hq4]
  have f2:q4.ss=q.ss:=by rw[←hq4];exact e2
  have f3:q4.bs=q.bs:=by rw[←hq4];exact e3
  have f4:q4.nb=kN (i+1):=by rw[←hq4];exact e4
  have f5:q4.vs=q.vs:=by rw[←hq4];exact e5
  rw[hq4] at h4
  repeat (first|apply gst|(apply gsv;exact rfl;(first|apply qpk|apply qni)<;>first|exact rfl|(apply dct;first|assumption|omega)))
  refine CG.ar rfl (by exact ag rfl) rfl ?_
  obtain⟨-,-,z2,-⟩:=bZ h4.blk
  have r5:Row w4 b3 0 (txc y2):=Row.all hB34 rfl
  have hSl:∀z∈aU q4.vs,z<w4.heap.size:=fun z hz=>bS h4.sg z (aC hz)
  have s12:=hk2.size
  have n3:b3∉aU q4.vs:=fun hm=>by
   rw[f5] at hm
   have h1:=bS h1.sg b3 (aC hm)
   omega
  have nw:bw∉aU q4.vs:=fun hm=>bO h4.sg (by decide) h4.blk bw (aC hm) (List.mem_singleton.2 rfl)
  have hsl2:q4.ss.length≤10:=by
   rw[f2]
   have:=congrArg List.length hK.ss
   rw[List.length_map] at this
   rw[this,List.length_take]
   exact Nat.le_trans (Nat.min_le_left _ _) (by omega)
  have hn4:=h4.ch.w0
  repeat apply gst
  refine CG.dC mixed 8 [0,1,2,3,4,5,6,7] [6,7] (aU q4.vs) (fun W=>W.ownsRow n 52 13 q4.vs q4.ss.length (flt txc q4.ss)) (by kernel_rfl) h4.sg (fun _ _ hk h=>aJ h hk) ?_
  repeat (apply gdv;exact rfl;exact rfl;(first|apply qnc|apply qmv|apply qlc|apply qla|apply qfa)<;>first|exact rfl|assumption|apply aj)
  refine Der.jd (cs:=(txc y2).toArray) (E:=52) rfl rfl rfl rfl rfl (fun W=>Bh y2 W) hSl (fun W W' hk h=>trivial) (fun _ _ hk h=>aJ h hk) (fun bn=>?_)
  apply Der.iP (P:=Tryz.prog) (t:=41) (base:=n) (e:=52) (i:=Tryz.t52) (f:=ty.i52) (v:=q4.vs) (nn:=q4.ss.length) (xs:=flt txc q4.ss) (b:=bn) (off:=0) (m:=1) (c:=1) (news:=txc y2)
  iterate 4 exact rfl
  iterate 2 exact ag rfl
  iterate 3 exact rfl
  ·exact fun W hk hF=>Row.all hF.2.2 rfl
  ·rw[aj];rfl
  ·exact bD _
  ·simp only[maxLen];omega
  ·show(q4.ss.length+1)*80≤_;omega
  ·omega
  ·exact fun _ h=>h
  ·exact fun W W' hk hF=>⟨trivial,hF.2.1,hF.2.2.kp hk (fun hm=>by have:=hSl _ hm;have:=hF.2.1;omega)⟩
  intro v7
  refine Der.tl (fun w5 hk5 hF ho7=>?_)
  obtain⟨-,hv7⟩:=hF
  have ho7:w5.ownsRow n 52 13 v7 (q4.ss++[y2]).length (flt txc (q4.ss++[y2])):=by
   rw[bW,fb,List.length_append]
   exact ho7
  obtain⟨a7,c7,rfl⟩:=fV ho7
  have hbw5:=h4.blk.kp hk5 nw
  clear z2 r5
  repeat (apply gsv;exact rfl;(first|apply qnc|apply qfa)<;>exact rfl)
  refine SG.bI [.pointer (some ⟨q4.c.cb,0,none⟩),.pointer (some ⟨q4.c.vb,0,none⟩)] [q4.vs] [q4.vb] rfl rfl (by exact ag rfl) (by exact ag rfl) hbw5 rfl rfl rfl rfl rfl (fun w6 hk6 hB6=>?_)
  have h6:=h4.put hk5 ho7 hv7 hy4 hk6 hB6
  repeat (first|apply gst|(apply gsv;exact rfl;(first|apply qmv|apply qad)<;>first|exact rfl|(apply Ar.mk;omega)))
  refine NG.round (i+1,{q4 with vs:= .slice a7 (q4.ss++[y2]).length c7,ss:=q4.ss++[y2]}) (bf.of rfl) ⟨hlt,?_,h6,?_⟩ (by simp only;omega)
  ·have hz:∀z∈q.c.vb::q.pm::aU q.vN,z∈([]:List Nat)∨w.heap.size≤z:=fun x hx=>by
    rw[hn]
    rcases List.mem_cons.1 hx with rfl|hx
    ·exact Or.inr hNb.bp
    rcases List.mem_cons.1 hx with rfl|hx
    ·exact Or.inr hNb.pp
    exact Or.inr (bE hNb.own x (aC hx))
   refine(((((hk1.ai hk2 hz).trans hk3).ai hk4 (fun x hx=>Or.inr (by rw[hn];exact(hcnd x hx).1))).ai hk5 (fun x hx=>Or.inr (by rw[hn];exact bE h4.sg x (aC hx)))).ai hk6 (bh (by rw[hn];exact h4.bn)))
  ·refine⟨?_,?_,?_,?_,?_,?_,hK.yb,hK.mx,hK.mf,hK.mt,?_⟩
   ·show q4.c.tr=_
    rw[f1]
    show q2.c.tr=_
    rw[e1]
    exact hK.tr
   ·show q4.c.ns=_
    rw[f1]
    show q2.c.ns=_
    rw[e1]
    exact hK.ns
   ·show q4.c.ps.map Em.en=_
    rw[f1]
    exact eps
   ·show q4.nb=_
    exact f4
   ·show(q4.ss++[y2]).map (·.t)=_
    rw[f2,List.map_append,hK.ss]
    show _++[y2.t]=_
    rw[hy]
    match i,hlt with
    |0,_=>rfl
    |1,_=>rfl
   ·show q4.bs=_
    rw[f3]
    exact hK.bs
   ·show iR q4.c 0
    rw[f1]
    exact ok4
 ·have g1:¬(i:Int)<2:=by omega
  have e2:i=2:=by omega
  subst e2
  repeat (first|apply gst|(apply gsv;exact rfl;apply qls<;>first|exact rfl|(apply dcf;first|assumption|omega)))
  refine CG.ar rfl (by exact ag rfl) rfl ?_
  obtain⟨z0,-,-,-⟩:=bZ h1.blk
  have hfst:aL y.b=bG:=zg hK.yb
  have hrt:aS y.b=0:=by rw[hK.yb];exact uC
  have hxh:m.x.ht=0:=by rw[hK.mx];rfl
  have htn:m.t.n=0:=by rw[hK.mt];rfl
  have hkm:=B8 hK.mx hK.mf hK.ps
  have hwn:=h1.ch.w0
  repeat apply gst
  refine CG.free mixed 13 [0,1,2,3,4,5,6,7,8,9,10,11,12] [(7,gMb),(11,gV w1.heap.size 50 18),(12,gP w1.heap.size 50)] (by kernel_rfl) ?_ ?_
  ·intro p hp
   simp only[List.mem_cons,List.mem_nil_iff,or_false] at hp
   rcases hp with rfl|rfl|rfl
   ·exact xN
   ·exact mg
   ·exact mi
  repeat (apply gxv;exact rfl;exact rfl;(first|apply qnc|apply qmv|apply qlc|apply qfa)<;>first|exact rfl|assumption|exact List.not_mem_nil)
  refine bB.call rfl rfl rfl rfl (vs:=[.pointer (some ⟨bw,0,none⟩)]) (v:=dv bG) (Evs.of rfl) (fun W hk _=>by
   have:=pc (h1.kp0 hk) hK.bs hrt
   rw[hfst] at this
   exact this) ?_
  refine bB.val rfl rfl rfl rfl (az rfl (fun W=>bd1 8 W)) ?_
  refine bB.vj (vs:=[.pointer (some ⟨q.c.cb,0,none⟩),dv bG,dv (d1 8),.slice none 0 0]) gMb rfl rfl rfl rfl (Evs.of rfl) (fun W hk hF=>(nQ (h1.kp0 hk).ch (by decide) hK.ok.pool bG (d1 8) (q:=(z,m)) (by rw[hK.ns];exact if_pos rfl) ⟨by rw[hxh];decide,by rw[hxh];decide⟩ (by rw[htn];decide) (a0:=none) (c0:=0) (ls:=[]) Sl.nil (Nat.zero_le _)).mono (fun e W' hh=>?_)) (fun y3=>?_)
  ·obtain⟨y3,he,hb,hyI,-,hk'⟩:=hh
   exact⟨y3,he,⟨hb.trans hkm,hyI⟩,hk'⟩
  repeat (apply gxv;exact rfl;exact rfl;(first|apply qmv|apply qxt)<;>exact rfl)
  refine bB.qL rfl rfl rfl rfl rfl (Nat.le_refl _) (fun b5=>?_)
  refine bB.pW (l:=bkc y3) rfl rfl rfl rfl (by kernel_rfl) (by exact ag rfl) (by exact ag rfl) (aB _) (Nat.le_refl _) (fun W hk hF=>⟨hF _ (.head _) (by kernel_rfl),cJ _⟩) ?_ ?_
  ·intro p hp hne y w w' cs g0 g1 g2 g3 g4 g5
   simp only[List.mem_cons,List.not_mem_nil,or_false] at hp
   rcases hp with rfl|rfl|rfl
   ·exact⟨g5.1,g5.2.wr g3 (Nat.zero_le _) g1⟩
   ·exact mh (aB _) g3 g4 g5
   ·exact absurd rfl hne
  refine bB.tl (fun w2 hk2 hF=>?_)
  obtain⟨lb5,hB5⟩:w1.heap.size≤b5∧Blk w2 b5 (.cells (bkc y3).toArray 50):=hF _ (.head _)
  obtain⟨hyb,hyI⟩:Bm.b y3=kB∧Bm.In y3 0 w2:=hF _ (.tail _ (.tail _ (.head _)))
  clear hF z0
  have h2:=h1.kp0 hk2
  obtain⟨z0,-,-,-⟩:=bZ h2.blk
  have r5:Row w2 b5 0 (bkc y3):=Row.all hB5 rfl
  repeat (first|apply gst|(apply gsv;exact rfl;apply qas<;>exact rfl))
  refine CG.tail mixed 8 [0,1,2,3,4,5,6,7] (by kernel_rfl) ?_
  repeat (apply gdv;exact rfl;exact rfl;(first|apply qnc|apply qmv|apply qlc|apply qla|apply qfa|apply qni)<;>first|exact rfl|assumption|(apply dct;first|assumption|omega)|exact List.not_mem_nil|apply aB)
  refine Der.tl (fun w3 hk3 _ _=>?_)
  have h3:=h2.kp0 hk3
  have l1:=h3.ch.tree.map.lt
  have l2:=h3.ch.map.lt
  have l3:=h3.nb.map.lt
  have hy3:Bm.In y3 n w3:=(Bm.In.up hyI (Nat.zero_le n)).kp0 hk3
  have haz:adZ q.nb q.c (Bm.b y3)=0:=by rw[hyb,hK.nb];exact Ej hK.ns hK.tr hK.mx hK.mf hK.mt
  clear z0 r5
  refine SG.call rfl rfl rfl (vs:=[.pointer (some ⟨q.c.cb,0,none⟩),bkv y3]) (Evs.of rfl) ((oB h3.ch hK.ok (by decide) (by decide) (fun z hz=>by
   simp only[List.mem_cons,List.mem_nil_iff,or_false] at hz
   rcases hz with rfl|rfl|rfl
   ·exact l1
   ·exact l2
   ·exact l3) h3.nb hy3).mono (fun e w4 hh=>?_))
  obtain⟨rfl,hh⟩:=hh
  refine⟨_,rfl,?_⟩
  obtain⟨-,hA⟩:=hh.elim (fun g=>absurd haz g.1) id
  obtain⟨pv',ps',z2,qn,hC4,hqb,hr,hps,hk4,-,hfr⟩:=hA
  have h4:=h3.chn hk4 h3.ch.Bg hC4 ⟨rfl,rfl,rfl,rfl⟩ (fun p hp=>(mI hp).elim (fun e=>Or.inr (by rw[e];exact hfr)) Or.inl)
  have ok4:=hK.ok.added haz (pv:=pv') hqb hr hps
  rw[haz]
  repeat (first|apply gst|(apply gsv;exact rfl;(first|apply qpk|apply qni)<;>first|exact rfl|(apply dct;first|assumption|omega)))
  refine CG.ar rfl (by exact ag rfl) rfl ?_
  rw[hyb] at hr hqb h4 ok4
  obtain⟨kqf,kqe⟩:=KM hK hr
  rw[hK.ns,hK.tr,FC] at h4 ok4
  obtain⟨c4,hc4⟩:∃c4,({q.c with pv:=pv',ps:=ps',tr:=(Tr.new bG 0).put (aL kB) bG,ns:=cC [(bG,z,m)] (aL kB) (z2,qn)}:Cm)=c4:=⟨_,rfl⟩
  have g1:c4.tr=(Tr.new bG 0).put (aL kB) bG:=by rw[←hc4]
  have g2:c4.ns=cC [(bG,z,m)] (aL kB) (z2,qn):=by rw[←hc4]
  have h4:iQ w4 n 10 bw {q with c:=c4}:=by rw[←hc4];exact h4
  have ok4:iR c4 (0+1):=by rw[←hc4];exact ok4
  obtain⟨q4,hq4⟩:∃q4,({q with c:=c4}:Wl)=q4:=⟨_,rfl⟩
  have f1:q4.c=c4:=by rw[←hq4]
  have f2:q4.ss=q.ss:=by rw[←hq4]
  rw[hq4] at h4
  obtain⟨xa,xb,hss,hxb⟩:=Ed (l:=q4.ss) (by rw[f2];exact hK.ss)
  have hmm:ay q4.c.ns q4.c.tr.tip=some (z2,qn):=by rw[f1,g1,g2,B1,bg,if_pos rfl]
  have hfind:fe q4.c.ns (aM xb.t) (q4.c.tr.line q4.c.tr.tip)=some (1,21):=by
   rw[f1,g1,uB,hxb]
   exact B9 g2 hK.mx hqb kqe
  have hln:∀d∈q4.c.tr.line q4.c.tr.tip,∃q,ay q4.c.ns d=some q:=fun d hd=>by
   rw[f1,g1,uB] at hd
   rw[f1,g2]
   simp only[List.mem_cons,List.mem_nil_iff,or_false] at hd
   rcases hd with rfl|rfl
   ·exact⟨(z,m),by rw[bg,if_neg uD];exact if_pos rfl⟩
   ·exact⟨(z2,qn),by rw[bg,if_pos rfl]⟩
  have hll:(q4.c.tr.line q4.c.tr.tip).length≤100000:=by
   rw[f1,g1,uB]
   decide
  have wf4:q4.c.tr.WF:=by rw[f1];exact ok4.wf
  clear hr hqb hps hfr hc4 g1 g2 ok4 hB5
  obtain⟨as4,cs4,ev4,hcs4,hS4⟩:=Sl.own aj h4.sg rfl
  have l2s:1<q4.ss.length:=by rw[hss];exact Nat.lt_succ_self 1
  obtain⟨ba,off,rfl,hrow⟩:=hS4.at l2s
  have e1:q4.ss[1]=xb:=by simp only[hss];rfl
  rw[e1] at hrow
  have hrow:Row w4 ba (off+(1:Int).toNat*13) (txc xb):=hrow
  have hl2:q4.ss.length=2:=by rw[hss];rfl
  obtain⟨z0,-,z2',-⟩:=bZ h4.blk
  rw[ev4,hl2] at z2'
  have hxI:xb.In n w4:=h4.si xb (by rw[hss];simp)
  repeat apply gst
  refine CG.gD mixed [0,1,2,3,4,5,6,7,8,9,10,11,12,13,14,17] [(15,16,7,.tmp 89)] (by kernel_rfl) (by kernel_rfl) ?_
  repeat (apply gdv;exact rfl;exact rfl;(first|apply qnc|apply qmv|apply qlc|apply qla|apply qfa|apply qic)<;>first|exact rfl|(apply Ar.mk;omega)|assumption|exact List.not_mem_nil|apply aj)
  refine Der.call rfl rfl rfl (vs:=[txv xb]) (Evs.of rfl) (fun W hk _=>eJ (hxI.kp0 hk)) ?_
  refine Der.call rfl rfl rfl (v:= .tuple #[.agg (dnc (1,21)).toArray,.bool true]) (vs:=[.pointer (some ⟨q4.c.cb,0,none⟩),dv (aM xb.t)]) (Evs.of rfl) (fun W hk _=>by
   have:=lE (h4.kp0 hk).ch wf4 hll hln (aM xb.t)
   rw[hfind] at this
   exact this) ?_
  repeat (apply gdv;exact rfl;exact rfl;(first|apply qmv|apply qas|apply qxt)<;>exact rfl)
  refine Der.one (iw.of (by rfl) rfl rfl rfl (by exact ag rfl) (by rfl) (by rfl) (by rfl)) (fun b7 w5 hk5 hb7 hB7=>?_)
  have h5:=h4.kp0 hk5
  clear z0 z2' hrow
  obtain⟨z0,-,-,-⟩:=bZ h5.blk
  repeat (first|apply gst|(apply gsv;exact rfl;(first|apply qnc|apply qmv|apply qlc|apply qfa)<;>first|exact rfl|assumption|exact List.not_mem_nil))
  refine SG.call rfl rfl rfl (vs:=[.pointer (some ⟨q4.c.cb,0,none⟩)]) (Evs.of rfl) ((j6 h5.ch hmm).mono (fun e w6 hh=>?_))
  obtain⟨bt,bm,mk,rfl,hbk,hbi,-,-,hk6⟩:=hh
  refine⟨_,rfl,?_⟩
  clear z0
  have hB76:=hB7.kp0 hk6
  have r0:Row w6 b7 0 [.int .i64 1]:=Row.of hB76 [] [.int .i64 21] rfl rfl
  have r1:Row w6 b7 1 [.int .i64 21]:=Row.of hB76 [.int .i64 1] [] rfl rfl
  have hbf:bal mk=kf2:=hbi.eq.trans kqf
  have b1:∀{W:World},Kp [] w6 W→Ret Tryz.prog 19 #[.pointer (some ⟨bt,0,none⟩),dv (d1 1)] W (acv (sI (d1 1) (kf2 (d1 1)))):=fun hk=>by
   have:=iq (hbk.kp0 hk) (d1 1)
   rw[hbf] at this
   exact this
  have b8:∀{W:World},Kp [] w6 W→Ret Tryz.prog 19 #[.pointer (some ⟨bt,0,none⟩),dv (d1 8)] W (acv (sI (d1 8) (kf2 (d1 8)))):=fun hk=>by
   have:=iq (hbk.kp0 hk) (d1 8)
   rw[hbf] at this
   exact this
  repeat (first|apply gst|(apply gsv;exact rfl;(first|apply qnp|apply qmv|apply qas|apply qlc|apply qfa|apply qpk|apply qei)<;>first|exact rfl|assumption|(apply dct;first|assumption|omega)|exact List.not_mem_nil))
  refine SG.val rfl rfl rfl rfl (az rfl (fun W=>bd1 1 W)) ?_
  refine SG.ret rfl rfl rfl (vs:=[.pointer (some ⟨bt,0,none⟩),dv (d1 1)]) (Evs.of rfl) (b1 (Kp.refl _ _)) (fun w7 hk7=>?_)
  refine SG.val rfl rfl rfl rfl (FH rfl) ?_
  rw[KP]
  repeat (apply gsv;exact rfl;(first|apply qmv|apply qpk|apply qei)<;>first|exact rfl|(apply dct;first|assumption|omega))
  refine SG.val rfl rfl rfl rfl (az rfl (fun W=>bd1 8 W)) ?_
  refine SG.ret rfl rfl rfl (vs:=[.pointer (some ⟨bt,0,none⟩),dv (d1 8)]) (Evs.of rfl) (b8 hk7) (fun w8 hk8=>?_)
  refine SG.val rfl rfl rfl rfl (FH rfl) ?_
  rw[KO]
  repeat (first|apply gst|(apply gsv;exact rfl;(first|apply qas|apply qpk|apply qei)<;>first|exact rfl|(apply dct;first|assumption|omega)))
  refine aV (Or.inl rfl) Tryz.results10 (aF.tmp rfl) ?_
  have hcn:Cnd n CT [q.c.tm,q.c.nm] w3 (chS q.c):=h3.ch.Bg
  exact⟨rfl,(((((((hk1.trans hk2).trans hk3).ai hk4 (fun x hx=>Or.inr (by rw[hn];exact(hcn x hx).1))).trans hk5).trans hk6).trans hk7).trans hk8)⟩
end
section
structure Hi(nb:Nbk)(c:Cm)(f0:Fb):Prop where
 ht:∀d q,ay c.ns d=some q→q.2.x.ht=(c.tr.ht d:Int)
 fst:∃q,ay c.ns c.tr.first=some q∧q.2.x.b=(bK cF).b∧q.2.f=f0∧q.2.t=t00∧q.2.es=[]
 first:c.tr.first=bG
 up:∀d q,ay c.ns d=some q→d≠c.tr.first→aL q.2.x.b=d∧c.tr.par d=q.2.x.b.par∧aS q.2.x.b=0∧∃p,ay c.ns q.2.x.b.par=some p∧mA q.2.x.b p.2.x.b=0∧fQ nb q.2.x.b.ht q.2.x.b.mkr p.2.f p.2.t [] q.2.x.b.txs=(0,q.2.f,q.2.t,q.2.es)
theorem oz{t:Tr}(wf:t.WF):∀(k:Nat) {x:Dg},t.has x=true→k≤t.ht x→∀d∈t.cX k x,t.has d=true
 |0,x,hx,_,d,hd=>by
  rw[Tr.cX,List.mem_singleton] at hd
  rw[hd]
  exact hx
 |k+1,x,hx,hk,d,hd=>by
  have h1:=wf.anc 1 hx (by omega)
  rcases List.mem_cons.1 hd with rfl|hd
  ·exact hx
  ·exact oz wf k h1.1 (by have:=h1.2;show k≤t.ht (t.anc 1 x);omega) d hd
theorem xA{t:Tr}(wf:t.WF){x:Dg}(hx:t.has x=true){d:Dg}(hd:d∈t.line x):t.has d=true:=by
 unfold Tr.line at hd
 rw[if_pos hx,List.mem_reverse] at hd
 exact oz wf _ hx (Nat.le_refl _) d hd
theorem km{ns:List (Dg×Nat×Nm)}{d x:Dg}{v:Nat×Nm}(h:ay ns d=none){q:Nat×Nm}(hq:ay ns x=some q):ay (cC ns d v) x=some q:=by
 rw[bg,if_neg (fun e=>by rw[e,hq] at h;cases h),hq]
theorem A3{t:Tr}{x p:Dg}(h:t.addE x p=0):t.add x p=t.put x p:=if_pos h
theorem tF{nb nb':Nbk}(hle:oJ nb nb'){h:Int}{mk:Dg}:∀(l:List Tx) {f f':Fb} {t t':Tl} {es es':List Int},fQ nb h mk f t es l=(0,f',t',es')→fQ nb' h mk f t es l=(0,f',t',es')
 |[],f,f',t,t',es,es',hr=>hr
 |x::l,f,f',t,t',es,es',hr=>by
  by_cases h1:fZ nb x=0
  ·by_cases h2:fR f x=0
   ·rw[lW h1 h2] at hr
    rw[lW (hle x h1) h2]
    exact tF hle l hr
   ·have:=lV (nb:=nb) (h:=h) (mk:=mk) (t:=t) (es:=es) (l:=l) h1 h2
    rw[hr] at this
    exact absurd this.symm h2
  ·have:=lU (nb:=nb) (h:=h) (mk:=mk) (f:=f) (t:=t) (es:=es) (l:=l) h1
   rw[hr] at this
   exact absurd this.symm h1
theorem Hi.le{nb nb':Nbk}{c:Cm}{f0:Fb}(h:Hi nb c f0)(hle:oJ nb nb'):Hi nb' c f0:=⟨h.ht,h.fst,h.first,fun d q hq hd=>by
 obtain⟨u1,u2,u3,p,u4,u5,u6⟩:=h.up d q hq hd
 exact⟨u1,u2,u3,p,u4,u5,tF hle _ u6⟩⟩
theorem Hi.DW{nb:Nbk}{c c':Cm}{f0:Fb}{H:Int}(h:Hi nb c f0)(ok:iR c H)(s:zl nb c c'):Hi nb c' f0:=by
 obtain⟨-,⟨e1,e2⟩|⟨b,z,qn,hz,e1,e2,hb,p,hp,hr⟩⟩:=s
 ·obtain⟨h1,h2,h3,h4⟩:=h
  exact⟨by rw[e1,e2];exact h1,by rw[e1,e2];exact h2,by rw[e1];exact h3,by rw[e1,e2];exact h4⟩
 obtain⟨g1,g2,q0,g3,g4,g5⟩:=vO hz
 rw[hp] at g3
 obtain rfl:=Option.some.inj g3
 obtain⟨a1,a2,a3,-⟩:=yp g5
 rw[A3 g5] at e1
 have hne:∀{x:Dg} {q:Nat×Nm},ay c.ns x=some q→aL b≠x:=fun hq e=>by rw[←e,g2] at hq;cases hq
 have hht:=vf g4
 have epar:p.2.x.ht=(c.tr.ht b.par:Int):=h.ht _ _ hp
 have ehb:qn.x.ht=b.ht:=by rw[←hb];rfl
 have eph:p.2.x.b.ht=p.2.x.ht:=rfl
 obtain⟨qf,f1,f2⟩:=h.fst
 have hfirst:c'.tr.first=c.tr.first:=by rw[e1];rfl
 refine⟨fun d q hq=>?_,⟨qf,by rw[hfirst,e2];exact km g2 f1,f2⟩,by rw[hfirst];exact h.first,fun d q hq hd=>?_⟩
 ·rw[e2,bg] at hq
  rw[e1]
  by_cases e:aL b=d
  ·rw[if_pos e] at hq
   obtain rfl:=Option.some.inj hq
   rw[←e,dF]
   show qn.x.ht=_
   omega
  ·rw[if_neg e] at hq
   rw[bJ _ e]
   exact h.ht d q hq
 ·rw[hfirst] at hd
  rw[e2,bg] at hq
  by_cases e:aL b=d
  ·rw[if_pos e] at hq
   obtain rfl:=Option.some.inj hq
   show aL qn.x.b=d∧c'.tr.par d=qn.x.b.par∧aS qn.x.b=0∧∃p,ay c'.ns qn.x.b.par=some p∧mA qn.x.b p.2.x.b=0∧fQ nb qn.x.b.ht qn.x.b.mkr p.2.f p.2.t [] qn.x.b.txs=(0,qn.f,qn.t,qn.es)
   rw[hb]
   refine⟨e,?_,g1,p,by rw[e2];exact km g2 hp,g4,hr⟩
   rw[e1,←e]
   exact eU _ _ _
  ·rw[if_neg e] at hq
   obtain⟨u1,u2,u3,p',u4,u5⟩:=h.up d q hq hd
   exact⟨u1,by rw[e1,eS _ e];exact u2,u3,p',by rw[e2];exact km g2 u4,u5⟩
theorem Hi.step{nb nb':Nbk}{c c':Cm}{f0:Fb}{H:Int}(h:Hi nb c f0)(ok:iR c H)(s:zl nb c c')(hle:oJ nb nb'):Hi nb' c' f0:=(h.DW ok s).le hle
theorem Di{b:Bd}{l:List Nat}{q:Wl}{y:Bm}(h:DN b l q y)(nb:Nbk):Hi nb q.c (bal (jK [] (acU l 4))):=by
 obtain⟨z,m,hns,hmx,hmf,hmt,hme⟩:=h.ns
 have hl:∀d,ay q.c.ns d=if bG=d then some (z,m) else none:=fun d=>by
  rw[hns]
  rfl
 have hfst:q.c.tr.first=bG:=by rw[h.tr];rfl
 refine⟨fun d x hx=>?_,⟨(z,m),by rw[hfst,hl,if_pos rfl],by show m.x.b=_;rw[hmx],hmf,hmt,hme⟩,hfst,fun d x hx hd=>?_⟩
 ·rw[hl] at hx
  by_cases e:bG=d
  ·rw[if_pos e] at hx
   obtain rfl:=Option.some.inj hx
   have h0:q.c.tr.ht d=0:=by rw[←e,←hfst,h.tr];exact(lh bG _).h0
   rw[h0]
   show m.x.ht=0
   rw[hmx]
   rfl
  ·rw[if_neg e] at hx;cases hx
 ·rw[hl,if_neg (fun e=>hd (by rw[hfst,e]))] at hx
  cases hx
end
section
theorem pa(f:Fb)(a b:Dg)(n:Int)(k:Dg):((mvf f a b n) k).nonce=(f k).nonce:=by
 unfold mvf
 split
 ·unfold upF
  by_cases h1:b=k
  ·rw[if_pos h1,h1]
  ·rw[if_neg h1]
   by_cases h2:a=k
   ·rw[if_pos h2,h2]
   ·rw[if_neg h2]
 ·rfl
theorem yj(f:Fb)(t:Tx)(k:Dg):((sD f t) k).nonce=(f k).nonce:=by
 unfold sD
 split
 ·split
  ·rfl
  ·exact pa _ _ _ _ _
 ·split
  ·unfold tdf
   cases t.body with
   |nil=>rfl
   |cons u l=>exact pa _ _ _ _ _
  ·rfl
def dZ(k:Dg)(l:List Tx):Nat:=l.countP (fun t=>decide (t.frm=k))
theorem fg(k:Dg)(a b:List Tx):dZ k (a++b)=dZ k a+dZ k b:=List.countP_append
theorem ik(k:Dg)(x:Tx)(l:List Tx):dZ k (x::l)=(if x.frm=k then 1 else 0)+dZ k l:=by
 unfold dZ
 rw[List.countP_cons]
 by_cases h:x.frm=k
 ·simp[h];omega
 ·simp[h]
theorem x8(k:Dg)(x:Tx):dZ k [x]=if x.frm=k then 1 else 0:=by rw[ik];rfl
theorem zJ{f:Fb}{t:Tx}(mk:Dg)(h:fR f t=0):(f t.frm).nonce=t.non∧∀k,((dof f mk t) k).nonce=(f k).nonce+((if t.frm=k then 1 else 0:Nat):Int):=by
 have hu:usz f t.frm t.non=0:=by
  unfold fR at h
  split at h
  ·rename_i g;exact absurd h g
  ·rename_i g;exact Classical.byContradiction g
 have he:(f t.frm).nonce=t.non:=by
  unfold usz at hu
  split at hu
  ·cases hu
  ·split at hu
   ·cases hu
   ·omega
 refine⟨he,fun k=>?_⟩
 unfold dof
 rw[if_pos h,yj]
 unfold kZ
 rw[pa]
 unfold usf
 rw[if_pos hu]
 unfold upF
 by_cases hk:t.frm=k
 ·rw[if_pos hk,if_pos hk,hk];rfl
 ·rw[if_neg hk,if_neg hk];simp
def vQ(g:Dg→Int):List Tx→Prop
 |[]=>True
 |x::l=>x.non=g x.frm∧vQ (fun k=>g k+((if x.frm=k then 1 else 0:Nat):Int)) l
theorem jm:∀(a:List Tx) {g:Dg→Int} {b:List Tx},vQ g (a++b)↔vQ g a∧vQ (fun k=>g k+(dZ k a:Int)) b
 |[],g,b=>by
  have:(fun k=>g k+((dZ k []:Nat):Int))=g:=funext (fun k=>by show g k+0=g k;omega)
  rw[this]
  exact⟨fun h=>⟨trivial,h⟩,fun h=>h.2⟩
 |x::l,g,b=>by
  show(x.non=g x.frm∧vQ _ (l++b))↔(x.non=g x.frm∧vQ _ l)∧_
  rw[jm l,and_assoc]
  have:(fun k=>(fun k=>g k+((if x.frm=k then 1 else 0:Nat):Int)) k+(dZ k l:Int))=fun k=>g k+(dZ k (x::l):Int):=funext (fun k=>by simp only[ik];omega)
  rw[this]
theorem p9{nb:Nbk}{h:Int}{mk:Dg}:∀(l:List Tx) {f f':Fb} {t t':Tl} {es es':List Int},fQ nb h mk f t es l=(0,f',t',es')→vQ (fun k=>(f k).nonce) l∧∀k,(f' k).nonce=(f k).nonce+(dZ k l:Int)
 |[],f,f',t,t',es,es',hr=>by
  rw[qa] at hr
  cases hr
  exact⟨trivial,fun k=>by show _=_+0;omega⟩
 |x::l,f,f',t,t',es,es',hr=>by
  by_cases h1:fZ nb x=0
  ·by_cases h2:fR f x=0
   ·rw[lW h1 h2] at hr
    obtain⟨g1,g2⟩:=p9 l hr
    obtain⟨p1,p2⟩:=zJ mk h2
    refine⟨⟨p1.symm,?_⟩,fun k=>?_⟩
    ·have:(fun k=>(dof f mk x k).nonce)=fun k=>(fun k=>(f k).nonce) k+((if x.frm=k then 1 else 0:Nat):Int):=funext p2
     rw[←this]
     exact g1
    ·rw[g2,p2,ik]
     omega
   ·have:=lV (nb:=nb) (h:=h) (mk:=mk) (t:=t) (es:=es) (l:=l) h1 h2
    rw[hr] at this
    exact absurd this.symm h2
  ·have:=lU (nb:=nb) (h:=h) (mk:=mk) (f:=f) (t:=t) (es:=es) (l:=l) h1
   rw[hr] at this
   exact absurd this.symm h1
def lnT(ns:List (Dg×Nat×Nm))(l:List Dg):List Tx:=l.flatMap (fun d=>(sK ns d).txs)
theorem o9{ns:List (Dg×Nat×Nm)}{d:Dg}{q:Nat×Nm}(h:ay ns d=some q):sK ns d=q.2.x.b:=by
 unfold sK
 rw[h]
 rfl
theorem xz{c:Cm}{f0:Fb}{H:Int}{nb:Nbk}(hi:Hi nb c f0)(ok:iR c H)(h0:∀k,(f0 k).nonce=0):∀(m:Nat) {d:Dg} {q:Nat×Nm},c.tr.ht d=m→ay c.ns d=some q→vQ (fun _=>0) (lnT c.ns (c.tr.line d))∧∀k,(q.2.f k).nonce=(dZ k (lnT c.ns (c.tr.line d)):Int):=by
 intro m
 induction m with
 |zero=>
  intro d q hd hq
  have hh:c.tr.has d=true:=by rw[ok.has,hq];rfl
  obtain rfl:=ok.wf.js hh hd
  obtain⟨qf,e1,e2,e3,-,-⟩:=hi.fst
  rw[hq] at e1
  obtain rfl:=Option.some.inj e1
  have el:lnT c.ns (c.tr.line c.tr.first)=[]:=by
   rw[ok.wf.lq]
   unfold lnT
   rw[List.flatMap_cons,o9 hq,e2]
   rfl
  rw[el]
  exact⟨trivial,fun k=>by rw[e3,h0];rfl⟩
 |succ m ih=>
  intro d q hd hq
  have hh:c.tr.has d=true:=by rw[ok.has,hq];rfl
  have hne:d≠c.tr.first:=fun e=>by rw[e,ok.wf.h0] at hd;cases hd
  obtain⟨u1,u2,u3,p,u4,-,u5⟩:=hi.up d q hq hne
  have hup:=(ok.wf.up d hh hne).2
  rw[u2] at hup
  obtain⟨i1,i2⟩:=ih (by omega) u4
  obtain⟨r1,r2⟩:=p9 _ u5
  have el:lnT c.ns (c.tr.line d)=lnT c.ns (c.tr.line q.2.x.b.par)++q.2.x.b.txs:=by
   rw[ok.wf.uq hh hne,u2]
   unfold lnT
   rw[List.flatMap_append,List.flatMap_cons,List.flatMap_nil,List.append_nil,o9 hq]
  rw[el]
  refine⟨(jm _).2 ⟨i1,?_⟩,fun k=>?_⟩
  ·have:(fun k=>(fun _:Dg=>(0:Int)) k+(dZ k (lnT c.ns (c.tr.line q.2.x.b.par)):Int))=fun k=>(p.2.f k).nonce:=funext (fun k=>by rw[i2 k];simp)
   rw[this]
   exact r1
  ·rw[r2,i2,fg]
   omega
theorem qc:∀(l:List Ac) (m:Bk),(∀x∈l,x.nonce=0)→(∀k,(bal m k).nonce=0)→∀k,(bal (jK m l) k).nonce=0
 |[],m,_,h=>h
 |x::l,m,hl,h=>qc l _ (fun y hy=>hl y (List.mem_cons_of_mem _ hy)) (fun k=>by
  rw[qq]
  unfold upF
  split
  ·exact hl x List.mem_cons_self
  ·exact h k)
theorem AQ(l:List Nat)(k:Dg):(bal (jK [] (acU l 4)) k).nonce=0:=qc _ _ (fun x hx=>by
 unfold acU at hx
 obtain⟨j,-,rfl⟩:=List.mem_map.1 hx
 rfl) (fun k=>rfl) k
theorem ud{g:Dg→Int}:∀{l:List Tx} {j:Nat} (hj:j<l.length),vQ g l→l[j].non=g l[j].frm+(dZ l[j].frm (l.take j):Int)
 |x::l,0,hj,h=>by
  show x.non=g x.frm+0
  rw[h.1];omega
 |x::l,j+1,hj,h=>by
  have hj':j<l.length:=Nat.lt_of_succ_lt_succ hj
  have h2:=ud (l:=l) (j:=j) hj' h.2
  show l[j].non=g l[j].frm+(dZ l[j].frm (x::l.take j):Int)
  rw[h2,ik]
  omega
theorem oA{t:Tr}:∀(k:Nat) {x:Dg} {j:Nat},j≤k→(t.cX k x)[j]?=some (t.anc j x)
 |0,x,j,h=>by
  have:j=0:=by omega
  subst this
  rfl
 |k+1,x,j,h=>by
  rw[Tr.fN]
  by_cases e:j≤k
  ·rw[List.getElem?_append_left (by rw[Tr.bH];omega)]
   exact oA k e
  ·have:j=k+1:=by omega
   subst this
   rw[List.getElem?_append_right (by rw[Tr.bH];exact Nat.le_refl _),Tr.bH,Nat.sub_self]
   rfl
theorem Aa{t:Tr}(wf:t.WF){x:Dg}(hx:t.has x=true){i:Nat}(hi:i≤t.ht x){d:Dg}(h:(t.line x)[i]?=some d):t.has d=true∧t.ht d=i:=by
 unfold Tr.line at h
 rw[if_pos hx,List.getElem?_reverse (by rw[Tr.bH];omega),Tr.bH,oA _ (by omega)] at h
 obtain rfl:=Option.some.inj h
 obtain⟨h1,h2⟩:=wf.anc (t.ht x+1-1-i) hx (by omega)
 exact⟨h1,by omega⟩
theorem Aj{l:List Dg}{d:Dg}(h:d∈l):0≤ixZ l d:=by
 have:l.findIdx (fun x=>decide (x=d))<l.length:=List.findIdx_lt_length.2 ⟨d,h,by simp⟩
 unfold ixZ
 rw[if_pos this]
 omega
theorem lA{ns:List (Dg×Nat×Nm)}{d:Dg}:∀{l:List Dg} {i:Nat} {x:Dg} {q:Nat×Nm},l[i]?=some x→ay ns x=some q→d∈q.2.nms→∃i' y q' e,i'≤i∧l[i']?=some y∧ay ns y=some q'∧fe ns d l=some (q'.2.x.ht,e)
 |y::l,0,x,q,hx,hq,hd=>by
  obtain rfl:=Option.some.inj hx
  refine⟨0,y,q,q.2.es.getD (ixZ q.2.nms d).toNat 0,Nat.le_refl _,rfl,hq,?_⟩
  show(match ay ns y with|some q=>if 0≤ixZ q.2.nms d then some (q.2.x.ht,q.2.es.getD (ixZ q.2.nms d).toNat 0) else fe ns d l|none=>fe ns d l)=_
  rw[hq]
  exact if_pos (Aj hd)
 |y::l,i+1,x,q,hx,hq,hd=>by
  obtain⟨i',z,q',e,h1,h2,h3,h4⟩:=lA (l:=l) (i:=i) hx hq hd
  have hf:fe ns d (y::l)=match ay ns y with|some q=>if 0≤ixZ q.2.nms d then some (q.2.x.ht,q.2.es.getD (ixZ q.2.nms d).toNat 0) else fe ns d l|none=>fe ns d l:=rfl
  cases hy:ay ns y with
  |none=>
   rw[hy] at hf
   exact⟨i'+1,z,q',e,by omega,h2,h3,hf.trans h4⟩
  |some q0=>
   rw[hy] at hf
   by_cases h0:0≤ixZ q0.2.nms d
   ·exact⟨0,y,q0,_,Nat.zero_le _,rfl,hy,hf.trans (if_pos h0)⟩
   ·exact⟨i'+1,z,q',e,by omega,h2,h3,(hf.trans (if_neg h0)).trans h4⟩
theorem qu{c:Cm}{f0:Fb}{H:Int}{nb:Nbk}(hi:Hi nb c f0)(ok:iR c H){x:Dg}(hx:c.tr.has x=true){i:Nat}(hl:i<(c.tr.line x).length):∃d q,(c.tr.line x)[i]?=some d∧ay c.ns d=some q∧q.2.x.ht=(i:Int):=by
 have h1:=List.getElem?_eq_getElem hl
 rw[Tr.eW hx] at hl
 obtain⟨h2,h3⟩:=Aa ok.wf hx (by omega) h1
 obtain⟨q,hq⟩:=ok.get h2
 exact⟨_,q,h1,hq,by rw[hi.ht _ _ hq,h3]⟩
theorem uL{c:Cm}{f0:Fb}{H:Int}{nb:Nbk}(hi:Hi nb c f0)(ok:iR c H){x0:Dg}(hx0:c.tr.has x0=true){zs:List Bm}(he:zs.map Bm.b=(c.tr.line x0).map (sK c.ns)){i:Nat}(hz:i<zs.length){x:Tx}(hx:x∈zs[i].b.txs):∃h e,fe c.ns (aM x) (c.tr.line x0)=some (h,e)∧h≤zs[i].ht:=by
 have hlen:zs.length=(c.tr.line x0).length:=by have e:=congrArg List.length he;rwa [List.length_map,List.length_map] at e
 obtain⟨d,q,h1,hq,hh⟩:=qu hi ok hx0 (hlen▸hz)
 have eb:zs[i].b=q.2.x.b:=by
  have e:(zs.map Bm.b)[i]?=((c.tr.line x0).map (sK c.ns))[i]?:=by rw[he]
  rw[List.getElem?_map,List.getElem?_map,h1,List.getElem?_eq_getElem hz] at e
  rw[←o9 hq]
  exact Option.some.inj e
 have hm:aM x∈q.2.nms:=by
  rw[eb] at hx
  obtain⟨y,hy,rfl⟩:=List.mem_map.1 hx
  exact List.mem_map.2 ⟨y,hy,rfl⟩
 obtain⟨i',y,q',e,g1,g2,g3,g4⟩:=lA h1 hq hm
 refine⟨q'.2.x.ht,e,g4,?_⟩
 have hl':i'<(c.tr.line x0).length:=by omega
 obtain⟨d2,q2,k1,k2,k3⟩:=qu hi ok hx0 hl'
 rw[g2] at k1
 obtain rfl:=Option.some.inj k1
 rw[g3] at k2
 obtain rfl:=Option.some.inj k2
 have e2:zs[i].ht=q.2.x.ht:=congrArg Bl.ht eb
 omega
def flZ(zs:List Bm)(i:Nat):List Tx:=((zs.take i).map Bm.b).flatMap Bl.txs
theorem xP{zs:List Bm}{i:Nat}(h:i<zs.length):flZ zs (i+1)=flZ zs i++zs[i].b.txs:=by
 unfold flZ
 rw[List.map_take,take_one Bm.b h,←List.map_take,List.flatMap_append,List.flatMap_cons,List.flatMap_nil,List.append_nil]
theorem Ay{zs:List Bm}{ns:List (Dg×Nat×Nm)}{l:List Dg}(he:zs.map Bm.b=l.map (sK ns)):flZ zs zs.length=lnT ns l:=by
 unfold flZ lnT
 rw[List.take_length,he,List.flatMap_map]
theorem uK{zs:List Bm}{i:Nat}(hi:i<zs.length):flZ zs zs.length=flZ zs i++(zs[i].b.txs++((zs.drop (i+1)).map Bm.b).flatMap Bl.txs):=by
 have:zs=zs.take i++(zs[i]::zs.drop (i+1)):=by rw[←List.drop_eq_getElem_cons hi,List.take_append_drop]
 unfold flZ
 rw[List.take_length]
 conv=>lhs;rw[this]
 rw[List.map_append,List.flatMap_append,List.map_cons,List.flatMap_cons]
theorem KZ{zs:List Bm}{i:Nat}(hi:i<zs.length)(K:Dg)(j:Nat):dZ K (flZ zs i++zs[i].b.txs.take j)≤dZ K (flZ zs zs.length):=by
 rw[uK hi,fg,fg,fg]
 have h:dZ K zs[i].b.txs=dZ K (zs[i].b.txs.take j)+dZ K (zs[i].b.txs.drop j):=by rw[←fg,List.take_append_drop]
 omega
theorem KG{zs:List Bm}(h:vQ (fun _=>0) (flZ zs zs.length)){i:Nat}(hi:i<zs.length){j:Nat}(hj:j<zs[i].xs.length):zs[i].xs[j].t.non=(dZ zs[i].xs[j].t.frm (flZ zs i++zs[i].b.txs.take j):Int):=by
 rw[uK hi,jm,jm] at h
 have hj':j<zs[i].b.txs.length:=by show j<(zs[i].xs.map (·.t)).length;rw[List.length_map];exact hj
 have h2:=ud hj' h.2.1
 have e2:zs[i].b.txs[j]=zs[i].xs[j].t:=List.getElem_map _
 rw[e2] at h2
 rw[h2,fg]
 show(0:Int)+(dZ _ (flZ zs i):Int)+(dZ _ (zs[i].b.txs.take j):Int)=_
 omega
end
section
theorem AX(a:Ax):aZ (axc a)=true:=by simp[axc,aZ,mO]
theorem Ax.In.up{a:Ax}{n n':Nat}{w:World}(h:a.In n w)(hn:n≤n'):a.In n' w:=⟨h.b,fun h0 b off e=>Nat.lt_of_lt_of_le (h.bn h0 b off e) hn,h.l,fun h0 b off e=>Nat.lt_of_lt_of_le (h.ln h0 b off e) hn,h.lb,h.ll,h.l2⟩
attribute [local irreducible] CG NG SG aP Der Row Blk aD aH bB acU
theorem xS(w:World)(a:Option Addr)(c n:Nat):Ret Tryz.prog 11 #[.slice a n c] w (.bool (decide ((n:Int)≤40))):=by
 refine aT Tryz.func11 rfl Tryz.ntmps11 rfl ?_
 repeat (first|apply gst|(apply gsv;exact rfl;(first|apply qmv|apply qas|apply qln|apply qle)<;>first|exact rfl|exact dcu))
 refine aV (Or.inl rfl) Tryz.results11 (aF.tmp rfl) ?_
 exact⟨rfl,Kp.refl _ _⟩
end
section
attribute [local irreducible] CG NG SG aP Der Row Blk aD aH bB acU bdU wlS sK aM flZ dZ lnT
theorem o8{w:World}(f l s:UInt8){m4:List Nat}(hm:∀x∈m4,x<65536){a:Option Addr}{c:Nat}{acts:List Ax}(hS:Sl axc 9 w a acts)(hI:∀x∈acts,x.In w.heap.size w)(hb:∀x∈acts,x.body.length≤10000000):
  Calls Tryz.prog 3 #[.agg #[bv f,bv l,bv s],u4v m4,.slice a acts.length c] w (fun e w'=>e= .returned (.bool true)∧Kp [] w w'):=by
 refine da Tryz.func3 rfl Tryz.ntmps3 rfl ?_
 obtain⟨hz,he0,he1⟩:=zk hm
 obtain⟨u1,u2,u3⟩:=Dl f l s
 repeat apply gst
 refine SG.box rfl rfl rfl (by exact ag rfl) (fun b3 w1 hk1 hb3 hB3=>?_)
 have hB3:Blk w1 b3 (.cells #[bv f,bv l,bv s] 22):=hB3
 refine SG.box rfl rfl rfl (by exact ag rfl) (fun b4 w2 hk2 hb4 hB4=>?_)
 have hB4:Blk w2 b4 (.cells (u4c m4).toArray 24):=hB4
 repeat (first|apply gst|(apply gsv;exact rfl;apply qas<;>exact rfl))
 refine SG.ret rfl rfl rfl (vs:=[]) (Evs.of rfl) (lu w2) (fun w3 hk3=>?_)
 have k3:=(hk1.trans hk2).trans hk3
 repeat (apply gsv;exact rfl;(first|apply qmv|apply qnt)<;>exact rfl)
 refine SG.ret rfl rfl rfl (vs:=[.slice a acts.length c]) (Evs.of rfl) (xS w3 a c acts.length) (fun w4 hk4=>?_)
 have k4:=k3.trans hk4
 by_cases hfew:acts.length≤40
 rotate_left
 ·have hf':¬(acts.length:Int)≤40:=by omega
  rw[decide_eq_false hf']
  repeat (first|apply gst|(apply gsv;exact rfl;(first|apply qpk|apply qnt)<;>exact rfl))
  refine CG.au rfl (by exact ag rfl) rfl ?_
  repeat apply gst
  refine SG.ret rfl rfl rfl (vs:=[]) (Evs.of rfl) (lu w4) (fun w5 hk5=>?_)
  repeat (first|apply gst|(apply gsv;exact rfl;apply qas<;>exact rfl))
  refine aV (Or.inl rfl) Tryz.results3 (aF.tmp rfl) ?_
  exact⟨rfl,k4.trans hk5⟩
 have hf':(acts.length:Int)≤40:=by omega
 rw[decide_eq_true hf']
 repeat (first|apply gst|(apply gsv;exact rfl;(first|apply qpk|apply qnt)<;>exact rfl))
 refine CG.ar rfl (by exact ag rfl) rfl ?_
 have k14:=(hk2.trans hk3).trans hk4
 have k24:=hk3.trans hk4
 have q0:Row w4 b3 0 [bv f]:=Row.of (hB3.kp0 k14) [] [bv l,bv s] rfl rfl
 have q1:Row w4 b3 1 [bv l]:=Row.of (hB3.kp0 k14) [bv f] [bv s] rfl rfl
 have q2:Row w4 b3 2 [bv s]:=Row.of (hB3.kp0 k14) [bv f,bv l] [] rfl rfl
 have q4:Row w4 b4 0 (u4c m4):=Row.all (hB4.kp0 k24) rfl
 repeat apply gst
 refine CG.tail mixed 8 [0,1,2,3,4,5,6,7] (by kernel_rfl) ?_
 repeat (apply gdv;exact rfl;exact rfl;(first|apply yJ|apply qlc)<;>first|exact rfl|(apply Ar.mk;omega)|assumption|exact List.not_mem_nil)
 refine Der.call rfl rfl rfl (vs:=[bv f,bv l,bv s]) (Evs.of rfl) (fun W _ _=>pE f l s W) ?_
 repeat (apply gdv;exact rfl;exact rfl;apply qla<;>first|exact rfl|assumption|exact List.not_mem_nil)
 refine Der.tl (fun w5 hk5 _ _=>?_)
 have k5:=k4.trans hk5
 clear q0 q1 q2 q4
 refine SG.call rfl rfl rfl (vs:=[bdv (bdU f l s),u4v m4]) (Evs.of rfl) ((jT w5 u1 (by omega) hm).mono (fun e w6 hh=>?_))
 obtain⟨hk6,bw,q,y,rfl,h6,hB⟩:=hh
 refine⟨_,rfl,?_⟩
 have ok6:=zi hB (by omega)
 have hi6:=Di hB q.nb
 clear hB
 obtain⟨n,hn⟩:∃n,w5.heap.size=n:=⟨_,rfl⟩
 rw[hn] at h6
 repeat (first|apply gst|(apply gsv;exact rfl;(first|apply qep|apply qmv|apply qas)<;>exact rfl))
 refine CG.ar rfl (by exact ag rfl) rfl ?_
 repeat (first|apply gst|(apply gsv;exact rfl;(first|apply qmv|apply qln)<;>exact rfl))
 refine CG.loop (X:=Nat×Wl) (fun p=>[(6,.bool false),(7,.pointer (some ⟨bw,0,none⟩)),(39,.slice a acts.length c),(40,.int .i64 (acts.length:Int)),(41,.int .i64 (p.1:Int))])
  (fun p w'=>p.1≤acts.length∧iQ w' n (lD (acU m4 4)) bw p.2∧yw p.2 (p.1:Int)∧Kp [] w5 w'∧Hi p.2.nb p.2.c (bal (jK [] (acU m4 4)))) (fun p=>acts.length-p.1) (0,q) ⟨Nat.zero_le _,h6,ok6,hk6,hi6⟩ (bf.of rfl) ?_
 rintro⟨j,q1⟩ w7 ⟨hj,h7,ok7,k57,hi7⟩
 simp only at hj h7 ok7 hi7
 refine CG.to [(6,.bool false),(7,.pointer (some ⟨bw,0,none⟩)),(39,.slice a acts.length c),(40,.int .i64 (acts.length:Int)),(41,.int .i64 (j:Int))] (bf.of rfl) ?_
 by_cases hlt:j<acts.length
 ·have g1:(j:Int)<(acts.length:Int):=by omega
  have k7:=k5.trans k57
  obtain⟨ba,off,rfl,hrow⟩:=(hS.kp0 k7).at hlt
  have hxI:=(hI _ (List.getElem_mem hlt)).kp0 k7
  have hxb:=hb _ (List.getElem_mem hlt)
  generalize acts[j]=x at*
  repeat (first|apply gst|(apply gsv;exact rfl;apply qls<;>first|exact rfl|(apply dct;first|assumption|omega)))
  refine CG.au rfl (by exact ag rfl) rfl ?_
  repeat (first|apply gst|(apply gsv;exact rfl;(first|apply qla|apply qix)<;>first|exact rfl|(apply Ar.mk;omega)|assumption|exact List.not_mem_nil))
  refine SG.alloc rfl rfl rfl (fun b8 w8 hk8 hb8 hB8=>?_)
  refine SG.aG (l:=axc x) rfl rfl (by exact ag rfl) (by exact ag rfl) hB8 (sC _) rfl (AX _) (fun w9 hk9 hB9=>?_)
  have k79:=hk8.ai hk9 (bh hb8)
  have r9:Row w9 b8 0 (axc x):=Row.all hB9 rfl
  clear hrow
  have hn5:=k5.size
  have hxn:x.In n w9:=Ax.In.up (hxI.kp0 k79) (by omega)
  repeat (first|apply gst|(apply gsv;exact rfl;(first|apply qmv|apply qla)<;>first|exact rfl|assumption|exact List.not_mem_nil))
  refine SG.call rfl rfl rfl (vs:=[.pointer (some ⟨bw,0,none⟩),axv x]) (Evs.of rfl) ((xE (h7.kp0 k79) ok7 (by omega) (by omega) hxn hxb).mono (fun e w10 hh=>?_))
  obtain⟨q2,z,rfl,h10,ok10,hstp,-,hle,ko⟩:=hh
  refine⟨_,rfl,?_⟩
  have k510:Kp [] w5 w10:=(k57.trans k79).ai ko.kp (fun x hx=>Or.inr (by rw[hn];exact(h7.kp0 k79).ge x hx))
  have ej:((j+1:Nat):Int)=(j:Int)+1:=by omega
  clear r9
  repeat (first|apply gst|(apply gsv;exact rfl;(first|apply qmv|apply qad)<;>first|exact rfl|(apply Ar.mk;omega)))
  refine NG.round (j+1,q2) (bf.of rfl) ⟨hlt,h10,by simp only;rw[ej];exact ok10,k510,hi7.step ok7.ch hstp hle⟩ (by simp only;omega)
 have g1:¬(j:Int)<(acts.length:Int):=by omega
 repeat (first|apply gst|(apply gsv;exact rfl;apply qls<;>first|exact rfl|(apply dcf;first|assumption|omega)))
 refine CG.ar rfl (by exact ag rfl) rfl ?_
 obtain⟨qn,hqn⟩:=ok7.ch.tip
 obtain⟨z0,-,-,-⟩:=bZ h7.blk
 repeat (first|apply gst|(apply gsv;exact rfl;(first|apply qnc|apply qmv|apply qlc|apply qfa)<;>first|exact rfl|assumption|exact List.not_mem_nil))
 refine SG.call rfl rfl rfl (vs:=[.pointer (some ⟨q1.c.cb,0,none⟩)]) (Evs.of rfl) ((j6 h7.ch hqn).mono (fun e w8 hh=>?_))
 obtain⟨bt,bm,mk,rfl,hbk,hbi,-,-,hk8⟩:=hh
 refine⟨_,rfl,?_⟩
 have hbf:bal mk=qn.2.f:=hbi.eq
 have h8:=h7.kp0 hk8
 have hwf:=ok7.ch.wf
 obtain⟨hN,hNk⟩:=xz hi7 ok7.ch (AQ m4) _ rfl hqn
 have hlen:(q1.c.tr.line q1.c.tr.tip).length≤5000:=by
  rw[Tr.eW hwf.tip]
  have:=hwf.bound hwf.tip
  omega
 have hln:∀d∈q1.c.tr.line q1.c.tr.tip,∃q,ay q1.c.ns d=some q:=fun d hd=>ok7.ch.get (xA hwf hwf.tip hd)
 clear z0
 repeat (first|apply gst|(apply gsv;exact rfl;(first|apply qep|apply qmv|apply qas)<;>exact rfl))
 refine CG.ar rfl (by exact ag rfl) rfl ?_
 repeat (first|apply gst|(apply gsv;exact rfl;apply qmv<;>exact rfl))
 refine CG.loop (X:=Nat) (fun k=>[(6,.bool false),(7,.pointer (some ⟨bw,0,none⟩)),(10,.pointer (some ⟨bt,0,none⟩)),(56,.int .i64 (k:Int))])
  (fun k w'=>k≤4∧Kp [] w8 w') (fun k=>4-k) 0 ⟨Nat.zero_le _,Kp.refl _ _⟩ (bf.of rfl) ?_
 rintro k w9 ⟨hk4,k9⟩
 refine CG.to [(6,.bool false),(7,.pointer (some ⟨bw,0,none⟩)),(10,.pointer (some ⟨bt,0,none⟩)),(56,.int .i64 (k:Int))] (bf.of rfl) ?_
 have k59:=k57.trans (hk8.trans k9)
 by_cases hklt:k<4
 ·have g2:(k:Int)<4:=by omega
  repeat (first|apply gst|(apply gsv;exact rfl;apply qls<;>first|exact rfl|(apply dct;first|assumption|omega)))
  refine CG.au rfl (by exact ag rfl) rfl ?_
  repeat (first|apply gst|(apply gsv;exact rfl;(first|apply qi8|apply qmv|apply qas|apply qad)<;>first|exact rfl|(apply Ar.mk;omega)))
  refine SG.val rfl rfl rfl rfl (az rfl (fun W=>bd1 _ W)) ?_
  obtain⟨K,hK⟩:∃K,d1 (UInt8.ofNat (1+(k:Int)).toNat)=K:=⟨_,rfl⟩
  rw[hK]
  refine SG.alloc rfl rfl rfl (fun b12 w10 hk10 hb12 hB12=>?_)
  refine SG.aG (l:=dc K) rfl rfl (by exact ag rfl) (by exact ag rfl) hB12 (ah _) rfl (aR _) (fun w11 hk11 hB12=>?_)
  have k911:=hk10.ai hk11 (bh hb12)
  have h11:=h8.kp0 (k9.trans k911)
  obtain⟨z0,-,-,-⟩:=bZ h11.blk
  repeat (first|apply gst|(apply gsv;exact rfl;(first|apply qnc|apply qmv|apply qas|apply qlc|apply qfa)<;>first|exact rfl|assumption|exact List.not_mem_nil))
  refine SG.call rfl rfl rfl (vs:=[.pointer (some ⟨q1.c.cb,0,none⟩)]) (Evs.of rfl) ((sm h11.ch hwf (by omega) hln).mono (fun e w12 hh=>?_))
  obtain⟨v12,zs,rfl,hL,hk12⟩:=hh
  refine⟨_,rfl,?_⟩
  have hzl:zs.length≤5000:=by have e:=congrArg List.length hL.eq;rw[List.length_map,List.length_map] at e;omega
  obtain⟨a12,c12,rfl,-,hS12⟩:=Sl.own aB hL.own rfl
  have hfl:=Ay hL.eq
  have hNz:vQ (fun _=>0) (flZ zs zs.length):=by rw[hfl];exact hN
  have hK11:Blk w12 b12 (.cells (dc K).toArray 47):=hB12.kp0 hk12
  have h12:=h11.kp0 hk12
  have e00:(0:Int)=(dZ K (flZ zs 0):Int):=by
   have:flZ zs 0=[]:=by unfold flZ;rfl
   rw[this]
   unfold dZ
   rfl
  clear z0
  repeat (first|apply gst|(apply gsv;exact rfl;(first|apply qmv|apply qln)<;>exact rfl))
  refine CG.loop (X:=Nat) (fun i=>[(6,.bool false),(7,.pointer (some ⟨bw,0,none⟩)),(10,.pointer (some ⟨bt,0,none⟩)),(12,.pointer (some ⟨b12,0,none⟩)),(13,.int .i64 (dZ K (flZ zs i):Int)),(56,.int .i64 (k:Int)),(67,.slice a12 zs.length c12),(68,.int .i64 (zs.length:Int)),(69,.int .i64 (i:Int))])
   (fun i w'=>i≤zs.length∧Kp [] w12 w') (fun i=>zs.length-i) 0 ⟨Nat.zero_le _,Kp.refl _ _⟩ (by rw[←e00];(repeat' (first|exact True.intro|exact rfl|refine And.intro ?_ ?_))) ?_
  rintro i w13 ⟨hi,k13⟩
  refine CG.to [(6,.bool false),(7,.pointer (some ⟨bw,0,none⟩)),(10,.pointer (some ⟨bt,0,none⟩)),(12,.pointer (some ⟨b12,0,none⟩)),(13,.int .i64 (dZ K (flZ zs i):Int)),(56,.int .i64 (k:Int)),(67,.slice a12 zs.length c12),(68,.int .i64 (zs.length:Int)),(69,.int .i64 (i:Int))] (bf.of rfl) ?_
  by_cases hilt:i<zs.length
  ·have g3:(i:Int)<(zs.length:Int):=by omega
   obtain⟨bc,ofc,ea,hrow⟩:=(hS12.kp0 k13).at hilt
   have hY:=(hL.ins _ (List.getElem_mem hilt)).kp0 k13
   have hfs:=xP hilt
   have hnz:=fun{jj:Nat} (hjj:jj<zs[i].xs.length)=>KG hNz hilt hjj
   have hfd:=fun{x:Tx} (hx:x∈zs[i].b.txs)=>uL hi7 ok7.ch hwf.tip hL.eq hilt hx
   have hcz:∀jj,((dZ K (flZ zs i++zs[i].b.txs.take jj):Nat):Int)≤1099511627776:=fun jj=>by
    have h1:=KZ hilt K jj
    have h2:(qn.2.f K).nonce=(dZ K (flZ zs zs.length):Int):=by rw[hNk,hfl]
    have h3:=hbi.ok.bnd (by decide) K
    rw[hbf] at h3
    omega
   obtain⟨F,hF⟩:∃F,flZ zs i=F:=⟨_,rfl⟩
   rw[hF] at hfs hnz hcz
   rw[hF,ea]
   generalize zs[i]=y1 at*
   repeat (first|apply gst|(apply gsv;exact rfl;apply qls<;>first|exact rfl|(apply dct;first|assumption|omega)))
   refine CG.au rfl (by exact ag rfl) rfl ?_
   repeat (first|apply gst|(apply gsv;exact rfl;(first|apply qla|apply qix)<;>first|exact rfl|(apply Ar.mk;omega)|assumption|exact List.not_mem_nil|apply aB))
   refine SG.alloc rfl rfl rfl (fun b15 w14 hk14 hb15 hB15=>?_)
   refine SG.aG (l:=bkc y1) rfl rfl (by exact ag rfl) (by exact ag rfl) hB15 (aB _) rfl (cJ _) (fun w15 hk15 hB15=>?_)
   have k1315:=hk14.ai hk15 (bh hb15)
   obtain⟨-,-,-,-,p17⟩:=bA hB15
   have hyx:=hY.len
   have e01:(dZ K F:Int)=(dZ K (F++y1.b.txs.take 0):Int):=by rw[List.take_zero,List.append_nil]
   have hxl:y1.b.txs.length=y1.xs.length:=List.length_map _
   clear hrow
   repeat (first|apply gst|(apply gsv;exact rfl;(first|apply qmv|apply qlc|apply qfa|apply qln)<;>first|exact rfl|assumption|exact List.not_mem_nil))
   rw[e01]
   refine CG.loop (X:=Nat) (fun jj=>[(6,.bool false),(7,.pointer (some ⟨bw,0,none⟩)),(10,.pointer (some ⟨bt,0,none⟩)),(12,.pointer (some ⟨b12,0,none⟩)),(13,.int .i64 (dZ K (F++y1.b.txs.take jj):Int)),(15,.pointer (some ⟨b15,0,none⟩)),(56,.int .i64 (k:Int)),(67,.slice (some ⟨bc,ofc,none⟩) zs.length c12),(68,.int .i64 (zs.length:Int)),(69,.int .i64 (i:Int)),(74,.slice y1.a y1.xs.length y1.c),(75,.int .i64 (y1.xs.length:Int)),(76,.int .i64 (jj:Int))])
    (fun jj w'=>jj≤y1.xs.length∧Kp [] w15 w') (fun jj=>y1.xs.length-jj) 0 ⟨Nat.zero_le _,Kp.refl _ _⟩ (bf.of rfl) ?_
   clear p17
   rintro jj w16 ⟨hjj,k16⟩
   refine CG.to [(6,.bool false),(7,.pointer (some ⟨bw,0,none⟩)),(10,.pointer (some ⟨bt,0,none⟩)),(12,.pointer (some ⟨b12,0,none⟩)),(13,.int .i64 (dZ K (F++y1.b.txs.take jj):Int)),(15,.pointer (some ⟨b15,0,none⟩)),(56,.int .i64 (k:Int)),(67,.slice (some ⟨bc,ofc,none⟩) zs.length c12),(68,.int .i64 (zs.length:Int)),(69,.int .i64 (i:Int)),(74,.slice y1.a y1.xs.length y1.c),(75,.int .i64 (y1.xs.length:Int)),(76,.int .i64 (jj:Int))] (bf.of rfl) ?_
   have k1316:=k1315.trans k16
   by_cases hjlt:jj<y1.xs.length
   ·have g4:(jj:Int)<(y1.xs.length:Int):=by omega
    obtain⟨bd,ofd,ed,hrow⟩:=(hY.tx.sl.kp0 k1316).at hjlt
    have hX:=(hY.tx.ins _ (List.getElem_mem hjlt)).kp0 k1316
    have hnon:=hnz hjlt
    have hjl':jj<y1.b.txs.length:=by omega
    have htk:y1.b.txs.take (jj+1)=y1.b.txs.take jj++[y1.xs[jj].t]:=by
     rw[List.take_add_one,List.getElem?_eq_getElem hjl']
     show _++[(y1.xs.map (·.t))[jj]'(by rw[List.length_map];exact hjlt)]=_
     rw[List.getElem_map]
    have hfx:=hfd (List.mem_map.2 ⟨_,List.getElem_mem hjlt,rfl⟩:y1.xs[jj].t∈y1.b.txs)
    have hcs:dZ K (F++y1.b.txs.take (jj+1))=dZ K (F++y1.b.txs.take jj)+if y1.xs[jj].t.frm=K then 1 else 0:=by rw[htk,←List.append_assoc,fg,x8]
    have hcb:=hcz jj
    rw[ed]
    generalize y1.xs[jj]=x at*
    obtain⟨C,hC⟩:∃C,dZ K (F++y1.b.txs.take jj)=C:=⟨_,rfl⟩
    rw[hC] at hcs hcb⊢
    repeat (first|apply gst|(apply gsv;exact rfl;apply qls<;>first|exact rfl|(apply dct;first|assumption|omega)))
    refine CG.au rfl (by exact ag rfl) rfl ?_
    repeat (first|apply gst|(apply gsv;exact rfl;(first|apply qla|apply qix)<;>first|exact rfl|(apply Ar.mk;omega)|assumption|exact List.not_mem_nil|apply aj))
    refine SG.alloc rfl rfl rfl (fun b17 w17 hk17 hb17 hB17=>?_)
    refine SG.aG (l:=txc x) rfl rfl (by exact ag rfl) (by exact ag rfl) hB17 (aj _) rfl (bD _) (fun w18 hk18 hB17=>?_)
    have k1618:=hk17.ai hk18 (bh hb17)
    obtain⟨rx,r0,r8,-⟩:=aK hB17
    have rk:Row w18 b12 0 (dc K):=Row.all (hK11.kp0 (k13.trans (k1316.trans k1618))) rfl
    clear hrow
    by_cases hfk:x.t.frm=K
    ·rw[if_pos hfk] at hcs
     rw[hfk,hC] at hnon
     repeat (first|apply gst|(apply gsv;exact rfl;(first|apply qla|apply qfa|apply qnd)<;>first|exact rfl|assumption|(apply dct;first|assumption|omega)|exact List.not_mem_nil|apply ah))
     refine CG.ar rfl (by exact ag rfl) rfl ?_
     obtain⟨hh,ee,hfp,hhl⟩:=hfx
     have h18:=h12.kp0 (k13.trans (k1316.trans k1618))
     obtain⟨z0,-,-,-⟩:=bZ h18.blk
     have hX18:=hX.kp0 k1618
     clear r0 r8 rk
     repeat apply gst
     refine CG.gD mixed [0,1,2,3,4,5,6,7,8,9,12] [(10,11,18,.tmp 92)] (by kernel_rfl) (by kernel_rfl) ?_
     repeat (apply gdv;exact rfl;exact rfl;(first|apply qnc|apply qmv|apply qlc|apply qla|apply qfa)<;>first|exact rfl|assumption|exact List.not_mem_nil|apply aj)
     refine Der.call rfl rfl rfl (vs:=[txv x]) (Evs.of rfl) (fun W hk _=>eJ (hX18.kp0 hk)) ?_
     refine Der.call rfl rfl rfl (v:= .tuple #[.agg (dnc (hh,ee)).toArray,.bool true]) (vs:=[.pointer (some ⟨q1.c.cb,0,none⟩),dv (aM x.t)]) (Evs.of rfl) (fun W hk _=>by
      have:=lE (h18.kp0 hk).ch hwf (by omega) hln (aM x.t)
      rw[hfp] at this
      exact this) ?_
     repeat (apply gdv;exact rfl;exact rfl;(first|apply qmv|apply qas|apply qxt)<;>exact rfl)
     refine Der.one (iw.of (by rfl) rfl rfl rfl (by exact ag rfl) (by rfl) (by rfl) (by rfl)) (fun b18 w19 hk19 hb18 hB18=>?_)
     clear rx z0
     obtain⟨-,-,r8,-⟩:=aK (hB17.kp0 hk19)
     obtain⟨-,-,p8,-,-⟩:=bA ((hB15.kp0 (k16.trans k1618)).kp0 hk19)
     have s0:Row w19 b18 0 [.int .i64 hh]:=Row.of hB18 [] [.int .i64 ee] rfl rfl
     have g5:¬y1.ht<hh:=by omega
     repeat (first|apply gst|(apply gsv;exact rfl;(first|apply qmv|apply qlc|apply qfa|apply qpk|apply qni|apply qgt|apply qnt)<;>first|exact rfl|assumption|(apply dct;first|assumption|omega)|(apply dcf;first|assumption|omega)|exact List.not_mem_nil))
     refine CG.ar rfl (by exact ag rfl) rfl ?_
     repeat (first|apply gst|(apply gsv;exact rfl;(first|apply qmv|apply qas|apply qad)<;>first|exact rfl|(apply Ar.mk;omega)))
     have ec:(C:Int)+1=(dZ K (F++y1.b.txs.take (jj+1)):Int):=by omega
     rw[ec]
     refine NG.round (jj+1) (by rw[←ed];(repeat' (first|exact True.intro|exact rfl|refine And.intro ?_ ?_))) ⟨hjlt,(k16.trans k1618).trans hk19⟩ (by omega)
    ·rw[if_neg hfk] at hcs
     repeat (first|apply gst|(apply gsv;exact rfl;(first|apply qla|apply qfa|apply qnd)<;>first|exact rfl|assumption|(apply dcf;first|assumption|omega)|exact List.not_mem_nil|apply ah))
     refine CG.au rfl (by exact ag rfl) rfl ?_
     repeat (first|apply gst|(apply gsv;exact rfl;(first|apply qmv|apply qad)<;>first|exact rfl|(apply Ar.mk;omega)))
     have ec:C=dZ K (F++y1.b.txs.take (jj+1)):=by omega
     rw[ec]
     refine NG.round (jj+1) (by rw[←ed];(repeat' (first|exact True.intro|exact rfl|refine And.intro ?_ ?_))) ⟨hjlt,k16.trans k1618⟩ (by omega)
   ·have g4:¬(jj:Int)<(y1.xs.length:Int):=by omega
    have ejj:jj=y1.xs.length:=by omega
    subst ejj
    have ef:dZ K (F++y1.b.txs.take y1.xs.length)=dZ K (flZ zs (i+1)):=by rw[hfs,←hxl,List.take_length]
    repeat (first|apply gst|(apply gsv;exact rfl;apply qls<;>first|exact rfl|(apply dcf;first|assumption|omega)))
    refine CG.ar rfl (by exact ag rfl) rfl ?_
    repeat (first|apply gst|(apply gsv;exact rfl;(first|apply qmv|apply qad)<;>first|exact rfl|(apply Ar.mk;omega)))
    rw[ef]
    refine NG.round (i+1) (by rw[←ea];(repeat' (first|exact True.intro|exact rfl|refine And.intro ?_ ?_))) ⟨hilt,k13.trans k1316⟩ (by omega)
  ·have g3:¬(i:Int)<(zs.length:Int):=by omega
   have ei:i=zs.length:=by omega
   subst ei
   have hnk:(qn.2.f K).nonce=(dZ K (flZ zs zs.length):Int):=by rw[hNk,hfl]
   have hbk13:=hbk.kp0 (((k9.trans k911).trans hk12).trans k13)
   have rk:Row w13 b12 0 (dc K):=Row.all (hK11.kp0 k13) rfl
   repeat (first|apply gst|(apply gsv;exact rfl;apply qls<;>first|exact rfl|(apply dcf;first|assumption|omega)))
   refine CG.ar rfl (by exact ag rfl) rfl ?_
   repeat (first|apply gst|(apply gsv;exact rfl;(first|apply qmv|apply qla)<;>first|exact rfl|assumption|exact List.not_mem_nil|apply ah))
   refine SG.ret rfl rfl rfl (vs:=[.pointer (some ⟨bt,0,none⟩),dv K]) (Evs.of rfl) (iq hbk13 K) (fun w14 hk14=>?_)
   rw[hbf]
   refine SG.val rfl rfl rfl rfl (El rfl) ?_
   rw[hnk]
   clear rk
   repeat (first|apply gst|(apply gsv;exact rfl;(first|apply qmv|apply qni)<;>first|exact rfl|(apply dct;first|assumption|omega)))
   refine CG.ar rfl (by exact ag rfl) rfl ?_
   repeat (first|apply gst|(apply gsv;exact rfl;(first|apply qmv|apply qad)<;>first|exact rfl|(apply Ar.mk;omega)))
   refine NG.round (k+1) (bf.of rfl) ⟨hklt,(((k9.trans k911).trans hk12).trans k13).trans hk14⟩ (by omega)
 ·have g2:¬(k:Int)<4:=by omega
  repeat (first|apply gst|(apply gsv;exact rfl;apply qls<;>first|exact rfl|(apply dcf;first|assumption|omega)))
  refine CG.ar rfl (by exact ag rfl) rfl ?_
  repeat (first|apply gst|(apply gsv;exact rfl;apply qas<;>exact rfl))
  refine aV (Or.inl rfl) Tryz.results3 (aF.tmp rfl) ?_
  exact⟨rfl,k5.trans k59⟩
end
section
open Go.ChangeShapes Go.WideShapes Go.ChangeAt Go.RowKit
theorem xG(os:Os):laidMet Tryz.prog Rows.chainNoncesUptoRow.laid ((jU os).forCall (fun _ _=>0) ⟨#[],#[DK,DJ,.slice none 0 0],[]⟩).memory:=
 laidMet_of_run' 8 (by kernel_rfl) (by kernel_rfl)
theorem reads(os:Os){H:Type}(enc:TypeId×Value→H):∃places,DataW.whole enc Tryz.prog ((jU os).forCall (fun _ _=>0) ⟨#[],#[DK,DJ,.slice none 0 0],[]⟩).memory Tryz.f3.params.toList Rows.chainNoncesSpec.vars false #[DK,DJ,.slice none 0 0].toList 8=some ([.agg [.lit (.int .u8 0),.lit (.int .u8 0),.lit (.int .u8 0)],.agg [.lit (.int .u16 0),.lit (.int .u16 0),.lit (.int .u16 0),.lit (.int .u16 0)],.nil],[],places):=
 ⟨[],by kernel_rfl⟩
set_option maxRecDepth 100000 in
theorem il(os:Os)(started:os.Started)(H:Type)(enc:TypeId×Value→H)(F:Stop.Interp):
  ReturnsInHanded {} Tryz.checked os 3 .any ((Rows.OpenSpec.upto Rows.chainNoncesSpec).preRow enc Tryz.prog Tryz.f3 Rows.chainNoncesUptoRow.domain false Rows.chainNoncesUptoRow.laid) (((Rows.OpenSpec.upto Rows.chainNoncesSpec).at F).post enc Tryz.prog Tryz.f3 false true false false):=by
 obtain⟨places,hx⟩:=reads os enc
 refine returnsInHanded_of_row (C:=Tryz.checked) (s:=Rows.OpenSpec.upto Rows.chainNoncesSpec) own started (by kernel_rfl) Tryz.func3
  (witness_row_at (enc:=enc) (C:=Tryz.checked) false (jU os) #[DK,DJ,.slice none 0 0] rfl (by kernel_rfl) (by kernel_rfl) (by kernel_rfl)
   (OpenSpec.preRow_of_cond 8 hx (by kernel_rfl) (fun k hk=>by cases hk;kernel_rfl) (by kernel_rfl) (xG os))) ?_
 intro W base args ds gs before hval0 hW0 _ hcond _ _ _ _
 have hval:∀(j:Nat) t v,Tryz.f3.params[j]?=some t→args[j]?=some v→Value.okWide Tryz.prog W .any base t v:=hval0
 have hW':DataW.Whole enc Tryz.prog Tryz.f3.params.toList Rows.chainNoncesSpec.vars false W args.toList ds gs before:=hW0
 have hW:=hW'
 obtain⟨p,q,hA0,hV,rfl,hfz,hnd⟩:=hW
 have hA:DataW.TrodAll enc Tryz.prog W 0 (fun _=>true) true Tryz.f3.params.toList args.toList ds p:=hA0
 rw[Tryz.params3] at hA hval
 obtain⟨v0,v1,v2,d0,d1,d2,p0,p1,p2,rfl,rfl,rfl,h0,h1,h2⟩:=trodAll_three hA
 have hk:Rows.uptoBulkAll ([d0,d1,d2]++gs)≤1048576:=of_decide_eq_true (hcond _ rfl)
 have hb:Rows.uptoBulk d2≤1048576:=Nat.le_trans (tU (List.mem_append_left _ (by simp))) hk
 obtain⟨f,l,s,rfl⟩:=Fi (hval 0 22 v0 rfl rfl) h0
 obtain⟨m4,rfl,hm⟩:=DR (hval 1 24 v1 rfl rfl) h1
 obtain⟨a,c,acts,rfl,hS,hI,hbd⟩:=A5 (hval 2 25 v2 rfl rfl) h2 hb
 refine(o8 f l s hm hS hI hbd).mono fun e W' ⟨he,hk⟩=>⟨_,he,?_⟩
 exact xF laidOut (by rw[Tryz.params3];exact of_decide_eq_true (by kernel_rfl)) rfl hW' rfl (by kernel_rfl) Tryz.underlying4 hk
theorem jg:Rows.ChainNoncesUptoSaid:=
 OpenClaim.holds_of_cond 3 Tryz.f3 rfl rfl rfl rfl rfl rfl rfl ⟨rfl,rfl,rfl,rfl,rfl⟩ rfl rfl rfl rfl rfl (by kernel_rfl) Tryz.func3 (by kernel_rfl)
  (of_decide_eq_true (by kernel_rfl)) (by unfold Func.isWrapper;first|(rw[if_pos (by decide+kernel)];kernel_rfl)|(rw[if_neg (by decide+kernel)];exact⟨rfl,rfl⟩))
  (fun os started H enc _ F=>by rw[OpenClaim.pre_eq_preRow];exact il os started H enc F)
theorem iI(f:FuncId)(fn:Func)(hf:Tryz.pinned.checked.prog.funcNamed "baize/baizelaw30.ChainNonces"=some f)(hfn:Tryz.pinned.checked.prog.funcs[f]?=some fn):
  true=Tryz.pinned.checked.prog.looks []∧∀(j:Nat) t,fn.params[j]?=some t→Tryz.pinned.checked.prog.wantsStandIn t=false:=by
 obtain rfl:f=3:=Option.some.inj ((show Tryz.prog.funcNamed "baize/baizelaw30.ChainNonces"=some 3 by kernel_rfl).symm.trans hf)|>.symm
 obtain rfl:fn=Tryz.f3:=(Option.some.inj (Tryz.func3.symm.trans hfn)).symm
 refine⟨by kernel_rfl,fun j t ht=>?_⟩
 rw[Tryz.params3] at ht
 have ht:=Array.mem_of_getElem? ht
 simp only[List.mem_toArray,List.mem_cons,List.mem_nil_iff,or_false] at ht
 rcases ht with rfl|rfl|rfl
 ·exact(show Tryz.prog.wantsStandIn 22=false by kernel_rfl)
 ·exact(show Tryz.prog.wantsStandIn 24=false by kernel_rfl)
 ·exact(show Tryz.prog.wantsStandIn 25=false by kernel_rfl)
theorem chainNonces_holds:Rows.ChainNoncesUptoCardSaid:=
 Claim7.holds_tied_plain_at .later [] _ _ _ _ jg (fun _ h=>by cases h) (by kernel_rfl) (fun _ h=>by cases h) chainNoncesUpto_row_tie rfl ⟨rfl,rfl⟩ (by kernel_rfl) rfl iI (by kernel_rfl)
end
end Go.Proofs.YtpnjgjddabeapaaGreatDoor
