/-
  ChainMoney answers true for every input of a bulk of at most 1048576, and leaves its arguments as they were. The second form's card; no other conditions.
-/
import Derived.Test.YtpnjgjddabeapaaGreatDoorMm5
namespace Go.Proofs.YtpnjgjddabeapaaGreatDoor
set_option linter.all false
set_option maxHeartbeats 400000000
section
theorem nX(l:List Ac)(e:Ac):iB (l++[e])=iB l+e.money:=by simp[iB]
theorem AN(a:Ax):aW (axc a)=true:=by simp[axc,aW,mC]
theorem AR{tot:Int}{n:Nat}{m:Bk}{f:Fb}(h:BkI tot n m f){l:List Ac}(hp:l.Perm (m.map acE)):∀x∈l,0≤x.money:=fun x hx=>by
 have hx:=hp.mem_iff.1 hx
 obtain⟨p,hp,rfl⟩:=List.mem_map.1 hx
 exact h.ok.mon p hp
theorem qF(l:List Nat):acU l 0=[]:=rfl
theorem AW{l:List Nat}(hm:∀x∈l,x<65536){i:Nat}(hi:i≤4):0≤iB (acU l i)∧iB (acU l i)≤300000:=by
 have key:∀i,0≤iB (acU l i)∧iB (acU l i)≤65536*(i:Int):=fun i=>by
  induction i with
  |zero=>rw[qF];exact⟨Int.le_refl _,Int.le_refl _⟩
  |succ i ih=>
   have:=U4.lt hm i
   rw[my,nX]
   simp only
   omega
 have:=key i
 omega
theorem Ax.In.up{a:Ax}{n n':Nat}{w:World}(h:a.In n w)(hn:n≤n'):a.In n' w:=⟨h.b,fun h0 b off e=>Nat.lt_of_lt_of_le (h.bn h0 b off e) hn,h.l,fun h0 b off e=>Nat.lt_of_lt_of_le (h.ln h0 b off e) hn,h.lb,h.ll,h.l2⟩
attribute [local irreducible] CG NG SG aO Der Row Blk az aH bz acU
theorem xP(w:World)(a:Option Addr)(c n:Nat):Ret Tryz.prog 11 #[.slice a n c] w (.bool (decide ((n:Int)≤40))):=by
 refine aQ Tryz.func11 rfl Tryz.ntmps11 rfl ?_
 repeat (first|apply gst|(apply gsv;rfl;(first|apply qmv|apply qas|apply qln|apply qle)<;>first|rfl|exact dcu))
 refine aS (Or.inl rfl) Tryz.results11 (aC.tmp rfl) ?_
 exact⟨rfl,Kp.refl _ _⟩
theorem rD{w:World}(f l s:UInt8){m4:List Nat}(hm:∀x∈m4,x<65536){a:Option Addr}{c:Nat}{acts:List Ax}(hS:Sl axc 9 w a acts)(hI:∀x∈acts,x.In w.heap.size w)(hb:∀x∈acts,x.body.length≤10000000):
  Calls Tryz.prog 4 #[.agg #[bv f,bv l,bv s],u4v m4,.slice a acts.length c] w (fun e w'=>e= .returned (.bool true)∧Kp [] w w'):=by
 refine c9 Tryz.func4 rfl Tryz.ntmps4 rfl ?_
 obtain⟨hz,he0,he1⟩:=zf hm
 obtain⟨u1,u2,u3⟩:=CE f l s
 repeat apply gst
 refine SG.box rfl rfl rfl (ag rfl) (fun b3 w1 hk1 hb3 hB3=>?_)
 have hB3:Blk w1 b3 (.cells #[bv f,bv l,bv s] 22):=hB3
 refine SG.box rfl rfl rfl (ag rfl) (fun b4 w2 hk2 hb4 hB4=>?_)
 have hB4:Blk w2 b4 (.cells (u4c m4).toArray 24):=hB4
 repeat (first|apply gst|(apply gsv;rfl;apply qas<;>rfl))
 refine SG.ret rfl rfl rfl (vs:=[]) (Evs.of rfl) (lh w2) (fun w3 hk3=>?_)
 have k3:=(hk1.trans hk2).trans hk3
 repeat (apply gsv;rfl;(first|apply qmv|apply qnt)<;>rfl)
 refine SG.ret rfl rfl rfl (vs:=[.slice a acts.length c]) (Evs.of rfl) (xP w3 a c acts.length) (fun w4 hk4=>?_)
 have k4:=k3.trans hk4
 by_cases hfew:acts.length≤40
 rotate_left
 ·have hf':¬(acts.length:Int)≤40:=by omega
  rw[decide_eq_false hf']
  repeat (first|apply gst|(apply gsv;rfl;(first|apply qpk|apply qnt)<;>rfl))
  refine gct rfl ?_
  repeat apply gst
  refine SG.ret rfl rfl rfl (vs:=[]) (Evs.of rfl) (lh w4) (fun w5 hk5=>?_)
  repeat (first|apply gst|(apply gsv;rfl;apply qas<;>rfl))
  refine aS (Or.inl rfl) Tryz.results4 (aC.tmp rfl) ?_
  exact⟨rfl,k4.trans hk5⟩
 have hf':(acts.length:Int)≤40:=by omega
 rw[decide_eq_true hf']
 repeat (first|apply gst|(apply gsv;rfl;(first|apply qpk|apply qnt)<;>rfl))
 refine gcf rfl ?_
 have k14:=(hk2.trans hk3).trans hk4
 have k24:=hk3.trans hk4
 have q0:Row w4 b3 0 [bv f]:=Row.of (hB3.kp0 k14) [] [bv l,bv s] rfl rfl
 have q1:Row w4 b3 1 [bv l]:=Row.of (hB3.kp0 k14) [bv f] [bv s] rfl rfl
 have q2:Row w4 b3 2 [bv s]:=Row.of (hB3.kp0 k14) [bv f,bv l] [] rfl rfl
 have q4:Row w4 b4 0 (u4c m4):=Row.all (hB4.kp0 k24) rfl
 repeat apply gst
 refine CG.tail mixed 8 [0,1,2,3,4,5,6,7] (by kernel_rfl) ?_
 repeat (apply gdv;rfl;rfl;(first|apply yD|apply qlc)<;>first|rfl|(apply Ar.mk;omega)|assumption|exact List.not_mem_nil)
 refine Der.call rfl rfl rfl (vs:=[bv f,bv l,bv s]) (Evs.of rfl) (fun W _ _=>py f l s W) ?_
 repeat (apply gdv;rfl;rfl;apply qla<;>first|rfl|assumption|exact List.not_mem_nil)
 refine Der.tl (fun w5 hk5 _ _=>?_)
 have k5:=k4.trans hk5
 clear q0 q1 q2 q4
 refine SG.call rfl rfl rfl (vs:=[bdv (bdU f l s),u4v m4]) (Evs.of rfl) ((jQ w5 u1 (by omega) hm).mono (fun e w6 hh=>?_))
 obtain⟨hk6,bw,q,y,rfl,h6,hB⟩:=hh
 refine⟨_,rfl,?_⟩
 have ok6:=y9 hB (by omega)
 clear hB
 obtain⟨n,hn⟩:∃n,w5.heap.size=n:=⟨_,rfl⟩
 rw[hn] at h6
 have q4:Row w6 b4 0 (u4c m4):=Row.all ((hB4.kp0 k24).kp0 (hk5.trans hk6)) rfl
 repeat (first|apply gst|(apply gsv;rfl;(first|apply qep|apply qmv|apply qas)<;>rfl))
 refine gcf rfl ?_
 repeat (first|apply gst|(apply gsv;rfl;(first|apply qmv|apply qas|apply qla)<;>first|rfl|assumption|exact List.not_mem_nil))
 refine CG.loop (X:=Nat×Int) (fun p=>[(2,.slice a acts.length c),(6,.bool false),(7,.pointer (some ⟨bw,0,none⟩)),(8,.int .i64 p.2),(35,.agg (u4c m4).toArray),(36,.int .i64 (p.1:Int))])
  (fun p w'=>p.1≤4∧p.2=iB (acU m4 p.1)∧w'=w6) (fun p=>4-p.1) (0,0) ⟨Nat.zero_le _,by rw[show acU m4 0=[] from qF m4];rfl,rfl⟩ (aZ.of rfl) ?_
 clear q4
 rintro⟨i,sm⟩ w6' ⟨hi,hsm,e6⟩
 simp only at hi hsm
 subst e6
 refine CG.to [(2,.slice a acts.length c),(6,.bool false),(7,.pointer (some ⟨bw,0,none⟩)),(8,.int .i64 sm),(35,.agg (u4c m4).toArray),(36,.int .i64 (i:Int))] (aZ.of rfl) ?_
 by_cases hlt:i<4
 ·have g1:(i:Int)<4:=by omega
  have hat:=Bf m4 hlt
  have hx:=U4.lt hm i
  obtain⟨x,ex⟩:∃x,m4.getD i 0=x:=⟨_,rfl⟩
  rw[ex] at hat hx
  have hxr:0≤(x:Int)∧(x:Int)<65536:=by omega
  have hsb:0≤sm∧sm≤300000:=by
   rw[hsm]
   exact AW hm (Nat.le_of_lt hlt)
  repeat (first|apply gst|(apply gsv;rfl;apply qls<;>first|rfl|(apply dct;first|assumption|omega)))
  refine gct rfl ?_
  repeat (first|apply gst|(apply gsv;rfl;(first|apply qid|apply q16|apply qmv|apply qas|apply qad)<;>first|rfl|(apply Ar.mk;omega)|assumption))
  refine NG.round (i+1,sm+(x:Int)) (aZ.of rfl) ⟨hlt,by simp only;rw[my,nX,←hsm,ex],rfl⟩ (by simp only;omega)
 have g1:¬(i:Int)<4:=by omega
 have e4:i=4:=by omega
 subst e4
 repeat (first|apply gst|(apply gsv;rfl;apply qls<;>first|rfl|(apply dcf;first|assumption|omega)))
 refine gcf rfl ?_
 have hsb:0≤sm∧sm≤300000:=by rw[hsm];exact⟨he0,he1⟩
 rw[←hsm] at h6
 clear he0 he1 hsm
 obtain⟨N,hNl⟩:∃N,acts.length=N:=⟨_,rfl⟩
 repeat (first|apply gst|(apply gsv;rfl;(first|apply qmv|apply qln)<;>rfl))
 refine CG.loop (X:=Nat×Wl) (fun p=>[(6,.bool false),(7,.pointer (some ⟨bw,0,none⟩)),(8,.int .i64 sm),(44,.slice a acts.length c),(45,.int .i64 (acts.length:Int)),(46,.int .i64 (p.1:Int))])
  (fun p w'=>p.1≤acts.length∧iL w' n sm bw p.2∧yp p.2 (p.1:Int)∧Kp [] w5 w') (fun p=>acts.length-p.1) (0,q) ⟨Nat.zero_le _,h6,ok6,hk6⟩ (aZ.of rfl) ?_
 rintro⟨j,q1⟩ w7 ⟨hj,h7,ok7,k57⟩
 simp only at hj h7 ok7
 refine CG.to [(6,.bool false),(7,.pointer (some ⟨bw,0,none⟩)),(8,.int .i64 sm),(44,.slice a acts.length c),(45,.int .i64 (acts.length:Int)),(46,.int .i64 (j:Int))] (aZ.of rfl) ?_
 by_cases hlt:j<acts.length
 ·have g1:(j:Int)<(acts.length:Int):=by omega
  have k7:=k5.trans k57
  obtain⟨ba,off,rfl,hrow⟩:=(hS.kp0 k7).at hlt
  have hxI:=(hI _ (List.getElem_mem hlt)).kp0 k7
  have hxb:=hb _ (List.getElem_mem hlt)
  generalize acts[j]=x at*
  repeat (first|apply gst|(apply gsv;rfl;apply qls<;>first|rfl|(apply dct;first|assumption|omega)))
  refine gct rfl ?_
  repeat (first|apply gst|(apply gsv;rfl;(first|apply qla|apply qix)<;>first|rfl|(apply Ar.mk;omega)|assumption|exact List.not_mem_nil))
  refine SG.alloc rfl rfl rfl (fun b8 w8 hk8 hb8 hB8=>?_)
  refine SG.aG (l:=axc x) rfl rfl (ag rfl) (ag rfl) hB8 (sB _) rfl (AN _) (fun w9 hk9 hB9=>?_)
  have k79:=hk8.ai hk9 (bf hb8)
  have r9:Row w9 b8 0 (axc x):=Row.all hB9 rfl
  clear hrow
  have hn5:=k5.size
  have hxn:x.In n w9:=Ax.In.up (hxI.kp0 k79) (by omega)
  repeat (first|apply gst|(apply gsv;rfl;(first|apply qmv|apply qla)<;>first|rfl|assumption|exact List.not_mem_nil))
  refine SG.call rfl rfl rfl (vs:=[.pointer (some ⟨bw,0,none⟩),axv x]) (Evs.of rfl) ((xC (h7.kp0 k79) ok7 (by omega) (by omega) hxn hxb).mono (fun e w10 hh=>?_))
  obtain⟨q2,z,rfl,h10,ok10,-,-,-,ko⟩:=hh
  refine⟨_,rfl,?_⟩
  have k510:Kp [] w5 w10:=(k57.trans k79).ai ko.kp (fun x hx=>Or.inr (by rw[hn];exact(h7.kp0 k79).ge x hx))
  clear r9
  obtain⟨z0,-,-,-⟩:=cu h10.blk
  obtain⟨qn,hqn⟩:=ok10.ch.tip
  repeat (first|apply gst|(apply gsv;rfl;(first|apply qnc|apply qmv|apply qlc|apply qfa)<;>first|rfl|assumption|exact List.not_mem_nil))
  refine SG.call rfl rfl rfl (vs:=[.pointer (some ⟨q2.c.cb,0,none⟩)]) (Evs.of rfl) ((j3 h10.ch hqn).mono (fun e w11 hh=>?_))
  obtain⟨bt,bm,m,rfl,hbk,hbi,-,-,hk11⟩:=hh
  refine⟨_,rfl,?_⟩
  have htot:tot m=sm:=hbi.ok.tot
  have hgm:=hbi.Ah (by omega)
  have hml:m.length≤100000:=by
   obtain⟨g1,g2,-⟩:=ok10.ch.nd _ _ hqn
   have g3:=hbi.len
   unfold ndN at g3
   omega
  repeat (first|apply gst|(apply gsv;rfl;(first|apply qep|apply qmv|apply qas)<;>rfl))
  refine SG.ret rfl rfl rfl (vs:=[.pointer (some ⟨bt,0,none⟩)]) (Evs.of rfl) (px hbk hgm (by omega)) (fun w12 hk12=>?_)
  rw[htot]
  repeat (first|apply gst|(apply gsv;rfl;(first|apply qmv|apply qpk|apply qni)<;>first|rfl|(apply dct;first|assumption|omega)))
  refine gcf rfl ?_
  repeat (first|apply gst|(apply gsv;rfl;apply qmv<;>rfl))
  refine SG.call rfl rfl rfl (vs:=[.pointer (some ⟨bt,0,none⟩)]) (Evs.of rfl) ((sr (hbk.kp0 hk12) hml).mono (fun e w13 hh=>?_))
  obtain⟨v,ls,rfl,ho,hp,-,hk13⟩:=hh
  refine⟨_,rfl,?_⟩
  have hpos:=AR hbi hp
  have hll:ls.length≤100000:=by rw[hp.length_eq,List.length_map];exact hml
  obtain⟨a13,c13,rfl,-,hS13⟩:=Sl.own aF ho rfl
  have k1013:=(hk11.trans hk12).trans hk13
  have h13:=h10.kp0 k1013
  have k513:=k510.trans k1013
  clear z0 ho hp
  repeat (first|apply gst|(apply gsv;rfl;(first|apply qmv|apply qln)<;>rfl))
  refine CG.loop (X:=Nat) (fun i=>[(6,.bool false),(7,.pointer (some ⟨bw,0,none⟩)),(8,.int .i64 sm),(44,.slice (some ⟨ba,off,none⟩) acts.length c),(45,.int .i64 (acts.length:Int)),(46,.int .i64 (j:Int)),(67,.slice a13 ls.length c13),(68,.int .i64 (ls.length:Int)),(69,.int .i64 (i:Int))])
   (fun i w'=>i≤ls.length∧Kp [] w13 w') (fun i=>ls.length-i) 0 ⟨Nat.zero_le _,Kp.refl _ _⟩ (aZ.of rfl) ?_
  rintro i w14 ⟨hi,k14⟩
  refine CG.to [(6,.bool false),(7,.pointer (some ⟨bw,0,none⟩)),(8,.int .i64 sm),(44,.slice (some ⟨ba,off,none⟩) acts.length c),(45,.int .i64 (acts.length:Int)),(46,.int .i64 (j:Int)),(67,.slice a13 ls.length c13),(68,.int .i64 (ls.length:Int)),(69,.int .i64 (i:Int))] (aZ.of rfl) ?_
  by_cases hlt2:i<ls.length
  ·have g2:(i:Int)<(ls.length:Int):=by omega
   obtain⟨bc,ofc,rfl,hrow⟩:=(hS13.kp0 k14).at hlt2
   have hp0:=hpos _ (List.getElem_mem hlt2)
   generalize ls[i]=e at*
   repeat (first|apply gst|(apply gsv;rfl;apply qls<;>first|rfl|(apply dct;first|assumption|omega)))
   refine gct rfl ?_
   repeat (first|apply gst|(apply gsv;rfl;(first|apply qla|apply qix)<;>first|rfl|(apply Ar.mk;omega)|assumption|exact List.not_mem_nil|apply aF))
   refine SG.alloc rfl rfl rfl (fun b15 w15 hk15 hb15 hB15=>?_)
   refine SG.aG (l:=acl e) rfl rfl (ag rfl) (ag rfl) hB15 (aF _) rfl (fA _) (fun w16 hk16 hB16=>?_)
   have k16:=hk15.ai hk16 (bf hb15)
   obtain⟨-,r8,-⟩:=iK hB16
   clear hrow
   repeat (first|apply gst|(apply gsv;rfl;(first|apply qlc|apply qfa|apply qls)<;>first|rfl|assumption|(apply dcf;first|assumption|omega)|exact List.not_mem_nil))
   refine gcf rfl ?_
   repeat (first|apply gst|(apply gsv;rfl;(first|apply qmv|apply qad)<;>first|rfl|(apply Ar.mk;omega)))
   refine NG.round (i+1) (aZ.of rfl) ⟨hlt2,k14.trans k16⟩ (by omega)
  ·have g2:¬(i:Int)<(ls.length:Int):=by omega
   repeat (first|apply gst|(apply gsv;rfl;apply qls<;>first|rfl|(apply dcf;first|assumption|omega)))
   refine gcf rfl ?_
   repeat (first|apply gst|(apply gsv;rfl;(first|apply qmv|apply qad)<;>first|rfl|(apply Ar.mk;omega)))
   have ej:((j+1:Nat):Int)=(j:Int)+1:=by omega
   refine NG.round (j+1,q2) (aZ.of rfl) ⟨hlt,h13.kp0 k14,?_,k513.trans k14⟩ (by simp only;omega)
   simp only
   rw[ej]
   exact ok10
 ·have g1:¬(j:Int)<(acts.length:Int):=by omega
  repeat (first|apply gst|(apply gsv;rfl;apply qls<;>first|rfl|(apply dcf;first|assumption|omega)))
  refine gcf rfl ?_
  repeat (first|apply gst|(apply gsv;rfl;apply qas<;>rfl))
  refine aS (Or.inl rfl) Tryz.results4 (aC.tmp rfl) ?_
  exact⟨rfl,k5.trans k57⟩
end
section
open Go.ChangeShapes Go.WideShapes Go.ChangeAt Go.RowKit
theorem xE(os:Os):laidMet Tryz.prog Rows.chainMoneyUptoRow.laid ((jR os).forCall (fun _ _=>0) ⟨#[],#[C3,C2,.slice none 0 0],[]⟩).memory:=
 laidMet_of_run' 8 (by kernel_rfl) (by kernel_rfl)
theorem reads(os:Os){H:Type}(enc:TypeId×Value→H):∃places,DataW.whole enc Tryz.prog ((jR os).forCall (fun _ _=>0) ⟨#[],#[C3,C2,.slice none 0 0],[]⟩).memory Tryz.f4.params.toList Rows.chainMoneySpec.vars false #[C3,C2,.slice none 0 0].toList 8=some ([.agg [.lit (.int .u8 0),.lit (.int .u8 0),.lit (.int .u8 0)],.agg [.lit (.int .u16 0),.lit (.int .u16 0),.lit (.int .u16 0),.lit (.int .u16 0)],.nil],[],places):=
 ⟨[],by kernel_rfl⟩
set_option maxRecDepth 100000 in
theorem iD(os:Os)(started:os.Started)(H:Type)(enc:TypeId×Value→H)(F:Stop.Interp):
  ReturnsInHanded {} Tryz.checked os 4 .any ((Rows.OpenSpec.upto Rows.chainMoneySpec).preRow enc Tryz.prog Tryz.f4 Rows.chainMoneyUptoRow.domain false Rows.chainMoneyUptoRow.laid) (((Rows.OpenSpec.upto Rows.chainMoneySpec).at F).post enc Tryz.prog Tryz.f4 false true false false):=by
 obtain⟨places,hx⟩:=reads os enc
 refine returnsInHanded_of_row (C:=Tryz.checked) (s:=Rows.OpenSpec.upto Rows.chainMoneySpec) own started (by kernel_rfl) Tryz.func4
  (witness_row_at (enc:=enc) (C:=Tryz.checked) false (jR os) #[C3,C2,.slice none 0 0] rfl (by kernel_rfl) (by kernel_rfl) (by kernel_rfl)
   (OpenSpec.preRow_of_cond 8 hx (by kernel_rfl) (fun k hk=>by cases hk;kernel_rfl) (by kernel_rfl) (xE os))) ?_
 intro W base args ds gs before hval0 hW0 _ hcond _ _ _ _
 have hval:∀(j:Nat) t v,Tryz.f4.params[j]?=some t→args[j]?=some v→Value.okWide Tryz.prog W .any base t v:=hval0
 have hW':DataW.Whole enc Tryz.prog Tryz.f4.params.toList Rows.chainMoneySpec.vars false W args.toList ds gs before:=hW0
 have hW:=hW'
 obtain⟨p,q,hA0,hV,rfl,hfz,hnd⟩:=hW
 have hA:DataW.TrodAll enc Tryz.prog W 0 (fun _=>true) true Tryz.f4.params.toList args.toList ds p:=hA0
 rw[Tryz.params4] at hA hval
 obtain⟨v0,v1,v2,d0,d1,d2,p0,p1,p2,rfl,rfl,rfl,h0,h1,h2⟩:=trodAll_three hA
 have hk:Rows.uptoBulkAll ([d0,d1,d2]++gs)≤1048576:=of_decide_eq_true (hcond _ rfl)
 have hb:Rows.uptoBulk d2≤1048576:=Nat.le_trans (tP (List.mem_append_left _ (by simp))) hk
 obtain⟨f,l,s,rfl⟩:=DW (hval 0 22 v0 rfl rfl) h0
 obtain⟨m4,rfl,hm⟩:=C9 (hval 1 24 v1 rfl rfl) h1
 obtain⟨a,c,acts,rfl,hS,hI,hbd⟩:=AV (hval 2 25 v2 rfl rfl) h2 hb
 refine(rD f l s hm hS hI hbd).mono fun e W' ⟨he,hk⟩=>⟨_,he,?_⟩
 exact xD laidOut (by rw[Tryz.params4];exact of_decide_eq_true (by kernel_rfl)) rfl hW' rfl (by kernel_rfl) Tryz.underlying4 hk
theorem j4:Rows.ChainMoneyUptoSaid:=
 OpenClaim.holds_of_cond 4 Tryz.f4 rfl rfl rfl rfl rfl rfl rfl ⟨rfl,rfl,rfl,rfl,rfl⟩ rfl rfl rfl rfl rfl (by kernel_rfl) Tryz.func4 (by kernel_rfl)
  (of_decide_eq_true (by kernel_rfl)) (by unfold Func.isWrapper;first|(rw[if_pos (by decide+kernel)];kernel_rfl)|(rw[if_neg (by decide+kernel)];exact⟨rfl,rfl⟩))
  (fun os started H enc _ F=>by rw[OpenClaim.pre_eq_preRow];exact iD os started H enc F)
theorem je(f:FuncId)(fn:Func)(hf:Tryz.pinned.checked.prog.funcNamed "baize/baizelaw30.ChainMoney"=some f)(hfn:Tryz.pinned.checked.prog.funcs[f]?=some fn):
  true=Tryz.pinned.checked.prog.looks []∧∀(j:Nat) t,fn.params[j]?=some t→Tryz.pinned.checked.prog.wantsStandIn t=false:=by
 obtain rfl:f=4:=Option.some.inj ((show Tryz.prog.funcNamed "baize/baizelaw30.ChainMoney"=some 4 by kernel_rfl).symm.trans hf)|>.symm
 obtain rfl:fn=Tryz.f4:=(Option.some.inj (Tryz.func4.symm.trans hfn)).symm
 refine⟨by kernel_rfl,fun j t ht=>?_⟩
 rw[Tryz.params4] at ht
 have ht:=Array.mem_of_getElem? ht
 simp only[List.mem_toArray,List.mem_cons,List.mem_nil_iff,or_false] at ht
 rcases ht with rfl|rfl|rfl
 ·exact(show Tryz.prog.wantsStandIn 22=false by kernel_rfl)
 ·exact(show Tryz.prog.wantsStandIn 24=false by kernel_rfl)
 ·exact(show Tryz.prog.wantsStandIn 25=false by kernel_rfl)
theorem chainMoney_holds:Rows.ChainMoneyUptoCardSaid:=
 Claim7.holds_tied_plain_at .later [] _ _ _ _ j4 (fun _ h=>by cases h) (by kernel_rfl) (fun _ h=>by cases h) chainMoneyUpto_row_tie rfl ⟨rfl,rfl⟩ (by kernel_rfl) rfl je (by kernel_rfl)
end
end Go.Proofs.YtpnjgjddabeapaaGreatDoor
