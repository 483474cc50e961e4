import Derived.Test.YtpnjgjddabeapaaGreatDoorMo3
namespace Go.Proofs.YtpnjgjddabeapaaGreatDoor
set_option linter.all false
set_option maxHeartbeats 400000000
section
open Go.Proofs
abbrev bcv(b:Bool):Value:= .bool b
def exB(L:List (Dg×Int))(e:En):Bool:=L.any (fun p=>decide (p.1=e.key∧p.2≤e.non))
theorem yT{m L:List (Dg×Int)}{e:En}(h:pO m L):exB L e=true↔∃n,au m e.key=some n∧n≤e.non:=by
 rw[h e.key e.non]
 unfold exB
 rw[List.any_eq_true]
 constructor
 ·rintro⟨p,h1,h2⟩;exact⟨p,h1,of_decide_eq_true h2⟩
 ·rintro⟨p,h1,h2⟩;exact⟨p,h1,decide_eq_true h2⟩
def mw(l:List En)(ns:List Dg):List (Dg×Int):=(l.filter (fun e=>decide (aK e.t∈ns))).map yi
theorem sE{l:List En}{ns:List Dg}{i:Nat}(hi:i<l.length):mw (l.take (i+1)) ns=if aK l[i].t∈ns then mw (l.take i) ns++[yi l[i]] else mw (l.take i) ns:=by
 unfold mw
 rw[List.take_succ_eq_append_getElem hi,List.filter_append,List.map_append]
 by_cases g:aK l[i].t∈ns
 ·rw[if_pos g,List.filter_cons_of_pos (p:=fun e:En=>decide (aK e.t∈ns)) (decide_eq_true g)]
  rfl
 ·rw[if_neg g,List.filter_cons_of_neg (p:=fun e:En=>decide (aK e.t∈ns)) (by simpa using g)]
  simp
def fL(most:Int)(c:Nat):Int:=if most≤c then(if most≤0 then most else 0) else most-c
theorem yB(most:Int):fL most 0=most:=by unfold fL;split<;>(try split)<;>omega
theorem vS{most:Int}{c:Nat}:1≤fL most c↔(c:Int)<most:=by unfold fL;split<;>(try split)<;>omega
theorem qC{most:Int}{c:Nat}:fL most (c+1)=if(c:Int)<most then fL most c-1 else fL most c:=by
 unfold fL
 split<;>split<;>(try split)<;>(try split)<;>omega
def jY(q:Nat→Bool)(pre:List Nat):Nat:=(pre.filter q).length
def kQ(q:Nat→Bool)(most:Int)(pre:List Nat)(j:Nat):Bool:=q j&&decide ((jY q pre:Int)<most)
theorem pA(q:Nat→Bool)(pre:List Nat)(j:Nat):jY q (pre++[j])=if q j then jY q pre+1 else jY q pre:=by
 unfold jY
 rw[List.filter_append,List.length_append]
 by_cases h:q j=true
 ·rw[if_pos h,List.filter_cons_of_pos h];rfl
 ·rw[if_neg h,List.filter_cons_of_neg h];rfl
theorem kq(q:Nat→Bool)(most:Int):∀(l pre:List Nat),dJ (kQ q most) pre l=(l.filter q).take (most-(jY q pre:Int)).toNat
 |[],pre=>by simp[dJ]
 |j::l,pre=>by
  simp only[dJ]
  rw[kq q most l (pre++[j]),pA]
  by_cases h:q j=true
  ·rw[List.filter_cons_of_pos h,if_pos h]
   by_cases h2:(jY q pre:Int)<most
   ·have e:(most-(jY q pre:Int)).toNat=(most-((jY q pre+1:Nat):Int)).toNat+1:=by omega
    rw[if_pos (by unfold kQ;rw[h,decide_eq_true h2];rfl),e,List.take_succ_cons]
   ·have e:(most-(jY q pre:Int)).toNat=0:=by omega
    have e2:(most-((jY q pre+1:Nat):Int)).toNat=0:=by omega
    rw[if_neg (by unfold kQ;rw[decide_eq_false h2,Bool.and_false];decide),e,e2,List.take_zero,List.take_zero]
  ·rw[List.filter_cons_of_neg h,if_neg h,if_neg (by unfold kQ;simp[h])]
attribute [local irreducible] CG NG SG aJ Der Row Blk av aA aK aL
theorem p7{w:World}{b10 b15 bm:Nat}{m L:List (Dg×Int)}{z:Int}(e:Em)(h10:Row w b10 0 [.map (some bm)])(hm:av w bm (dv (n:=8)) zcv m)(hM:pO m L)(h15:Blk w b15 (.cells #[.int .i64 z] 3))(hz:wo z):
  Calls Tryz.prog 125 #[ev e,.pointer (some ⟨b10,0,none⟩),.pointer (some ⟨b15,0,none⟩)] w (fun e' w'=>e'= .returned (.bool (!exB L e.en&&decide (1≤z)))∧Kp [b15] w w'∧Blk w' b15 (.cells #[.int .i64 (if !exB L e.en&&decide (1≤z) then z-1 else z)] 3)):=by
 refine eA (args:=[ev e,.pointer (some ⟨b10,0,none⟩),.pointer (some ⟨b15,0,none⟩)]) Tryz.func125 rfl Tryz.ntmps125 rfl ?_
 obtain⟨z1,z2⟩:=hz
 repeat apply gst
 refine SG.box rfl rfl rfl (ag rfl) (fun b1 w1 hk1 hb1 hB1=>?_)
 have hB1:Blk w1 b1 (.cells (ec e).toArray 216):=hB1
 obtain⟨-,q0,q1,-⟩:=dt (Row.all hB1 rfl)
 simp only[Nat.zero_add] at q1
 have h10:=h10.kp0 hk1
 have hm:=hm.kp0 hk1
 have h15:=h15.kp0 hk1
 have r15:Row w1 b15 0 [.int .i64 z]:=Row.all h15 rfl
 have hup:=yT (e:=e.en) hM
 have fin:exB L e.en=false→∀{x:Int},1≤z→x=z-1→True:=fun _ _ _ _=>trivial
 by_cases hex:∃n,au m e.x.t.frm=some n∧n≤e.x.t.non
 ·obtain⟨n,hl,g⟩:=hex
  have e1:exB L e.en=true:=hup.2 ⟨n,hl,g⟩
  have e2:(!exB L e.en&&decide (1≤z))=false:=by rw[e1];rfl
  rw[e2]
  by_cases gz:z<1
  ·repeat (first|apply gst|(apply gsv;rfl;(first|apply qmv|apply qas|apply qlc|apply qla|apply qfa|apply qpk|apply qls|apply qlk|apply qxt)<;>first|rfl|assumption|(apply dct;first|assumption|omega)|exact List.not_mem_nil|apply ah|exact lk1 (by assumption)|fail)|refine SG.skip rfl rfl ?_)
   refine gct rfl ?_
   repeat (first|apply gst|(apply gsv;rfl;apply qas<;>rfl))
   refine aN (Or.inl rfl) Tryz.results125 (aw.tmp rfl) ?_
   exact⟨rfl,hk1.any,h15⟩
  ·repeat (first|apply gst|(apply gsv;rfl;(first|apply qmv|apply qas|apply qlc|apply qla|apply qfa|apply qpk|apply qls|apply qge|apply qlk|apply qxt)<;>first|rfl|assumption|(apply dct;first|assumption|omega)|(apply dcf;first|assumption|omega)|exact List.not_mem_nil|apply ah|exact lk1 (by assumption)|fail))
   refine gct rfl ?_
   repeat (first|apply gst|(apply gsv;rfl;apply qas<;>rfl))
   refine aN (Or.inl rfl) Tryz.results125 (aw.tmp rfl) ?_
   exact⟨rfl,hk1.any,h15⟩
 ·have e1:exB L e.en=false:=by
   cases hb:exB L e.en with
   |false=>rfl
   |true=>exact absurd (hup.1 hb) hex
  by_cases gz:z<1
  ·have e2:(!exB L e.en&&decide (1≤z))=false:=by rw[decide_eq_false (by omega),Bool.and_false]
   rw[e2]
   cases hl:au m e.x.t.frm with
   |none=>
    repeat (first|apply gst|(apply gsv;rfl;(first|apply qmv|apply qas|apply qlc|apply qla|apply qfa|apply qpk|apply qls|apply qlk|apply qxt)<;>first|rfl|assumption|(apply dct;first|assumption|omega)|exact List.not_mem_nil|apply ah|exact lk0 (by assumption)|fail)|refine SG.skip rfl rfl ?_)
    refine gct rfl ?_
    repeat (first|apply gst|(apply gsv;rfl;apply qas<;>rfl))
    refine aN (Or.inl rfl) Tryz.results125 (aw.tmp rfl) ?_
    exact⟨rfl,hk1.any,h15⟩
   |some n=>
    repeat (first|apply gst|(apply gsv;rfl;(first|apply qmv|apply qas|apply qlc|apply qla|apply qfa|apply qpk|apply qls|apply qlk|apply qxt)<;>first|rfl|assumption|(apply dct;first|assumption|omega)|exact List.not_mem_nil|apply ah|exact lk1 (by assumption)|fail)|refine SG.skip rfl rfl ?_)
    refine gct rfl ?_
    repeat (first|apply gst|(apply gsv;rfl;apply qas<;>rfl))
    refine aN (Or.inl rfl) Tryz.results125 (aw.tmp rfl) ?_
    exact⟨rfl,hk1.any,h15⟩
  ·have e2:(!exB L e.en&&decide (1≤z))=true:=by rw[e1,decide_eq_true (by omega)];rfl
   rw[e2]
   cases hl:au m e.x.t.frm with
   |none=>
    repeat (first|apply gst|(apply gsv;rfl;(first|apply qmv|apply qas|apply qlc|apply qla|apply qfa|apply qpk|apply qls|apply qlk|apply qxt)<;>first|rfl|assumption|(apply dcf;first|assumption|omega)|exact List.not_mem_nil|apply ah|exact lk0 (by assumption)|fail)|refine SG.skip rfl rfl ?_)
    refine gcf rfl ?_
    repeat (first|apply gst|(apply gsv;rfl;(first|apply qlc|apply qsb)<;>first|rfl|(apply Ar.mk;omega)|assumption|exact List.not_mem_nil))
    refine SG.gZ rfl rfl (ag rfl) (ag rfl) h15 rfl rfl (fun w2 hk2 hB2=>?_)
    repeat (first|apply gst|(apply gsv;rfl;apply qas<;>rfl))
    refine aN (Or.inl rfl) Tryz.results125 (aw.tmp rfl) ?_
    exact⟨rfl,hk1.any.trans hk2,hB2⟩
   |some n=>
    have g:¬n≤e.x.t.non:=fun g=>hex ⟨n,hl,g⟩
    repeat (first|apply gst|(apply gsv;rfl;(first|apply qmv|apply qas|apply qlc|apply qla|apply qfa|apply qpk|apply qls|apply qge|apply qlk|apply qxt)<;>first|rfl|assumption|(apply dcf;first|assumption|omega)|exact List.not_mem_nil|apply ah|exact lk1 (by assumption)|fail))
    refine gcf rfl ?_
    repeat (first|apply gst|(apply gsv;rfl;(first|apply qlc|apply qsb)<;>first|rfl|(apply Ar.mk;omega)|assumption|exact List.not_mem_nil))
    refine SG.gZ rfl rfl (ag rfl) (ag rfl) h15 rfl rfl (fun w2 hk2 hB2=>?_)
    repeat (first|apply gst|(apply gsv;rfl;apply qas<;>rfl))
    refine aN (Or.inl rfl) Tryz.results125 (aw.tmp rfl) ?_
    exact⟨rfl,hk1.any.trans hk2,hB2⟩
theorem qi{w:World}{base p:Nat}{v:Value}{room:Int}{ms:List Em}(hP:Pl w base p v room ms)(hI:eB room (ms.map Em.en))(hr:room≤1024){most:Int}(hmost:wo most){a0:Option Addr}{c0:Nat}{ns:List Dg}(hN:Sl dc 8 w a0 ns)(hnl:ns.length≤10000000):
  Calls Tryz.prog 80 #[.pointer (some ⟨p,0,none⟩),.int .i64 most,.slice a0 ns.length c0] w (fun e w'=>∃v' xs,e= .returned v'∧Kp [] w w'∧pL w' w.heap.size v' xs∧xs.map (·.t)=(((sF (ms.map Em.en)).filter (fun e=> !exB (mw (ms.map Em.en) ns) e)).take most.toNat).map (·.t)):=by
 refine dq Tryz.func80 rfl Tryz.ntmps80 rfl ?_
 have hll:ms.length≤1024:=by have:=hI.len;rw[List.length_map] at this;omega
 have hlp:=hP.blk.lt
 have hvp:∀b,v.ownBlock=some b→b<w.heap.size:=cm hP.own
 repeat (first|apply gst|(apply gsv;rfl;(first|apply qep|apply qmv|apply qas)<;>rfl))
 refine gcf rfl ?_
 repeat apply gst
 refine SG.makeMap (dv (n:=8)) bcv rfl rfl (fun bo w1 hk1 hbo hmo=>?_)
 have s1:=hk1.size
 have lto:=hmo.lt
 have hN1:=hN.kp0 hk1
 repeat (first|apply gst|(apply gsv;rfl;(first|apply qmv|apply qas|apply qln)<;>rfl))
 refine CG.loop (X:=Nat×List (Dg×Bool)) (fun x=>[(0,.pointer (some ⟨p,0,none⟩)),(1,.int .i64 most),(7,.map (some bo)),(19,.slice a0 ns.length c0),(20,.int .i64 (ns.length:Int)),(21,.int .i64 (x.1:Int))])
  (fun x w'=>x.1≤ns.length∧Kp [bo] w1 w'∧av w' bo (dv (n:=8)) bcv x.2∧∀d,au x.2 d=if d∈ns.take x.1 then some true else none) (fun x=>ns.length-x.1) (0,[]) ⟨Nat.zero_le _,Kp.refl _ _,hmo,fun d=>(by simp;rfl)⟩ (aW.of rfl) ?_
 rintro⟨i,mo⟩ w2 ⟨hi,hk2,hmo2,hout⟩
 simp only at hi hmo2 hout
 refine CG.to [(0,.pointer (some ⟨p,0,none⟩)),(1,.int .i64 most),(7,.map (some bo)),(19,.slice a0 ns.length c0),(20,.int .i64 (ns.length:Int)),(21,.int .i64 (i:Int))] (aW.of rfl) ?_
 have k2:Kp [] w w2:=hk1.ai hk2 (aV (by omega))
 have s2:=k2.size
 by_cases hlt:i<ns.length
 ·have g1:(i:Int)<(ns.length:Int):=by omega
  have hN2:Sl dc 8 w2 a0 ns:=hN1.kpN hk2 (fun hn b off e=>nm1 (by have:=hN.ltN hn b off e;omega))
  obtain⟨g,o1,rfl,hri⟩:=hN2.at hlt
  repeat (first|apply gst|(apply gsv;rfl;apply qls<;>first|rfl|(apply dct;first|assumption|omega)))
  refine gct rfl ?_
  repeat (first|apply gst|(apply gsv;rfl;(first|apply qla|apply qix)<;>first|rfl|(apply Ar.mk;omega)|assumption|exact List.not_mem_nil|apply ah))
  refine SG.alloc rfl rfl rfl (fun b9 w3 hk3 hb9 hB9=>?_)
  refine SG.aB (l:=dc ns[i]) rfl rfl (ag rfl) (ag rfl) hB9 (ah _) rfl (aO _) (fun w4 hk4 hB9=>?_)
  have k24:Kp [] w2 w4:=hk3.ai hk4 (aV (by omega))
  have r9:Row w4 b9 0 (dc ns[i]):=Row.all hB9 rfl
  have hmo4:=hmo2.kp0 k24
  clear hri
  repeat (first|apply gst|(apply gsv;rfl;(first|apply qmv|apply qla)<;>first|rfl|assumption|exact List.not_mem_nil|apply ah))
  refine SG.mapUpdate (enc:=dv (n:=8)) (V:=bcv) (kx:=ns[i]) (vy:=true) rfl rfl (ag rfl) (ag rfl) (ag rfl) hmo4 jZ.key (fun w5 hk5 hm5=>?_)
  repeat (first|apply gst|(apply gsv;rfl;(first|apply qmv|apply qad)<;>first|rfl|(apply Ar.mk;omega)))
  refine NG.round (i+1,ca mo ns[i] true) (aW.of rfl) ⟨by simp only;omega,(hk2.trans k24.any).trans hk5,hm5,fun d=>?_⟩ (by simp only;omega)
  simp only
  rw[aZ,hout d,List.take_succ_eq_append_getElem hlt]
  by_cases e:ns[i]=d
  ·rw[if_pos e,if_pos (by simp[e])]
  ·rw[if_neg e]
   have:d∈ns.take i++[ns[i]]↔d∈ns.take i:=by
    rw[List.mem_append,List.mem_singleton]
    exact⟨fun h=>h.elim id (fun h=>absurd h.symm e),Or.inl⟩
   by_cases h2:d∈ns.take i
   ·rw[if_pos h2,if_pos (this.2 h2)]
   ·rw[if_neg h2,if_neg (fun h=>h2 (this.1 h))]
 have g1:¬(i:Int)<(ns.length:Int):=by omega
 rw[List.take_of_length_le (by omega)] at hout
 repeat (first|apply gst|(apply gsv;rfl;apply qls<;>first|rfl|(apply dcf;first|assumption|omega)))
 refine gcf rfl ?_
 repeat apply gst
 refine SG.makeMap (dv (n:=8)) zcv rfl rfl (fun bm w3 hk3 hbm hm=>?_)
 refine SG.alloc rfl rfl rfl (fun b7 w4 hk4 hb7 hB7=>?_)
 have s3:=hk3.size
 have s23:=hk2.size
 have ltm:=hm.lt
 have hm:=hm.kp0 hk4
 refine SG.gZ rfl rfl (ag rfl) (ag rfl) hB7 rfl rfl (fun w5 hk5 hB7=>?_)
 have k25:Kp [] w2 w5:=(hk3.trans hk4).ai hk5 (aV (by omega))
 have hm5:av w5 bm (dv (n:=8)) zcv []:=hm.kp hk5 (nm1 (by omega))
 have hmo5:=hmo2.kp0 k25
 have r7:Row w5 b7 0 [.map (some bm)]:=Row.all hB7 rfl
 have lt7:=hB7.lt
 have k5:=k2.trans k25
 have hP5:=hP.kp0 k5
 obtain⟨a,c,rfl,hc,hS⟩:=hP5.sl
 obtain⟨-,q1⟩:=hP5.rows
 have s5:=k5.size
 have lto2:=hmo2.lt
 clear hB7 hm g1
 repeat (first|apply gst|(apply gsv;rfl;(first|apply qmv|apply qlc|apply qfa|apply qnc|apply qln)<;>first|rfl|assumption|exact List.not_mem_nil))
 refine CG.loop (X:=Nat×List (Dg×Int)) (fun x=>[(0,.pointer (some ⟨p,0,none⟩)),(1,.int .i64 most),(7,.map (some bo)),(10,.pointer (some ⟨b7,0,none⟩)),(32,.slice a ms.length c),(33,.int .i64 (ms.length:Int)),(34,.int .i64 (x.1:Int))])
  (fun x w'=>x.1≤ms.length∧Kp [bm] w5 w'∧av w' bm (dv (n:=8)) zcv x.2∧pO x.2 (mw ((ms.map Em.en).take x.1) ns)) (fun x=>ms.length-x.1) (0,[]) ⟨Nat.zero_le _,Kp.refl _ _,hm5,pO.nil⟩ (aW.of rfl) ?_
 clear q1
 rintro⟨i,m⟩ w6 ⟨hi,hk6,hm6,hM⟩
 simp only at hi hm6 hM
 refine CG.to [(0,.pointer (some ⟨p,0,none⟩)),(1,.int .i64 most),(7,.map (some bo)),(10,.pointer (some ⟨b7,0,none⟩)),(32,.slice a ms.length c),(33,.int .i64 (ms.length:Int)),(34,.int .i64 (i:Int))] (aW.of rfl) ?_
 have k6:Kp [] w w6:=k5.ai hk6 (aV (by omega))
 have hP6:=hP.kp0 k6
 have r7':Row w6 b7 0 [.map (some bm)]:=r7.kp hk6 (nm1 (by omega))
 have hmo6:av w6 bo (dv (n:=8)) bcv mo:=hmo5.kp hk6 (nm1 (by omega))
 have s6:=hk6.size
 by_cases hlt:i<ms.length
 rotate_left
 ·have g1:¬(i:Int)<(ms.length:Int):=by omega
  rw[List.take_of_length_le (by rw[List.length_map];omega)] at hM
  clear hmo6
  repeat (first|apply gst|(apply gsv;rfl;apply qls<;>first|rfl|(apply dcf;first|assumption|omega)))
  refine gcf rfl ?_
  repeat (first|apply gst|(apply gsv;rfl;apply qmv<;>rfl))
  refine SG.alloc rfl rfl rfl (fun b15 w7 hk7 hb15 hB15=>?_)
  refine SG.gZ rfl rfl (ag rfl) (ag rfl) hB15 rfl rfl (fun w8 hk8 hB15=>?_)
  have k68:Kp [] w6 w8:=hk7.ai hk8 (aV (by omega))
  have k8:=k6.trans k68
  have hP8:=hP.kp0 k8
  have r8:=r7'.kp0 k68
  have hm8:=hm6.kp0 k68
  have lt15:=hB15.lt
  have hltm:=hm6.lt
  have hbl:=hP.ir
  obtain⟨q,hq⟩:∃q:Nat→Bool,q=fun j=> !exB (mw (ms.map Em.en) ns) (enA (ms.map Em.en) j):=⟨_,rfl⟩
  repeat (first|apply gst|(apply gsv;rfl;apply qmv<;>rfl))
  refine SG.val rfl rfl rfl rfl (qmf (vs:=[.pointer (some ⟨b7,0,none⟩),.pointer (some ⟨b15,0,none⟩)]) rfl) ?_
  refine SG.call rfl rfl rfl (vs:=[.pointer (some ⟨p,0,none⟩),fnv 125 [.pointer (some ⟨b7,0,none⟩),.pointer (some ⟨b15,0,none⟩)]]) (Evs.of rfl) ((sr (Fn:=by infer_instance) (g:=kQ q most) (S:=[b15]) hP8 hI hr (fun pre W=>Blk W b15 (.cells #[.int .i64 (fL most (jY q pre))] 3)∧∃T,(∀b∈T,w8.heap.size≤b)∧Kp (b15::T) w8 W)
   ⟨by
    have e:fL most (jY q [])=most:=yB most
    rw[e]
    exact hB15,[],fun b hb=>(by cases hb),Kp.refl _ _⟩
   (fun pre W W' T hT hk ⟨h1,T2,h2,h3⟩=>⟨h1.kp hk (fun hm=>by have:=hT _ hm;omega),T2++T,fun b hb=>(by rcases List.mem_append.1 hb with h|h;exact h2 b h;exact hT b h),(h3.mono (fun b hb=>by
    rcases List.mem_cons.1 hb with h|h
    ·exact List.mem_cons.2 (Or.inl h)
    ·exact List.mem_cons.2 (Or.inr (List.mem_append_left _ h)))).trans (hk.mono (fun b hb=>List.mem_cons.2 (Or.inr (List.mem_append_right _ hb))))⟩)
   (fun W hk=>hP8.kp hk (nm1 (by omega)) (fun b hb=>nm1 (by have:=hvp b hb;omega)) (Oth.cons (by omega) (Oth.cells hB15 (by decide)) Oth.nil))
   (fun b hb=>by rw[List.mem_singleton] at hb;rw[hb];exact lt15)
   (fun pre W hJ=>Oth.cons (Nat.zero_le _) (Oth.cells hJ.1 (by decide)) Oth.nil)
   (fun pre j hj W hsp hk ⟨h1,T,h2,h3⟩=>?_)).mono (fun e w9 hh=>?_))
  rotate_left
  ·obtain⟨v',xs,he,hk9,hX,hxs,-⟩:=hh
   refine⟨_,he,?_⟩
   repeat (first|apply gst|(apply gsv;rfl;apply qas<;>rfl))
   refine aN (Or.inl rfl) Tryz.results80 (aw.tmp rfl) ?_
   refine⟨v',xs,rfl,k8.ai hk9 (aV (by omega)),⟨bW hX.own k8.size,hX.ins⟩,?_⟩
   rw[hxs,kq]
   have e0:(most-((jY q []:Nat):Int)).toNat=most.toNat:=by
    have:jY q []=0:=rfl
    omega
   rw[e0,hq,←qw,←List.map_take,List.map_map]
   rfl
  ·have hnT:∀b,b<w8.heap.size→b≠b15→b∉b15::T:=fun b hb hne hm=>by
    rcases List.mem_cons.1 hm with h|h
    ·exact hne h
    ·have:=h2 b h
     omega
   have s8:=k68.size
   refine(p7 ms[j] (r8.kp h3 (hnT _ (by omega) (by omega))) (hm8.kp h3 (hnT _ (by omega) (by omega))) hM h1 (by
    obtain⟨g3,g4⟩:=hmost
    unfold wo fL
    split
    ·split<;>omega
    ·omega)).mono (fun e' w' hh=>?_)
   obtain⟨he,hk',hB'⟩:=hh
   have hqj:q j= !exB (mw (ms.map Em.en) ns) ms[j].en:=by
    rw[hq]
    simp only
    rw[tJ (by simpa using hj),List.getElem_map]
   have hlz:=vS (most:=most) (c:=jY q pre)
   have hg:(!exB (mw (ms.map Em.en) ns) ms[j].en&&decide (1≤fL most (jY q pre)))=kQ q most pre j:=by
    unfold kQ
    rw[hqj]
    congr 1
    by_cases h:(jY q pre:Int)<most
    ·rw[decide_eq_true h,decide_eq_true (hlz.2 h)]
    ·rw[decide_eq_false h,decide_eq_false (fun hh=>h (hlz.1 hh))]
   rw[hg] at he hB'
   refine⟨he,hk',?_,T,h2,h3.trans (hk'.mono (fun b hb=>by rw[List.mem_singleton] at hb;rw[hb];exact List.mem_cons_self))⟩
   have e4:fL most (jY q (pre++[j]))=if kQ q most pre j then fL most (jY q pre)-1 else fL most (jY q pre):=by
    rw[pA]
    unfold kQ
    cases hqq:q j with
    |false=>rw[Bool.false_and];rfl
    |true=>
     rw[Bool.true_and,if_pos rfl,qC]
     by_cases h:(jY q pre:Int)<most
     ·rw[if_pos h,decide_eq_true h,if_pos rfl]
     ·rw[if_neg h,decide_eq_false h,if_neg (by decide)]
   rw[e4]
   exact hB'
 have g1:(i:Int)<(ms.length:Int):=by omega
 obtain⟨a',c',e',-,hS6⟩:=hP6.sl
 cases e'
 obtain⟨g,o1,rfl,hri⟩:=hS6.at hlt
 have hsu:=sE (l:=ms.map Em.en) (ns:=ns) (i:=i) (by simpa using hlt)
 rw[List.getElem_map] at hsu
 have hsu:mw ((ms.map Em.en).take (i+1)) ns=if aK ms[i].x.t∈ns then mw ((ms.map Em.en).take i) ns++[(ms[i].x.t.frm,ms[i].x.t.non)] else mw ((ms.map Em.en).take i) ns:=hsu
 have ho:=hout (aK ms[i].x.t)
 repeat (first|apply gst|(apply gsv;rfl;apply qls<;>first|rfl|(apply dct;first|assumption|omega)))
 refine gct rfl ?_
 repeat (first|apply gst|(apply gsv;rfl;(first|apply qla|apply qix)<;>first|rfl|(apply Ar.mk;omega)|assumption|exact List.not_mem_nil|apply ay))
 refine SG.alloc rfl rfl rfl (fun b9 w7 hk7 hb9 hB9=>?_)
 refine SG.aB (l:=ec ms[i]) rfl rfl (ag rfl) (ag rfl) hB9 (ay _) rfl (jI _) (fun w8 hk8 hB9=>?_)
 have k68:Kp [] w6 w8:=hk7.ai hk8 (aV (by omega))
 have r9:Row w8 b9 0 (ec ms[i]):=Row.all hB9 rfl
 obtain⟨-,q0,q1,-,q4,-⟩:=dt r9
 simp only[Nat.zero_add] at q0 q1 q4
 have r7':=r7'.kp0 k68
 have hm8:=hm6.kp0 k68
 have hmo8:=hmo6.kp0 k68
 clear hri r9 hmo6 hm6 hmo5 hmo2 hm5
 by_cases hin:aK ms[i].x.t∈ns
 rotate_left
 ·rw[if_neg hin] at ho hsu
  repeat (first|apply gst|(apply gsv;rfl;(first|apply qmv|apply qla|apply qfa|apply qlv)<;>first|rfl|assumption|exact List.not_mem_nil|apply ah|exact lk0 (by assumption)|fail))
  refine gcf rfl ?_
  repeat (first|apply gst|(apply gsv;rfl;(first|apply qmv|apply qad)<;>first|rfl|(apply Ar.mk;omega)))
  refine NG.round (i+1,m) (aW.of rfl) ⟨by simp only;omega,hk6.trans k68.any,hm8,by simp only;rw[hsu];exact hM⟩ (by simp only;omega)
 rw[if_pos hin] at ho hsu
 have put:(∀n,au m ms[i].x.t.frm=some n→ms[i].x.t.non<n)→pO (ca m ms[i].x.t.frm ms[i].x.t.non) (mw ((ms.map Em.en).take (i+1)) ns):=fun hn=>by rw[hsu];exact hM.put hn
 repeat (first|apply gst|(apply gsv;rfl;(first|apply qmv|apply qla|apply qfa|apply qlv)<;>first|rfl|assumption|exact List.not_mem_nil|apply ah|exact lk1 (by assumption)|fail))
 refine gct rfl ?_
 clear hmo8
 cases hlk:au m ms[i].x.t.frm with
 |none=>
  have hput:=put (fun n hn=>by rw[hlk] at hn;cases hn)
  repeat (first|apply gst|(apply gsv;rfl;(first|apply qmv|apply qas|apply qlc|apply qla|apply qfa|apply qpk|apply qlk|apply qxt|apply qnt)<;>first|rfl|assumption|exact List.not_mem_nil|apply ah|exact lk0 (by assumption)|fail)|refine SG.skip rfl rfl ?_)
  refine gct rfl ?_
  repeat (first|apply gst|(apply gsv;rfl;(first|apply qlc|apply qla|apply qfa)<;>first|rfl|assumption|exact List.not_mem_nil|apply ah))
  refine SG.mapUpdate (enc:=dv (n:=8)) (V:=zcv) (kx:=ms[i].x.t.frm) (vy:=ms[i].x.t.non) rfl rfl (ag rfl) (ag rfl) (ag rfl) hm8 jZ.key (fun w9 hk9 hm9=>?_)
  repeat (first|apply gst|(apply gsv;rfl;(first|apply qmv|apply qad)<;>first|rfl|(apply Ar.mk;omega)))
  refine NG.round (i+1,_) (aW.of rfl) ⟨by simp only;omega,(hk6.trans k68.any).trans hk9,hm9,hput⟩ (by simp only;omega)
 |some n=>
  by_cases hlt2:ms[i].x.t.non<n
  ·have hput:=put (fun n' hn=>by rw[hlk] at hn;cases hn;exact hlt2)
   repeat (first|apply gst|(apply gsv;rfl;(first|apply qmv|apply qas|apply qlc|apply qla|apply qfa|apply qpk|apply qgt|apply qlk|apply qxt|apply qnt)<;>first|rfl|assumption|(apply dct;first|assumption|omega)|exact List.not_mem_nil|apply ah|exact lk1 (by assumption)|fail))
   refine gct rfl ?_
   repeat (first|apply gst|(apply gsv;rfl;(first|apply qlc|apply qla|apply qfa)<;>first|rfl|assumption|exact List.not_mem_nil|apply ah))
   refine SG.mapUpdate (enc:=dv (n:=8)) (V:=zcv) (kx:=ms[i].x.t.frm) (vy:=ms[i].x.t.non) rfl rfl (ag rfl) (ag rfl) (ag rfl) hm8 jZ.key (fun w9 hk9 hm9=>?_)
   repeat (first|apply gst|(apply gsv;rfl;(first|apply qmv|apply qad)<;>first|rfl|(apply Ar.mk;omega)))
   refine NG.round (i+1,_) (aW.of rfl) ⟨by simp only;omega,(hk6.trans k68.any).trans hk9,hm9,hput⟩ (by simp only;omega)
  ·have hkeep:pO m (mw ((ms.map Em.en).take (i+1)) ns):=by rw[hsu];exact hM.yD hlk hlt2
   repeat (first|apply gst|(apply gsv;rfl;(first|apply qmv|apply qas|apply qlc|apply qla|apply qfa|apply qpk|apply qgt|apply qlk|apply qxt|apply qnt)<;>first|rfl|assumption|(apply dcf;first|assumption|omega)|exact List.not_mem_nil|apply ah|exact lk1 (by assumption)|fail))
   refine gcf rfl ?_
   repeat (first|apply gst|(apply gsv;rfl;(first|apply qmv|apply qad)<;>first|rfl|(apply Ar.mk;omega)))
   refine NG.round (i+1,m) (aW.of rfl) ⟨by simp only;omega,hk6.trans k68.any,hm8,hkeep⟩ (by simp only;omega)
end
section
noncomputable def fy:List Tx→List (Dg×Int)→Int
 |[],_=>0
 |t::l,seen=>if aL t≠0 then aL t else if(t.frm,t.non)∈seen then 7 else fy l ((t.frm,t.non)::seen)
noncomputable def aQ(b:Bl):Int:=if b.ht<0∨1099511627776<b.ht then 2 else if 64<b.txs.length then 8 else if fy b.txs []≠0 then fy b.txs [] else if(p8 (b.txs.map (·.fee)) 0).isSome then 0 else 2
def tkx(t:Tx)(h:aL t=0):Dg×Nn:=(t.frm,⟨t.non,(nD h).n0,(nD h).n1⟩)
theorem Jk(w:World)(a0 a1 a2 a3 a4 a5 a6 a7:UInt8)(n:Int):(Instr.build 242 #[(0,.agg #[bv a0,bv a1,bv a2,bv a3,bv a4,bv a5,bv a6,bv a7]),(1,.int .i64 n)]).run Tryz.prog w= .ok (.agg #[bv a0,bv a1,bv a2,bv a3,bv a4,bv a5,bv a6,bv a7,.int .i64 n]) w:=by kernel_rfl
theorem btk(w:World)(d:Dg)(n:Int):(Instr.build 242 #[(0,dv d),(1,.int .i64 n)]).run Tryz.prog w= .ok (.agg (dc d++[Value.int .i64 n]).toArray) w:=by
 obtain⟨l,h⟩:=d
 match l,h with
 |[a0,a1,a2,a3,a4,a5,a6,a7],_=>exact Jk w a0 a1 a2 a3 a4 a5 a6 a7 n
attribute [local irreducible] CG NG SG aJ Der Row Blk av aA num bV bR bI bu orJ cA aL cz ofI cM bh c9 aK rgt
theorem uU{w:World}{a:Option Addr}{l:List Int}(c:Nat)(hS:Sl ziL 1 w a l)(hl:l.length≤1000000):
  Ret Tryz.prog 139 #[.slice a l.length c] w (match p8 l 0 with|some s=> .tuple #[.int .i64 s,.int .i64 0]|none=> .tuple #[.int .i64 0,.int .i64 2]):=by
 refine aM Tryz.func139 rfl Tryz.ntmps139 rfl ?_
 repeat (first|apply gst|(apply gsv;rfl;(first|apply qmv|apply qas|apply qln)<;>rfl))
 refine CG.loop (X:=Nat×Int) (fun q=>[(4,.int .i64 q.2),(9,.slice a l.length c),(10,.int .i64 (l.length:Int)),(11,.int .i64 (q.1:Int))])
  (fun q w'=>q.1≤l.length∧Kp [] w w'∧p8 (l.drop q.1) q.2=p8 l 0)
  (fun q=>l.length-q.1) (0,0) ⟨Nat.zero_le _,Kp.refl _ _,rfl⟩ (aW.of rfl) ?_
 rintro⟨i,s⟩ w1 ⟨hi,k1,hs⟩
 simp only at hi hs
 refine CG.to [(4,.int .i64 s),(9,.slice a l.length c),(10,.int .i64 (l.length:Int)),(11,.int .i64 (i:Int))] (aW.of rfl) ?_
 by_cases hlt:i<l.length
 ·have g1:(i:Int)<(l.length:Int):=by omega
  obtain⟨ba,off,rfl,hrow⟩:=(hS.kp0 k1).at hlt
  rw[List.drop_eq_getElem_cons hlt] at hs
  generalize l[i]=n at hs hrow
  repeat (first|apply gst|(apply gsv;rfl;apply qls<;>first|rfl|(apply dct;first|assumption|omega)))
  refine gct rfl ?_
  repeat (first|apply gst|(apply gsv;rfl;(first|apply qmv|apply qas|apply qlc|apply qix)<;>first|rfl|(apply Ar.mk;omega)|assumption|exact List.not_mem_nil))
  refine SG.ret rfl rfl rfl (vs:=[.int .i64 s,.int .i64 n]) (Evs.of rfl) (qR s n w1) (fun w2 hk2=>?_)
  have k2:=k1.trans hk2
  clear hrow
  by_cases hr:rgt s∧rgt n∧rgt (s+n)
  ·rw[if_pos hr]
   rw[p8,if_pos hr] at hs
   repeat (first|apply gst|(apply gsv;rfl;(first|apply qmv|apply qas|apply qni|apply qxt)<;>first|rfl|(apply dct;first|assumption|omega)))
   refine gcf rfl ?_
   repeat (first|apply gst|(apply gsv;rfl;(first|apply qmv|apply qas|apply qad)<;>first|rfl|(apply Ar.mk;omega)))
   refine NG.round (i+1,s+n) (aW.of rfl) ⟨hlt,k2,hs⟩ (by simp only;omega)
  ·rw[if_neg hr]
   rw[p8,if_neg hr] at hs
   rw[←hs]
   repeat (first|apply gst|(apply gsv;rfl;(first|apply qmv|apply qas|apply qni|apply qxt)<;>first|rfl|(apply dcf;first|assumption|omega)))
   refine gct rfl ?_
   repeat (first|apply gst|(apply gsv;rfl;(first|apply qmv|apply qas)<;>rfl))
   refine dC (Or.inl rfl) Tryz.results139 (aw.tmp rfl) (aw.tmp rfl) ?_
   exact⟨rfl,k2⟩
 ·have g1:¬(i:Int)<(l.length:Int):=by omega
  have e8:i=l.length:=by omega
  subst e8
  rw[List.drop_length,p8] at hs
  rw[←hs]
  repeat (first|apply gst|(apply gsv;rfl;apply qls<;>first|rfl|(apply dcf;first|assumption|omega)))
  refine gcf rfl ?_
  repeat (first|apply gst|(apply gsv;rfl;(first|apply qmv|apply qas)<;>rfl))
  refine dC (Or.inl rfl) Tryz.results139 (aw.tmp rfl) (aw.tmp rfl) ?_
  exact⟨rfl,k1⟩
theorem jN{w:World}{n0:Nat}{x:Bm}(hx:x.In n0 w):Ret Tryz.prog 98 #[bkv x] w (.int .i64 (aQ x.b)):=by
 refine aM Tryz.func98 rfl Tryz.ntmps98 rfl ?_
 have hl:=hx.len
 repeat apply gst
 refine SG.box rfl rfl rfl (ag rfl) (fun b1 w1 hk1 hb1 hB1=>?_)
 have hB1:Blk w1 b1 (.cells (bkc x).toArray 50):=hB1
 have lb1:=hB1.lt
 obtain⟨-,-,r1,-,r3⟩:=bg hB1
 have el:x.b.txs.length=x.xs.length:=List.length_map _
 have fin:∀{L:Env} {w':World} {z:Int},aQ x.b=z→Kp [] w w'→look L 2=some (.int .i64 z)→NG 54 .ret (bodyPost Tryz.prog Tryz.f98 (fun e w'=>e= .returned (.int .i64 (aQ x.b))∧Kp [] w w')) L w':=
  fun hb hk' hL=>aN (Or.inl rfl) Tryz.results98 (aw.tmp hL) ⟨by rw[hb],hk'⟩
 by_cases h1:x.ht<0
 ·have e0:aQ x.b=2:=by unfold aQ;rw[if_pos (show x.b.ht<0∨_ from Or.inl h1)]
  repeat (first|apply gst|(apply gsv;rfl;(first|apply qmv|apply qas|apply qlc|apply qfa|apply qpk|apply qls)<;>first|rfl|assumption|(apply dct;first|assumption|omega)|exact List.not_mem_nil)|refine SG.skip rfl rfl ?_)
  refine gct rfl ?_
  repeat (first|apply gst|(apply gsv;rfl;apply qas<;>rfl))
  exact fin e0 hk1 rfl
 by_cases h2:1099511627776<x.ht
 ·have e0:aQ x.b=2:=by unfold aQ;rw[if_pos (show _∨1099511627776<x.b.ht from Or.inr h2)]
  repeat (first|apply gst|(apply gsv;rfl;(first|apply qmv|apply qas|apply qlc|apply qfa|apply qpk|apply qls|apply qgt)<;>first|rfl|assumption|(apply dct;first|assumption|omega)|(apply dcf;first|assumption|omega)|exact List.not_mem_nil))
  refine gct rfl ?_
  repeat (first|apply gst|(apply gsv;rfl;apply qas<;>rfl))
  exact fin e0 hk1 rfl
 have e1:aQ x.b=if 64<x.b.txs.length then 8 else if fy x.b.txs []≠0 then fy x.b.txs [] else if(p8 (x.b.txs.map (·.fee)) 0).isSome then 0 else 2:=by
  unfold aQ
  rw[if_neg (show ¬(x.b.ht<0∨1099511627776<x.b.ht) from fun h=>h.elim h1 h2)]
 repeat (first|apply gst|(apply gsv;rfl;(first|apply qmv|apply qas|apply qlc|apply qfa|apply qpk|apply qls|apply qgt)<;>first|rfl|assumption|(apply dcf;first|assumption|omega)|exact List.not_mem_nil))
 refine gcf rfl ?_
 by_cases h3:(64:Int)<(x.xs.length:Int)
 ·rw[if_pos (by omega)] at e1
  repeat (first|apply gst|(apply gsv;rfl;(first|apply qlc|apply qfa|apply qln|apply qgt)<;>first|rfl|assumption|(apply dct;first|assumption|omega)|exact List.not_mem_nil))
  refine gct rfl ?_
  repeat (first|apply gst|(apply gsv;rfl;apply qas<;>rfl))
  exact fin e1 hk1 rfl
 rw[if_neg (by omega)] at e1
 repeat (first|apply gst|(apply gsv;rfl;(first|apply qlc|apply qfa|apply qln|apply qgt)<;>first|rfl|assumption|(apply dcf;first|assumption|omega)|exact List.not_mem_nil))
 refine gcf rfl ?_
 repeat apply gst
 refine SG.makeMap tkv bcv rfl rfl (fun bm w2 hk2 hbm hm=>?_)
 have k2:=hk1.trans hk2
 have r3:=r3.kp0 hk2
 have hB1:=hB1.kp0 hk2
 have hIn:=hx
 clear r1 h1 h2
 have hS:=hIn.tx.sl
 have hI:=hIn.tx.ins
 have hx0:=hx
 have ltm:=hm.lt
 have lb2:=hB1.lt
 clear hx hIn
 generalize hsc:fy x.b.txs []=sc at e1
 have hsc:fy (x.xs.map (·.t)) []=sc:=hsc
 generalize hsu:p8 (x.b.txs.map (·.fee)) 0=su at e1
 have hsu:p8 ((x.xs.map (·.t)).map (·.fee)) 0=su:=hsu
 repeat (first|apply gst|(apply gsv;rfl;(first|apply qmv|apply qas|apply qlc|apply qfa|apply qln)<;>first|rfl|assumption|exact List.not_mem_nil))
 refine CG.loop (X:=Nat×List (Dg×Int)×List ((Dg×Nn)×Bool)) (fun q=>[(1,.pointer (some ⟨b1,0,none⟩)),(3,.map (some bm)),(24,.slice x.a x.xs.length x.c),(25,.int .i64 (x.xs.length:Int)),(26,.int .i64 (q.1:Int))])
  (fun q w'=>q.1≤x.xs.length∧Kp [] w w'∧Blk w' b1 (.cells (bkc x).toArray 50)∧av w' bm tkv bcv q.2.2∧fy ((x.xs.map (·.t)).drop q.1) q.2.1=sc∧∀k:Dg×Nn,au q.2.2 k=if(k.1,k.2.1)∈q.2.1 then some true else none)
  (fun q=>x.xs.length-q.1) (0,[],[]) ⟨Nat.zero_le _,k2,hB1,hm,hsc,fun k=>rfl⟩ (aW.of rfl) ?_
 rintro⟨i,seen,m⟩ w3 ⟨hi,k3,hB3,hm3,hsc,hmm⟩
 simp only at hi hm3 hsc hmm
 refine CG.to [(1,.pointer (some ⟨b1,0,none⟩)),(3,.map (some bm)),(24,.slice x.a x.xs.length x.c),(25,.int .i64 (x.xs.length:Int)),(26,.int .i64 (i:Int))] (aW.of rfl) ?_
 have ltm:=hm3.lt
 have lb3:=hB3.lt
 by_cases hlt:i<x.xs.length
 ·have g1:(i:Int)<(x.xs.length:Int):=by omega
  obtain⟨ba,off,hxa,hrow⟩:=(hS.kp0 k3).at hlt
  have hIi:=(hI _ (List.getElem_mem hlt)).kp0 k3
  have hdr:(x.xs.map (·.t)).drop i=x.xs[i].t::(x.xs.map (·.t)).drop (i+1):=by
   rw[List.drop_eq_getElem_cons (by rw[List.length_map];exact hlt),List.getElem_map]
  rw[hdr] at hsc
  clear hdr
  generalize x.xs[i]=y at hrow hIi hsc
  rw[hxa]
  repeat (first|apply gst|(apply gsv;rfl;apply qls<;>first|rfl|(apply dct;first|assumption|omega)))
  refine gct rfl ?_
  repeat (first|apply gst|(apply gsv;rfl;(first|apply qla|apply qix)<;>first|rfl|(apply Ar.mk;omega)|assumption|exact List.not_mem_nil|apply aj))
  refine SG.alloc rfl rfl rfl (fun b5 w5 hk5 hb5 hB5=>?_)
  refine SG.aB (l:=txc y) rfl rfl (ag rfl) (ag rfl) hB5 (aj _) rfl (bJ _) (fun w6 hk6 hB6=>?_)
  have hB6:Blk w6 b5 (.cells (txc y).toArray 52):=hB6
  have k36:=hk5.ai hk6 (aV hb5)
  obtain⟨q,-⟩:=aG hB6
  clear hrow
  repeat (first|apply gst|(apply gsv;rfl;apply qla<;>first|rfl|assumption|exact List.not_mem_nil|apply aj))
  refine SG.ret rfl rfl rfl (vs:=[txv y]) (Evs.of rfl) (fh (hIi.kp0 k36)) (fun w7 hk7=>?_)
  have k37:=k36.trans hk7
  clear q
  by_cases hw:aL y.t=0
  rotate_left
  ·rw[fy,if_pos hw] at hsc
   rw[hsc] at hw⊢
   rw[if_pos hw] at e1
   repeat (first|apply gst|(apply gsv;rfl;(first|apply qmv|apply qas|apply qni)<;>first|rfl|(apply dcf;first|assumption|omega)))
   refine gct rfl ?_
   repeat (first|apply gst|(apply gsv;rfl;(first|apply qmv|apply qas)<;>rfl))
   exact fin e1 (k3.trans k37) rfl
  rw[fy,if_neg (fun h=>h hw)] at hsc
  rw[hw]
  have h00:(0:Int)=0:=rfl
  repeat (first|apply gst|(apply gsv;rfl;(first|apply qmv|apply qas|apply qni)<;>first|rfl|(apply dct;first|assumption|omega)))
  refine gcf rfl ?_
  obtain⟨-,q0,q1,-⟩:=aG (hB6.kp0 hk7)
  repeat (first|apply gst|(apply gsv;rfl;(first|apply qlc|apply qla|apply qfa)<;>first|rfl|assumption|exact List.not_mem_nil|apply ah))
  refine SG.val rfl rfl rfl rfl (ar rfl (fun W=>btk W y.t.frm y.t.non)) ?_
  refine SG.alloc rfl rfl rfl (fun b7 w8 hk8 hb7 hB7=>?_)
  clear q0 q1
  refine SG.aB (l:=tkc (tkx y.t hw)) rfl rfl (ag rfl) (ag rfl) hB7 (dG _) rfl (xW _) (fun w9 hk9 hB9=>?_)
  have k39:=(k37.trans hk8).ai hk9 (aV (by have:=k37.size;omega))
  have qk:Row w9 b7 0 (tkc (tkx y.t hw)):=Row.all hB9 rfl
  have hm9:=hm3.kp0 k39
  have hal:au m (tkx y.t hw)=if(y.t.frm,y.t.non)∈seen then some true else none:=hmm (tkx y.t hw)
  have s39:=k39.size
  have lt7:=hB9.lt
  by_cases hin:(y.t.frm,y.t.non)∈seen
  ·rw[if_pos hin] at hsc hal
   subst hsc
   rw[if_pos (by decide)] at e1
   repeat (first|apply gst|(apply gsv;rfl;(first|apply qmv|apply qla|apply qlv)<;>first|rfl|assumption|exact List.not_mem_nil|apply dG|exact lk1 (by assumption)|fail))
   refine gct rfl ?_
   repeat (first|apply gst|(apply gsv;rfl;apply qas<;>rfl))
   exact fin e1 (k3.trans k39) rfl
  rw[if_neg hin] at hsc hal
  repeat (first|apply gst|(apply gsv;rfl;(first|apply qmv|apply qla|apply qlv)<;>first|rfl|assumption|exact List.not_mem_nil|apply dG|exact lk0 (by assumption)|fail))
  refine gcf rfl ?_
  repeat (first|apply gst|(apply gsv;rfl;(first|apply qmv|apply qla)<;>first|rfl|assumption|exact List.not_mem_nil|apply dG))
  refine SG.mapUpdate (enc:=tkv) (V:=bcv) (kx:=tkx y.t hw) (vy:=true) rfl rfl (ag rfl) (ag rfl) (ag rfl) hm9 xj (fun wa hka hma=>?_)
  repeat (first|apply gst|(apply gsv;rfl;(first|apply qmv|apply qad)<;>first|rfl|(apply Ar.mk;omega)))
  refine NG.round (i+1,(y.t.frm,y.t.non)::seen,ca m (tkx y.t hw) true) (aW.of rfl) ⟨hlt,(k3.trans k39).ai hka (aV (by have:=hk1.size;omega)),(hB3.kp0 k39).kp hka (nm1 (by omega)),hma,hsc,fun k=>?_⟩ (by simp only;omega)
  simp only
  rw[aZ,hmm k]
  by_cases hk:tkx y.t hw=k
  ·subst hk
   rw[if_pos rfl,if_pos (show((tkx y.t hw).1,(tkx y.t hw).2.1)∈(y.t.frm,y.t.non)::seen from List.mem_cons.2 (Or.inl rfl))]
  ·rw[if_neg hk]
   have hk':¬(k.1,k.2.1)=(y.t.frm,y.t.non):=fun e=>hk (by
    obtain⟨k1,k2,k3⟩:=k
    simp only[Prod.mk.injEq] at e
    obtain⟨rfl,rfl⟩:=e
    rfl)
   by_cases hs:(k.1,k.2.1)∈seen
   ·rw[if_pos hs,if_pos (List.mem_cons.2 (Or.inr hs))]
   ·rw[if_neg hs,if_neg (fun h=>(List.mem_cons.1 h).elim hk' hs)]
 ·have g1:¬(i:Int)<(x.xs.length:Int):=by omega
  have e8:i=x.xs.length:=by omega
  rw[e8,←List.length_map (f:=fun x:Tm=>x.t),List.drop_length,fy] at hsc
  subst hsc
  rw[if_neg (fun h=>h rfl)] at e1
  obtain⟨r,-⟩:=bg hB3
  repeat (first|apply gst|(apply gsv;rfl;apply qls<;>first|rfl|(apply dcf;first|assumption|omega)))
  refine gcf rfl ?_
  repeat (first|apply gst|(apply gsv;rfl;apply qla<;>first|rfl|assumption|exact List.not_mem_nil|apply aD))
  refine SG.call rfl rfl rfl (vs:=[bkv x]) (Evs.of rfl) ((tD (hx0.kp0 k3)).mono (fun e w4 hh=>?_))
  obtain⟨v4,he,ho4,hk4⟩:=hh
  refine⟨_,he,?_⟩
  clear r he
  obtain⟨a4,c4,rfl,-,hS4⟩:=Sl.own (enc:=ziL) (l:=x.xs.map (·.t.fee)) (fun _=>rfl) ho4 rfl
  refine SG.ret rfl rfl rfl (vs:=[.slice a4 (x.xs.map (·.t.fee)).length c4]) (Evs.of rfl) (uU c4 hS4 (by rw[List.length_map];omega)) (fun w5 hk5=>?_)
  have k5:=(k3.trans hk4).trans hk5
  have hsu:p8 (x.xs.map (·.t.fee)) 0=su:=by rw[←hsu,List.map_map];rfl
  rw[hsu]
  cases su with
  |some s=>
   rw[if_pos (show(some s).isSome=true from rfl)] at e1
   repeat (first|apply gst|(apply gsv;rfl;(first|apply qmv|apply qas|apply qni|apply qxt)<;>first|rfl|(apply dct;first|assumption|omega)))
   refine gcf rfl ?_
   repeat (first|apply gst|(apply gsv;rfl;apply qas<;>rfl))
   exact fin e1 k5 rfl
  |none=>
   rw[if_neg (by decide)] at e1
   repeat (first|apply gst|(apply gsv;rfl;(first|apply qmv|apply qas|apply qni|apply qxt)<;>first|rfl|(apply dcf;first|assumption|omega)))
   refine gct rfl ?_
   repeat (first|apply gst|(apply gsv;rfl;apply qas<;>rfl))
   exact fin e1 k5 rfl
end
section
section
variable {P:Program} {S:List Nat} {w0:World} {F:World→Prop} {L:Env} {d:Option Nat} {ty:TypeId} {pos:String} {af:Array Edge} {g:Option (Nat×Bool)}
def rI(s:ByteArray)(z:Int):UInt8:=(s[z.toNat]?).getD 0
theorem qsx{T:TypeId}[u:Ut P T .string]{s:ByteArray}{y:Operand}{k:IntKind}{z:Int}(hy:ro L y=some (.int k z))(h:Ar (0≤z∧z<s.size)):aJ P S w0 F L ⟨d,.index T (.const (.string s)) y,ty,pos,af,g⟩ (bv (rI s z)):=fun w _ _=>by
 have hc:rho L (.const (.string s))= .string s:=rfl
 obtain⟨h0,h1⟩:=h.h
 have hlt:z.toNat<s.size:=by omega
 have e:s[z.toNat]?=some s[z.toNat]:=getElem?_pos s z.toNat hlt
 simp only[execOp,ag hy,hc,Instr.index,Sem.run_bind,Result.andThen]
 simp[asIntOf,run_underlying u.eq,h0,e,rI,Result.andThen]
theorem Ik{T:TypeId}[u:Ut P T .string]{s:ByteArray}{y:Operand}{k:IntKind}{z:Int}(m:Nat)(hm:Nat.ble m s.size=true)(hy:ro L y=some (.int k z))(h:Ar (0≤z∧z<m)):aJ P S w0 F L ⟨d,.index T (.const (.string s)) y,ty,pos,af,g⟩ (bv (rI s z)):=qsx hy (Ar.mk (by
 have:=Nat.le_of_ble_eq_true hm
 have:=h.h
 omega))
theorem qss{T:TypeId}[u:Ut P T .string]{s:ByteArray}{x y:Operand}{k k':IntKind}{l h:Int}(hx:ro L x=some (.int k l))(hy:ro L y=some (.int k' h))(hb:Ar (0≤l∧l≤h∧h≤s.size)):aJ P S w0 F L ⟨d,.slice T (.const (.string s)) (some x) (some y) none,ty,pos,af,g⟩ (.string (s.extract l.toNat h.toNat)):=fun w _ _=>by
 have hc:rho L (.const (.string s))= .string s:=rfl
 obtain⟨h0,h1,h2⟩:=hb.h
 have e1:(0:Int)≤h∧h≤(s.size:Int):=⟨by omega,h2⟩
 have e2:(0:Int)≤l∧l≤(h.toNat:Int):=⟨h0,by omega⟩
 simp only[execOp,ag hx,ag hy,hc,Option.map_some,Option.map_none,Instr.sliceAt,Sem.run_bind,run_underlying u.eq,Result.andThen,Instr.slice,Instr.sliceBounds,Instr.sliceBound,asIntOf,Sem.run_pure]
 simp only[if_pos e1,Sem.run_pure,Sem.run_bind,Result.andThen,if_pos e2,Option.isSome_none,Bool.false_eq_true,if_false]
theorem qsc{T T':TypeId}[u:Ut P T .string]{x y:Operand}{a b:List UInt8}(hx:ro L x=some (sv a))(hy:ro L y=some (sv b))(hl:Ar (a.length+b.length≤1000000)):aJ P S w0 F L ⟨d,.binOp .add T x y T',ty,pos,af,g⟩ (sv (a++b)):=fun w _ _=>by
 have e:(⟨a.toArray⟩:ByteArray)++⟨b.toArray⟩=⟨(a++b).toArray⟩:=by
  apply ByteArray.ext
  simp
 simp only[execOp,ag hx,ag hy,eqGuard,binOp,sv,Sem.run_bind,Sem.run_pure,Result.andThen]
 have h:=hl.h
 have e2:¬(9223372036854775807:Int)<((⟨a.toArray⟩:ByteArray).size:Int)+((⟨b.toArray⟩:ByteArray).size:Int):=by
  show ¬(9223372036854775807:Int)<((a.toArray.size:Nat):Int)+((b.toArray.size:Nat):Int)
  simp only[List.size_toArray]
  omega
 simp[Op.stringOp,e,e2]
end
end
section
def hg0(x:Nat):Nat:=if x=0 then 0 else Nat.log2 x+1
def rk(d:Dg):Dg:=cz d [108,101,97,102]
def l4(d:Dg)(h:Nat):Dg:=cz d ([114,111,111,116]++[UInt8.ofNat (48+h)])
theorem Ia{s:ByteArray}{x:Nat}(hx:x<64)(h:∀y:_root_.Fin 64,rI s ((y.val:Nat):Int)=UInt8.ofNat (hg0 y.val)):rI s (x:Int)=UInt8.ofNat (hg0 x):=h ⟨x,hx⟩
theorem AF{x:Nat}(hx:x<64):hg0 x≤6:=by
 have key:∀y:_root_.Fin 64,hg0 y.val≤6:=by decide+kernel
 exact key ⟨x,hx⟩
theorem Ce{s:ByteArray}{h:Nat}(hh:h<10)(hd:∀y:_root_.Fin 10,(s.extract y.val (y.val+1)).data.toList=[UInt8.ofNat (48+y.val)]):Value.string (s.extract (h:Int).toNat ((h:Int)+1).toNat)=sv [UInt8.ofNat (48+h)]:=by
 have e:=hd ⟨h,hh⟩
 simp only at e
 have e1:(h:Int).toNat=h:=by omega
 have e2:((h:Int)+1).toNat=h+1:=by omega
 rw[e1,e2]
 unfold sv
 congr 1
 apply ByteArray.ext
 rw[←e,Array.toArray_toList]
attribute [local irreducible] CG NG SG aJ Der Row Blk av aA num bV bR bI bu orJ cA aL cz ofI cM bh c9 aK rgt
theorem vO(d:Dg)(w:World):Ret Tryz.prog 183 #[dv d] w (dv (rk d)):=by
 refine aM Tryz.func183 rfl Tryz.ntmps183 rfl ?_
 repeat apply gst
 refine SG.box rfl rfl rfl (ag rfl) (fun b1 w1 hk1 hb1 hB1=>?_)
 refine SG.alloc rfl rfl rfl (fun b2 w2 hk2 hb2 hB2=>?_)
 have r1:Row w2 b1 0 (dc d):=(Row.all hB1 rfl).kp0 hk2
 have s1:=hk1.size
 repeat (first|apply gst|(apply gsv;rfl;apply qla<;>first|rfl|assumption|exact List.not_mem_nil|apply ah))
 refine SG.ret rfl rfl rfl (vs:=[dv d,sv [108,101,97,102]]) (Evs.of rfl) (dE d [108,101,97,102] (by decide) w2) (fun w3 hk3=>?_)
 refine SG.aB (old:=dc zd) (l:=dc (rk d)) rfl rfl (ag rfl) (ag rfl) (hB2.kp0 hk3) (ah _) (ah _) (aO _) (fun w4 hk4 hB4=>?_)
 have r4:Row w4 b2 0 (dc (rk d)):=Row.all hB4 rfl
 repeat apply gst
 refine aN (Or.inl rfl) Tryz.results183 (by exact aw.agg rfl rfl (by assumption) (by first|exact ah _|exact nc_length _|exact rc_length _ _ _|exact ay _|exact dl_length _ _ _ _|exact az _|exact aE _|exact aH _|exact aj _|rfl)) ?_
 exact⟨rfl,((hk1.trans hk2).trans hk3).ai hk4 (aV (by omega))⟩
theorem qb(h:Nat)(hh:h<10)(w:World):Ret Tryz.prog 213 #[.int .i64 (h:Int)] w (sv [UInt8.ofNat (48+h)]):=by
 refine aM Tryz.func213 rfl Tryz.ntmps213 rfl ?_
 have g1:(h:Int)<10:=by omega
 repeat (first|apply gst|(apply gsv;rfl;(first|apply qmv|apply qas|apply qls)<;>first|rfl|(apply dct;first|assumption|omega)))
 refine gct rfl ?_
 repeat (first|apply gst|(apply gsv;rfl;(first|apply qmv|apply qad)<;>first|rfl|(apply Ar.mk;omega)))
 refine SG.val rfl rfl rfl rfl (qss (l:=(h:Int)) (h:=(h:Int)+1) rfl rfl (Ar.mk ⟨by omega,by omega,by show(h:Int)+1≤((36:Nat):Int);omega⟩)) ?_
 rw[Ce hh ?_]
 rotate_left
 ·decide+kernel
 repeat (first|apply gst|(apply gsv;rfl;apply qas<;>rfl))
 refine aN (Or.inl rfl) Tryz.results213 (aw.tmp rfl) ?_
 exact⟨rfl,Kp.refl _ _⟩
theorem tq(h:Nat)(hh:h<10)(w:World):Ret Tryz.prog 198 #[.int .i64 (h:Int)] w (sv [UInt8.ofNat (48+h)]):=by
 have h1:∀w,Ret Tryz.prog 209 #[.int .i64 (h:Int),.int .i64 10] w (sv [UInt8.ofNat (48+h)]):=fun w=>by
  refine aT Tryz.func209 rfl Tryz.ntmps209 rfl ?_
  have g0:(0:Int)≤(h:Int):=by omega
  have g1:(h:Int)<100:=by omega
  repeat (first|apply gst|(apply gsv;rfl;(first|apply qmv|apply qas|apply qei)<;>first|rfl|(apply dct;first|assumption|omega)))
  refine gct rfl ?_
  repeat (first|apply gst|(apply gsv;rfl;(first|apply qmv|apply qpk|apply qls|apply qle)<;>first|rfl|(apply dct;first|assumption|omega)))
  refine gct rfl ?_
  repeat (first|apply gst|(apply gsv;rfl;apply qmv<;>rfl))
  refine SG.ret rfl rfl rfl (by repeat' (first|exact True.intro|exact ag rfl|refine And.intro ?_ ?_)) (qb h hh w) (fun w1 hk1=>?_)
  repeat (first|apply gst|(apply gsv;rfl;apply qas<;>rfl))
  refine aN (Or.inl rfl) Tryz.results209 (aw.tmp rfl) ?_
  exact⟨rfl,hk1⟩
 have h2:∀w,Ret Tryz.prog 200 #[.int .i64 (h:Int)] w (sv [UInt8.ofNat (48+h)]):=fun w=>by
  refine aM Tryz.func200 rfl Tryz.ntmps200 rfl ?_
  repeat (first|apply gst|(apply gsv;rfl;(first|apply qmv|apply qas)<;>rfl))
  refine SG.ret rfl rfl rfl (vs:=[.int .i64 (h:Int),.int .i64 10]) (Evs.of rfl) (h1 w) (fun w1 hk1=>?_)
  repeat (first|apply gst|(apply gsv;rfl;apply qas<;>rfl))
  refine aN (Or.inl rfl) Tryz.results200 (aw.tmp rfl) ?_
  exact⟨rfl,hk1⟩
 refine aM Tryz.func198 rfl Tryz.ntmps198 rfl ?_
 repeat (first|apply gst|(apply gsv;rfl;(first|apply qmv|apply qas)<;>rfl))
 refine SG.ret rfl rfl rfl (vs:=[.int .i64 (h:Int)]) (Evs.of rfl) (h2 w) (fun w1 hk1=>?_)
 repeat (first|apply gst|(apply gsv;rfl;apply qas<;>rfl))
 refine aN (Or.inl rfl) Tryz.results198 (aw.tmp rfl) ?_
 exact⟨rfl,hk1⟩
theorem uQ(d:Dg)(h:Nat)(hh:h<10)(w:World):Ret Tryz.prog 186 #[dv d,.int .i64 (h:Int)] w (dv (l4 d h)):=by
 refine aT Tryz.func186 rfl Tryz.ntmps186 rfl ?_
 repeat apply gst
 refine SG.box rfl rfl rfl (ag rfl) (fun b1 w1 hk1 hb1 hB1=>?_)
 refine SG.alloc rfl rfl rfl (fun b2 w2 hk2 hb2 hB2=>?_)
 have r1:Row w2 b1 0 (dc d):=(Row.all hB1 rfl).kp0 hk2
 have s1:=hk1.size
 repeat apply gst
 refine CG.tail mixed 4 [0,1,2,3] (by kernel_rfl) ?_
 repeat (apply gdv;rfl;rfl;(first|apply qmv|apply qla)<;>first|rfl|assumption|exact List.not_mem_nil|apply ah)
 refine Der.call rfl rfl rfl (vs:=[.int .i64 (h:Int)]) (Evs.of rfl) (fun W hk _=>tq h hh W) ?_
 refine Der.val rfl rfl rfl (qsc (a:=[114,111,111,116]) (b:=[UInt8.ofNat (48+h)]) rfl rfl (Ar.mk (by simp))) ?_
 refine Der.tl (fun w3 hk3 _ _=>?_)
 refine SG.ret rfl rfl rfl (vs:=[dv d,sv ([114,111,111,116]++[UInt8.ofNat (48+h)])]) (Evs.of rfl) (dE d _ (by simp) w3) (fun w4 hk4=>?_)
 refine SG.aB (old:=dc zd) (l:=dc (l4 d h)) rfl rfl (ag rfl) (ag rfl) ((hB2.kp0 hk3).kp0 hk4) (ah _) (ah _) (aO _) (fun w5 hk5 hB5=>?_)
 have r4:Row w5 b2 0 (dc (l4 d h)):=Row.all hB5 rfl
 repeat apply gst
 refine aN (Or.inl rfl) Tryz.results186 (by exact aw.agg rfl rfl (by assumption) (by first|exact ah _|exact nc_length _|exact rc_length _ _ _|exact ay _|exact dl_length _ _ _ _|exact az _|exact aE _|exact aH _|exact aj _|rfl)) ?_
 exact⟨rfl,(((hk1.trans hk2).trans hk3).trans hk4).ai hk5 (aV (by omega))⟩
theorem qB(x:Nat)(hx:x<64)(w:World):Ret Tryz.prog 157 #[.int .u64 (x:Int)] w (.int .i64 (hg0 x:Int)):=by
 refine aM Tryz.func157 rfl Tryz.ntmps157 rfl ?_
 have g1:¬(4294967296:Int)≤(x:Int):=by omega
 have g2:¬(65536:Int)≤(x:Int):=by omega
 have g3:¬(256:Int)≤(x:Int):=by omega
 repeat (first|apply gst|(apply gsv;rfl;(first|apply qmv|apply qas|apply qge)<;>first|rfl|(apply dcf;first|assumption|omega)))
 refine gcf rfl ?_
 repeat (first|apply gst|(apply gsv;rfl;(first|apply qmv|apply qge)<;>first|rfl|(apply dcf;first|assumption|omega)))
 refine gcf rfl ?_
 repeat (first|apply gst|(apply gsv;rfl;(first|apply qmv|apply qge)<;>first|rfl|(apply dcf;first|assumption|omega)))
 refine gcf rfl ?_
 repeat (first|apply gst|(apply gsv;rfl;first|apply zU<;>rfl|apply qmv<;>rfl))
 rw[rE]
 have ex:(UInt8.ofNat x).toNat=x:=by rw[UInt8.toNat_ofNat'];omega
 refine SG.val rfl rfl rfl rfl (Ik (z:=(x:Int)) 256 (by kernel_rfl) (by show _=some (Value.int .u8 (x:Int));exact congrArg (fun n:Nat=>some (Value.int .u8 (n:Int))) ex) (Ar.mk ⟨by omega,by omega⟩)) ?_
 rw[Ia hx ?_]
 rotate_left
 ·decide+kernel
 have hb:=AF hx
 have e2:(UInt8.ofNat (hg0 x)).toNat=hg0 x:=by rw[UInt8.toNat_ofNat'];omega
 refine SG.val rfl rfl rfl rfl (qb3 rfl) ?_
 rw[e2]
 repeat (first|apply gst|(apply gsv;rfl;(first|apply qas|apply qad)<;>first|rfl|(apply Ar.mk;omega)))
 refine aN (Or.inl rfl) Tryz.results157 (aw.tmp rfl) ?_
 exact⟨by rw[Int.zero_add],Kp.refl _ _⟩
theorem vR(x:Nat)(hx:x<64)(w:World):Ret Tryz.prog 114 #[.int .u64 (x:Int)] w (.int .i64 (hg0 x:Int)):=by
 refine aM Tryz.func114 rfl Tryz.ntmps114 rfl ?_
 repeat (first|apply gst|(apply gsv;rfl;apply qas<;>rfl))
 refine gcf rfl ?_
 repeat (first|apply gst|(apply gsv;rfl;apply qmv<;>rfl))
 refine SG.ret rfl rfl rfl (vs:=[.int .u64 (x:Int)]) (Evs.of rfl) (qB x hx w) (fun w1 hk1=>?_)
 repeat (first|apply gst|(apply gsv;rfl;apply qas<;>rfl))
 refine aN (Or.inl rfl) Tryz.results114 (aw.tmp rfl) ?_
 exact⟨rfl,hk1⟩
theorem pq(n:Nat)(h1:1≤n)(h2:n≤64)(w:World):Ret Tryz.prog 181 #[.int .i64 (n:Int)] w (.int .i64 (hg0 (n-1):Int)):=by
 refine aM Tryz.func181 rfl Tryz.ntmps181 rfl ?_
 have g1:¬(n:Int)<1:=by omega
 have g2:¬(4096:Int)<(n:Int):=by omega
 repeat (first|apply gst|(apply gsv;rfl;(first|apply qmv|apply qas|apply qpk|apply qls|apply qgt)<;>first|rfl|(apply dcf;first|assumption|omega)))
 refine gcf rfl ?_
 repeat (first|apply gst|(apply gsv;rfl;(first|apply qmv|apply qsb|apply qcv)<;>first|rfl|(apply Ar.mk;omega)))
 rw[show IntKind.wrap .u64 ((n:Int)-1)=((n-1:Nat):Int) by simp only[IntKind.wrap,IntKind.signed,IntKind.bits];simp;omega]
 refine SG.ret rfl rfl rfl (vs:=[.int .u64 ((n-1:Nat):Int)]) (Evs.of rfl) (vR (n-1) (by omega) w) (fun w1 hk1=>?_)
 repeat (first|apply gst|(apply gsv;rfl;apply qas<;>rfl))
 refine aN (Or.inl rfl) Tryz.results181 (aw.tmp rfl) ?_
 exact⟨rfl,hk1⟩
end
section
theorem Tr.WF.anc{t:Tr}(wf:t.WF):∀(j:Nat) {x:Dg},t.has x=true→j≤t.ht x→t.has (t.anc j x)=true∧t.ht (t.anc j x)+j=t.ht x
 |0,x,hx,_=>⟨hx,rfl⟩
 |j+1,x,hx,hj=>by
  have hne:x≠t.first:=fun e=>by rw[e,wf.h0] at hj;omega
  obtain⟨h1,h2⟩:=wf.up x hx hne
  obtain⟨h3,h4⟩:=wf.anc j h1 (by omega)
  exact⟨h3,by rw[Tr.anc];omega⟩
theorem mu{t:Tr}(wf:t.WF):∀(n:Nat) {a b:Dg},t.has a=true→t.has b=true→t.ht a+t.ht b<n→∃i j,i≤t.ht a∧j≤t.ht b∧t.dK n a b=t.anc i a∧t.dK n a b=t.anc j b
 |0,a,b,_,_,h=>by omega
 |n+1,a,b,ha,hb,h=>by
  simp only[Tr.dK]
  by_cases e:a=b
  ·rw[if_pos e]
   exact⟨0,0,Nat.zero_le _,Nat.zero_le _,rfl,e⟩
  ·rw[if_neg e]
   obtain⟨h1,h2,h3,_⟩:=wf.round ha hb e
   have key:∀{a b:Dg},t.has a=true→t.has b=true→a≠b→t.ht b≤t.ht a→t.ht a=t.ht (t.par a)+1:=by
    intro a b ha hb hne hle
    refine(wf.up a ha (fun e=>hne ?_)).2
    have h1:t.ht a=0:=by rw[e];exact wf.h0
    have h2:=wf.lA hb (by omega)
    rw[e,h2]
   obtain⟨i,j,g1,g2,g3,g4⟩:=mu wf n h1 h2 (by omega)
   by_cases c1:t.ht b≤t.ht a<;>by_cases c2:t.ht a≤t.ht b
   ·have k1:=key ha hb e c1
    have k2:=key hb ha (fun e1=>e e1.symm) c2
    simp only[c1,c2,if_true] at g1 g2 g3 g4⊢
    exact⟨i+1,j+1,by omega,by omega,g3,g4⟩
   ·have k1:=key ha hb e c1
    simp only[c1,c2,if_true,if_false] at g1 g2 g3 g4⊢
    exact⟨i+1,j,by omega,g2,g3,g4⟩
   ·have k2:=key hb ha (fun e1=>e e1.symm) c2
    simp only[c1,c2,if_true,if_false] at g1 g2 g3 g4⊢
    exact⟨i,j+1,g1,by omega,g3,g4⟩
   ·omega
theorem vv{t:Tr}(wf:t.WF){a b:Dg}(ha:t.has a=true)(hb:t.has b=true):∃i,i≤t.ht a∧t.part a b=t.anc i a∧t.ht (t.part a b)+i=t.ht a:=by
 obtain⟨i,j,h1,h2,h3,h4⟩:=mu wf (t.ht a+t.ht b+1) ha hb (by omega)
 have:=(wf.anc i ha h1).2
 refine⟨i,h1,h3,?_⟩
 unfold Tr.part
 rw[h3]
 exact this
theorem Tr.qS(t:Tr)(m:Nat)(x:Dg):t.cY m x=(t.cY m x).take m++[t.anc m x]:=by
 cases m with
 |zero=>rfl
 |succ m=>
  rw[Tr.il]
  have:(t.cY m x).length=m+1:=Tr.cw t m x
  rw[List.take_append_of_le_length (by omega),List.take_of_length_le (by omega)]
def Tr.und(t:Tr)(a b:Dg):Nat:=t.ht a-t.ht (t.part a b)
def Tr.fQ(t:Tr)(a b:Dg):List Dg:=(t.cY (t.und a b) a).take (t.und a b)
attribute [local irreducible] CG NG SG aJ Der Row Blk av
theorem iF{w:World}{bt bm:Nat}{t:Tr}(hT:bE w bt bm t)(wf:t.WF){x y:Dg}(hx:t.has x=true)(hy:t.has y=true):
  Calls Tryz.prog 100 #[.pointer (some ⟨bt,0,none⟩),dv x,dv y] w (fun e w'=>∃b off c pre post,e= .returned (.slice (some ⟨b,off,none⟩) (t.und x y) c)∧w.heap.size≤b∧Blk w' b (.cells (pre++(flat (t.fQ x y)++post)).toArray 47)∧(pre.length=off∧t.und x y≤c)∧Kp [] w w'):=by
 refine dq Tryz.func100 rfl Tryz.ntmps100 rfl ?_
 repeat apply gst
 refine SG.box rfl rfl rfl (ag rfl) (fun b4 w1 hk1 hb4 hB4=>?_)
 refine SG.box rfl rfl rfl (ag rfl) (fun b5 w2 hk2 hb5 hB5=>?_)
 have hk02:=hk1.trans hk2
 have hT2:=hT.kp0 hk02
 have hR4:Row w2 b4 0 (dc x):=Row.all (hB4.kp0 hk2) rfl
 have hR5:Row w2 b5 0 (dc y):=Row.all hB5 rfl
 have hhx:¬t.height x<0:=by rw[Tr.height,Tr.cR hx];simp only;omega
 have hhy:¬t.height y<0:=by rw[Tr.height,Tr.cR hy];simp only;omega
 repeat (first|apply gst|(apply gsv;rfl;(first|apply qmv|apply qas|apply qla)<;>first|rfl|assumption|exact List.not_mem_nil|apply ah))
 refine SG.ret rfl rfl rfl (by repeat' (first|exact True.intro|exact ag rfl|refine And.intro ?_ ?_)) (dy hT2 x) (fun w3 hk3=>?_)
 have hk03:=hk02.trans hk3
 have hT3:=hT.kp0 hk03
 have hR4:=hR4.kp0 hk3
 have hR5:=hR5.kp0 hk3
 repeat (apply gsv;rfl;(first|apply qmv|apply qla|apply qls)<;>first|rfl|assumption|(apply dcf;first|assumption|omega)|exact List.not_mem_nil|apply ah)
 refine SG.ret rfl rfl rfl (by repeat' (first|exact True.intro|exact ag rfl|refine And.intro ?_ ?_)) (dy hT3 y) (fun w4 hk4=>?_)
 have hk04:=hk03.trans hk4
 have hT4:=hT.kp0 hk04
 have hR4:=hR4.kp0 hk4
 have hR5:=hR5.kp0 hk4
 repeat (first|apply gst|(apply gsv;rfl;(first|apply qpk|apply qls)<;>first|rfl|(apply dcf;first|assumption|omega)))
 refine gcf rfl ?_
 repeat apply gst
 obtain⟨m,hm1,hm2,hm3⟩:=vv wf hx hy
 have hbx:=wf.bound hx
 have hund:t.und x y=m:=by unfold Tr.und;omega
 refine CG.fN mixed [0,1,2,3,4,5,6,7,8] [6] (by kernel_rfl) ?_
 repeat (apply gdv;rfl;rfl;(first|apply qmv|apply qla)<;>first|rfl|assumption|exact List.not_mem_nil|apply ah)
 refine Der.call rfl rfl rfl (by repeat' (first|exact True.intro|exact ag rfl|refine And.intro ?_ ?_)) (fun w hk _=>ky (hT4.kp0 hk) wf hx hy) ?_
 refine Der.lN (X:=Nat×Nat×List Value) (vs:=[.pointer (some ⟨bt,0,none⟩),dv x,dv (t.part x y)]) (fun q=> .slice (some ⟨q.1,0,none⟩) (m+1) q.2.1) (fun q w'=>w4.heap.size≤q.1∧m+1≤q.2.1∧Blk w' q.1 (.cells (flat (t.cY m x).reverse++q.2.2).toArray 47)) rfl rfl rfl rfl (Evs.of rfl) (fun q w w' hk h=>⟨h.1,h.2.1,h.2.2.kp0 hk⟩) (fun _ _ _ h=>h) (fun w hk _=>?_) (fun q=>?_)
 ·refine(jB (hT4.kp0 hk) x (t.part x y) m (by omega) hm2.symm (fun j hj e=>?_) (fun j hj=>(wf.anc j hx (by omega)).1)).mono (fun e w' h=>?_)
  ·have h1:=(wf.anc j hx (by omega)).2
   rw[e] at h1
   omega
  ·obtain⟨b,c,post,h1,h2,h3,h4,h5⟩:=h
   exact⟨(b,c,post),h1,⟨by have:=hk.size;omega,h3,h4⟩,h5⟩
 obtain⟨bq,cq,post⟩:=q
 simp only
 refine Der.val rfl rfl rfl (je (j:=1) (ag rfl) rfl (by omega)) ?_
 repeat (apply gdv;rfl;rfl;apply qas<;>rfl)
 refine Der.fin (fun w5 hk5 hF _=>?_)
 obtain⟨_,hq1,hq2,hq3⟩:=hF
 have hk05:=hk04.trans hk5
 have hul:t.fQ x y=(t.cY m x).take m:=by unfold Tr.fQ;rw[hund]
 have hrl:((t.cY m x).take m).reverse.length=m:=by simp[Tr.cw]
 have hmm:m+1-1=m:=by omega
 obtain⟨off,pre,post',hoff,hpre,hblk⟩:∃off pre post',(if cq=1 then 0 else 0+1*8)=off∧pre.length=off∧Blk w5 bq (.cells (pre++(flat ((t.cY m x).take m).reverse++post')).toArray 47):=by
  by_cases hc:cq=1
  ·have hm0:m=0:=by omega
   subst hm0
   exact⟨0,[],flat (t.cY 0 x).reverse++post,by simp[hc],rfl,hq3⟩
  ·refine⟨8,dc (t.anc m x),post,by simp[hc],ah _,?_⟩
   rw[Tr.qS,List.reverse_append,jF] at hq3
   simpa[dX] using hq3
 rw[hoff,hmm]
 have hrev:=iA (c:=cq-1) hblk (by omega)
 rw[hrl,hpre,List.reverse_reverse] at hrev
 repeat (first|apply gst|(apply gsv;rfl;apply qmv<;>rfl))
 refine SG.call rfl rfl rfl (by repeat' (first|exact True.intro|exact ag rfl|refine And.intro ?_ ?_)) (hrev.mono (fun e w6 h=>?_))
 obtain⟨h1,h2,h3⟩:=h
 refine⟨_,h1,?_⟩
 repeat (first|apply gst|(apply gsv;rfl;(first|apply qmv|apply qas)<;>rfl))
 refine aN (Or.inl rfl) Tryz.results100 (aw.tmp rfl) ?_
 rw[hund,hul]
 have:=hk04.size
 exact⟨bq,off,cq-1,pre,post',rfl,by omega,h2,⟨hpre,by omega⟩,hk05.ai h3 (by first|exact aV (by omega)|exact pd (by omega) (by omega))⟩
end
section
theorem sL(f x:Dg)(d:Nat):au (Tr.new f d).nodes x=if f=x then some kd0 else none:=by
 simp[Tr.new,au]
theorem mK(f:Dg)(d:Nat):(Tr.new f d).WF:=by
 have hh:∀x,(Tr.new f d).has x=true→x=f:=by
  intro x hx
  unfold Tr.has at hx
  rw[sL] at hx
  by_cases e:f=x
  ·exact e.symm
  ·simp[e] at hx
 have h1:(Tr.new f d).has f=true:=by unfold Tr.has;rw[sL];simp
 have h2:(Tr.new f d).ht f=0:=by unfold Tr.ht Tr.nd;rw[sL];simp[kd0]
 refine⟨h1,h2,h1,fun x hx hne=>absurd (hh x hx) hne,fun x hx=>?_,by simp[Tr.new],?_⟩
 ·rw[hh x hx];exact Nat.le_refl _
 ·show(Tr.new f d).ht f<1
  rw[h2];omega
theorem gj(t:Tr)(x p z:Dg):au (t.put x p).nodes z=if x=z then some ⟨p,t.ht p+1⟩ else au t.nodes z:=aZ _ _ _ _
theorem dI(t:Tr)(x p:Dg):(t.put x p).ht x=t.ht p+1:=by unfold Tr.ht Tr.nd;rw[gj];simp[Tr.ht,Tr.nd]
theorem bC(t:Tr){x p z:Dg}(h:x≠z):(t.put x p).ht z=t.ht z:=by
 have:(t.put x p).nd z=t.nd z:=by unfold Tr.nd;rw[gj,if_neg h]
 unfold Tr.ht;rw[this]
theorem fD(t:Tr){x p z:Dg}(h:x≠z):(t.put x p).par z=t.par z:=by
 have:(t.put x p).nd z=t.nd z:=by unfold Tr.nd;rw[gj,if_neg h]
 unfold Tr.par;rw[this]
theorem fE(t:Tr)(x p:Dg):(t.put x p).par x=p:=by unfold Tr.par Tr.nd;rw[gj];simp
theorem de(t:Tr)(x p z:Dg):(t.put x p).has z=(decide (x=z)||t.has z):=by
 unfold Tr.has;rw[gj];by_cases e:x=z<;>simp[e]
theorem kZ(t:Tr)(x p:Dg):(t.put x p).tip=if t.ht t.tip<t.ht p+1 then x else t.tip:=rfl
theorem xp{t:Tr}(wf:t.WF){x p:Dg}(hx:t.has x=false)(hp:t.has p=true)(hl:t.nodes.length<4096):(t.put x p).WF:=by
 have hnx:∀{z:Dg},t.has z=true→x≠z:=fun hz e=>by rw[e,hz] at hx;cases hx
 have hpt:=wf.top p hp
 have htip:(t.put x p).ht (t.put x p).tip=if t.ht t.tip<t.ht p+1 then t.ht p+1 else t.ht t.tip:=by
  rw[kZ]
  split
  ·exact dI t x p
  ·exact bC t (hnx wf.tip)
 have hlen:(t.put x p).nodes.length=t.nodes.length+1:=by
  have:au t.nodes x=none:=Tr.iT (by rw[hx];simp)
  show(ca t.nodes x _).length=_
  rw[gI _ this];simp
 refine⟨?_,?_,?_,fun z hz hne=>?_,fun z hz=>?_,by rw[hlen];omega,?_⟩
 ·show(t.put x p).has t.first=true
  rw[de,wf.first];simp
 ·show(t.put x p).ht t.first=0
  rw[bC t (hnx wf.first)];exact wf.h0
 ·rw[kZ]
  split
  ·rw[de];simp
  ·rw[de,wf.tip];simp
 ·by_cases e:x=z
  ·subst e
   rw[fE,dI,de,hp,bC t (hnx hp)]
   simp
  ·have hz':t.has z=true:=by rw[de] at hz;simpa[e] using hz
   obtain⟨h1,h2⟩:=wf.up z hz' hne
   rw[fD t e,de,h1,bC t e,bC t (hnx h1)]
   exact⟨by simp,h2⟩
 ·rw[htip]
  by_cases e:x=z
  ·subst e
   rw[dI]
   split<;>omega
  ·have hz':t.has z=true:=by rw[de] at hz;simpa[e] using hz
   rw[bC t e]
   have:=wf.top z hz'
   split<;>omega
 ·rw[htip,hlen]
  have:=wf.low
  split<;>omega
theorem kr{t:Tr}(wf:t.WF):∀(n:Nat) {a b:Dg},t.has a=true→t.has b=true→t.ht a+t.ht b<n→t.dK n a b=t.dK n b a
 |0,a,b,_,_,h=>by omega
 |n+1,a,b,ha,hb,h=>by
  simp only[Tr.dK]
  by_cases e:a=b
  ·subst e;rfl
  ·have e':¬b=a:=fun e1=>e e1.symm
   rw[if_neg e,if_neg e']
   obtain⟨h1,h2,h3,_⟩:=wf.round ha hb e
   exact kr wf n h1 h2 (by omega)
theorem sx{t:Tr}(wf:t.WF){a b:Dg}(ha:t.has a=true)(hb:t.has b=true):t.part a b=t.part b a:=by
 unfold Tr.part
 rw[kr wf _ ha hb (by omega),Nat.add_comm (t.ht a)]
theorem mi{t:Tr}(wf:t.WF){x p:Dg}(hx:t.has x=false):∀(n:Nat) {a b:Dg},t.has a=true→t.has b=true→(t.put x p).dK n a b=t.dK n a b
 |0,a,b,_,_=>rfl
 |n+1,a,b,ha,hb=>by
  have hnx:∀{z:Dg},t.has z=true→x≠z:=fun hz e=>by rw[e,hz] at hx;cases hx
  simp only[Tr.dK]
  by_cases e:a=b
  ·rw[if_pos e,if_pos e]
  ·rw[if_neg e,if_neg e,bC t (hnx ha),bC t (hnx hb),fD t (hnx ha),fD t (hnx hb)]
   obtain⟨h1,h2,_,_⟩:=wf.round ha hb e
   exact mi wf hx n h1 h2
theorem vm{t:Tr}(wf:t.WF){x p a b:Dg}(hx:t.has x=false)(ha:t.has a=true)(hb:t.has b=true):(t.put x p).part a b=t.part a b:=by
 have hnx:∀{z:Dg},t.has z=true→x≠z:=fun hz e=>by rw[e,hz] at hx;cases hx
 unfold Tr.part
 rw[mi wf hx _ ha hb,bC t (hnx ha),bC t (hnx hb)]
theorem mh{t:Tr}(wf:t.WF){x p:Dg}(hx:t.has x=false)(hp:t.has p=true)(hl:t.nodes.length<4096)(hup:t.ht t.tip<t.ht p+1):(t.put x p).part t.tip x=t.part p t.tip:=by
 have wf':=xp wf hx hp hl
 have hnx:∀{z:Dg},t.has z=true→x≠z:=fun hz e=>by rw[e,hz] at hx;cases hx
 have hne:t.tip≠x:=fun e=>hnx wf.tip e.symm
 have h1:(t.put x p).has t.tip=true:=by rw[de,wf.tip];simp
 have h2:(t.put x p).has x=true:=by rw[de];simp
 obtain⟨_,_,_,h3⟩:=wf'.round h1 h2 hne
 have e1:¬(t.put x p).ht x≤(t.put x p).ht t.tip:=by rw[dI,bC t (hnx wf.tip)];omega
 have e2:(t.put x p).ht t.tip≤(t.put x p).ht x:=by omega
 rw[if_neg e1,if_pos e2,fE] at h3
 rw[←h3,vm wf hx wf.tip hp,sx wf wf.tip hp]
theorem oT(t:Tr)(a:Dg):t.und a a=0:=by unfold Tr.und;rw[Tr.mq];omega
theorem lR{t:Tr}(wf:t.WF)(x p:Dg):(t.add x p).WF∧(t.add x p).depth=t.depth∧(t.add x p).first=t.first∧(t.add x p).has t.tip=true∧(t.add x p).ht t.tip=t.ht t.tip∧(t.add x p).und t.tip (t.add x p).tip≤t.depth∧
  ((t.add x p).tip=t.tip∨((t.add x p).tip≠t.tip∧(t.add x p).ht (t.add x p).tip=t.ht t.tip+1)):=by
 unfold Tr.add
 by_cases he:t.addE x p=0
 ·rw[if_pos he]
  have hx:t.has x=false:=by
   cases h:t.has x with
   |false=>rfl
   |true=>simp[Tr.addE,h] at he
  have hp:t.has p=true:=by
   cases h:t.has p with
   |true=>rfl
   |false=>simp[Tr.addE,hx,h] at he
  have hl:t.nodes.length<4096:=by
   by_cases h:4096≤t.nodes.length
   ·simp[Tr.addE,hx,hp,h] at he
   ·omega
  have hd:¬t.depth+t.ht (t.part p t.tip)<t.ht t.tip:=by
   intro h
   have h':¬4096≤t.nodes.length:=by omega
   simp[Tr.addE,hx,hp,h',Tr.deep,h] at he
  have hnx:∀{z:Dg},t.has z=true→x≠z:=fun hz e=>by rw[e,hz] at hx;cases hx
  have h1:(t.put x p).has t.tip=true:=by rw[de,wf.tip];simp
  have h2:=bC t (p:=p) (hnx wf.tip)
  refine⟨xp wf hx hp hl,rfl,rfl,h1,h2,?_,?_⟩
  ·rw[kZ]
   by_cases hup:t.ht t.tip<t.ht p+1
   ·rw[if_pos hup]
    unfold Tr.und
    rw[mh wf hx hp hl hup,h2]
    have hpt:=o8 wf hp wf.tip
    rw[bC t (hnx hpt)]
    omega
   ·rw[if_neg hup,oT];omega
  ·rw[kZ]
   by_cases hup:t.ht t.tip<t.ht p+1
   ·rw[if_pos hup]
    refine Or.inr ⟨fun e=>hnx wf.tip e,?_⟩
    rw[dI]
    have:=wf.top p hp
    omega
   ·rw[if_neg hup];exact Or.inl rfl
 ·rw[if_neg he]
  exact⟨wf,rfl,rfl,wf.tip,rfl,by rw[oT];omega,Or.inl rfl⟩
end
section
abbrev SlD(w:World)(a:Option Addr)(l:List Dg):Prop:=Sl dc 8 w a l
abbrev JD(f:FuncId)(args:Array Value)(w:World)(l:List Dg):Prop:=BE Tryz.prog dc 8 f args w l
def Tr.line(t:Tr)(x:Dg):List Dg:=if t.has x then(t.cY (t.ht x) x).reverse else[]
theorem Tr.jz{t:Tr}{x:Dg}(h:t.has x=true):(t.line x).length=t.ht x+1:=by simp[Tr.line,h,Tr.cw]
theorem Tr.sU{t:Tr}{x:Dg}(h:t.has x=false):t.line x=[]:=by simp[Tr.line,h]
theorem Tr.WF.qz{t:Tr}(wf:t.WF):t.line t.first=[t.first]:=by simp[Tr.line,wf.first,wf.h0,Tr.cY]
theorem Tr.WF.yA{t:Tr}(wf:t.WF){x:Dg}(hx:t.has x=true)(hne:x≠t.first):t.line x=t.line (t.par x)++[x]:=by
 obtain⟨h1,h2⟩:=wf.up x hx hne
 simp only[Tr.line,hx,h1,if_true]
 rw[h2,Tr.cY,List.reverse_cons]
theorem Tr.WF.zp{t:Tr}(wf:t.WF){x:Dg}(hx:t.has x=true):t.anc (t.ht x) x=t.first:=by
 obtain⟨h1,h2⟩:=wf.anc (t.ht x) hx (Nat.le_refl _)
 exact wf.lA h1 (by omega)
attribute [local irreducible] CG NG SG aJ Der Row Blk av
theorem qG{w:World}{bt bm:Nat}{t:Tr}(hT:bE w bt bm t)(wf:t.WF)(x:Dg):JD 55 #[.pointer (some ⟨bt,0,none⟩),dv x] w (t.line x):=by
 refine aT Tryz.func55 rfl Tryz.ntmps55 rfl ?_
 repeat apply gst
 refine SG.box rfl rfl rfl (ag rfl) (fun b3 w1 hk1 hb3 hB3=>?_)
 have hT1:=hT.kp0 hk1
 have hR3:Row w1 b3 0 (dc x):=Row.all hB3 rfl
 repeat (first|apply gst|(apply gsv;rfl;(first|apply qmv|apply qas|apply qla)<;>first|rfl|assumption|exact List.not_mem_nil|apply ah))
 refine SG.ret rfl rfl rfl (by repeat' (first|exact True.intro|exact ag rfl|refine And.intro ?_ ?_)) (dy hT1 x) (fun w2 hk2=>?_)
 have hk02:=hk1.trans hk2
 have hT2:=hT.kp0 hk02
 have hR3:=hR3.kp0 hk2
 by_cases hx:t.has x=true
 ·have hh:¬t.height x<0:=by rw[Tr.height,Tr.cR hx];simp only;omega
  repeat (first|apply gst|(apply gsv;rfl;apply qls<;>first|rfl|(apply dcf;first|assumption|omega)))
  refine gcf rfl ?_
  repeat apply gst
  have hr0:=hT2.r0
  have hbx:=wf.bound hx
  refine CG.fN mixed [0,1,2,3,4,5,6,7] [6] (by kernel_rfl) ?_
  repeat (apply gdv;rfl;rfl;(first|apply qmv|apply qla|apply qfa|apply qnc)<;>first|rfl|assumption|exact List.not_mem_nil|apply ah)
  refine Der.lN (X:=Nat×Nat×List Value) (vs:=[.pointer (some ⟨bt,0,none⟩),dv x,dv t.first]) (fun q=> .slice (some ⟨q.1,0,none⟩) (t.ht x+1) q.2.1) (fun q w'=>(t.ht x+1≤q.2.1∧w2.heap.size≤q.1)∧Blk w' q.1 (.cells (flat (t.cY (t.ht x) x).reverse++q.2.2).toArray 47)) rfl rfl rfl rfl (Evs.of rfl) (fun q w w' hk h=>⟨h.1,h.2.kp0 hk⟩) (fun _ _ _ h=>h) (fun w hk _=>?_) (fun q=>?_)
  ·refine(jB (hT2.kp0 hk) x t.first (t.ht x) (by omega) (wf.zp hx) (fun j hj e=>?_) (fun j hj=>(wf.anc j hx (by omega)).1)).mono (fun e w' h=>?_)
   ·have h1:=(wf.anc j hx (by omega)).2
    rw[e,wf.h0] at h1
    omega
   ·obtain⟨b,c,post,h1,h2,h3,h4,h5⟩:=h
    exact⟨(b,c,post),h1,⟨⟨h3,by have:=hk.size;omega⟩,h4⟩,h5⟩
  obtain⟨bq,cq,post⟩:=q
  simp only
  repeat (apply gdv;rfl;rfl;apply qas<;>rfl)
  refine Der.fin (fun w3 hk3 hF _=>?_)
  obtain⟨_,h1,h2⟩:=hF
  repeat apply gst
  refine aN (Or.inl rfl) Tryz.results55 (aw.tmp rfl) ?_
  have s02:=hk02.size
  refine⟨some ⟨bq,0,none⟩,cq,by rw[Tr.jz hx],⟨by rw[Tr.jz hx];exact h1.1,fun b off e=>by simp only[Option.some.injEq,Addr.mk.injEq] at e;omega,?_⟩,hk02.trans hk3⟩
  simp only[Tr.line,hx,if_true]
  exact Sl.eL ah (pre:=[]) h2
 ·have hh:t.height x<0:=by rw[Tr.height,Tr.iT hx];simp only;omega
  have hx':t.has x=false:=by simpa using hx
  repeat (first|apply gst|(apply gsv;rfl;apply qls<;>first|rfl|(apply dct;first|assumption|omega)))
  refine gct rfl ?_
  repeat (first|apply gst|(apply gsv;rfl;apply qas<;>rfl))
  refine aN (Or.inl rfl) Tryz.results55 (aw.tmp rfl) ?_
  rw[Tr.sU hx']
  exact⟨none,0,rfl,SlF.nil,hk02⟩
theorem dR(t:Tr)(x y:Dg):(t.fQ x y).length=t.und x y:=by simp[Tr.fQ,Tr.cw]
end
section
theorem iz{w:World}{bT:Nat}{v x:Value}{ns:List Value}{j:Nat}(hB:Blk w bT (.cells (v::ns).toArray 287))(h:ns[j]?=some x):Row w bT (0+1+j*1) [x]:=by
 have hj:=(List.getElem?_eq_some_iff.1 h)
 obtain⟨hj,hx⟩:=hj
 refine Row.of hB (v::ns.take j) (ns.drop (j+1)) ?_ (by simp;omega)
 rw[←hx]
 simp
attribute [local irreducible] CG NG SG aJ Der Row Blk av aA num bV bR bI bu orJ cA aL cz ofI cM bh c9 aK rgt kL
theorem tj{w:World}{bT lev k b1 c1 b2 c2:Nat}{v:Value}{ns:List Value}{L1 L2:List Dg}(hB:Blk w bT (.cells (v::ns).toArray 287))(hn:ns.length=13)(hlev:lev<12)(h1:ns[lev]?=some (.slice (some ⟨b1,0,none⟩) L1.length c1))(h2:ns[lev+1]?=some (.slice (some ⟨b2,0,none⟩) L2.length c2))
  (hS1:Sl dc 8 w (some ⟨b1,0,none⟩) L1) (hB2:Blk w b2 (.cells (flat L2).toArray 47)) (hk:2*k+1<L1.length) (hk2:k<L2.length) (hl:L1.length≤100000):
  Calls Tryz.prog 184 #[.pointer (some ⟨bT,0,none⟩),.int .i64 ((lev+1:Nat):Int),.int .i64 (k:Int)] w (fun e w'=>e= .returned (.tuple #[])∧Kp [b2] w w'∧Blk w' b2 (.cells (flat (L2.set k (kL (L1[2*k]'(by omega)) L1[2*k+1]))).toArray 47)):=by
 refine dq Tryz.func184 rfl Tryz.ntmps184 rfl ?_
 have r1:=iz hB h1
 have r2:=iz hB h2
 obtain⟨_,o1,e1,q1⟩:=hS1.at (i:=2*k) (by omega)
 cases e1
 obtain⟨_,o2,e2,q2⟩:=hS1.at (i:=2*k+1) hk
 cases e2
 refine CG.seq ?_
 refine CG.region ?_
 iterate 3 (refine SG.val rfl rfl rfl rfl (by first|((first|apply qmv|apply qsb)<;>(first|exact rfl|exact Ar.mk (by omega)|fail))|fail) ?_)
 rw[show((lev+1:Nat):Int)-1=(lev:Int) by omega]
 clear r2
 repeat (first|apply gst|(apply gsv;rfl;(first|apply qia|apply qas|apply qlc|apply qfa|apply qnc)<;>first|rfl|(apply Ar.mk;omega)|assumption|exact List.not_mem_nil))
 clear r1
 have r2:=iz hB h2
 refine CG.tail mixed 19 [0,1,2,3,4,5,6,7,8,9,10,11,12,13,14,15,16,17,18] (by kernel_rfl) ?_
 iterate 10 (refine Der.val rfl rfl rfl (by first|((first|apply qia|apply qmi|apply qmv|apply qlc|apply qfa|apply qnc)<;>(first|exact rfl|exact Ar.mk (by omega)|assumption|exact List.not_mem_nil|fail))|fail) ?_)
 rw[show(2:Int)*(k:Int)=((2*k:Nat):Int) by omega]
 iterate 5 (refine Der.val rfl rfl rfl (by first|((first|apply qmi|apply qmv|apply qla|apply qix)<;>(first|exact rfl|exact Ar.mk (by omega)|assumption|exact List.not_mem_nil|apply ah|apply ah|fail))|fail) ?_)
 rw[show(2:Int)*(k:Int)=((2*k:Nat):Int) by omega]
 refine Der.val rfl rfl rfl (by first|(apply qad<;>(first|exact rfl|exact Ar.mk (by omega)|fail))|fail) ?_
 rw[show((2*k:Nat):Int)+1=((2*k+1:Nat):Int) by omega]
 repeat (apply gdv;rfl;rfl;(first|apply qla|apply qix)<;>first|rfl|(apply Ar.mk;omega)|assumption|exact List.not_mem_nil|apply ah)
 refine Der.call rfl rfl rfl (vs:=[dv L1[2*k],dv L1[2*k+1]]) (Evs.of rfl) (fun W _ _=>uN _ _ W) ?_
 refine Der.tl (fun w1 hk1 _ _=>?_)
 repeat (apply gsv;rfl;apply qix<;>first|rfl|(apply Ar.mk;omega))
 generalize kL L1[2*k] L1[2*k+1]=d
 refine SG.bH (flat (L2.take k)) (dc L2[k]) (flat (L2.drop (k+1))) rfl rfl (ag rfl) (ag rfl) (hB2.kp0 hk1) (by rw[List.toList_toArray];exact fc L2 k hk2) (by exact ah d) (ah _) (by rw[bP,List.length_take];show min k L2.length*8=0+k*8;rw[Nat.min_eq_left (by omega)];omega) (by exact aO d) (fun w2 hk2' hB=>?_)
 repeat apply gst
 refine qg (Or.inr rfl) Tryz.results184 ?_
 refine⟨rfl,hk1.any.trans hk2',?_⟩
 have e:flat (L2.set k d)=flat (L2.take k)++(dc d++flat (L2.drop (k+1))):=by
  rw[List.set_eq_take_append_cons_drop,if_pos hk2]
  simp[flat]
 rw[e]
 exact hB
end
section
open Go.Proofs
theorem vM{α:Type}[Inhabited α]{enc:α→List Value}{k:Nat}(hk0:0<k)(hk:∀x,(enc x).length=k)(x:α){z:Array Value}(hz:z=(enc x).toArray)(c:Nat):madeCells z (c*k)=(flt enc (List.replicate c x)).toArray:=by
 subst hz
 have hl:(flt enc (List.replicate c x)).length=c*k:=by
  rw[aX hk,List.length_replicate]
 apply Array.ext
 ·rw[size_madeCells,List.size_toArray,hl]
 ·intro t h1 h2
  rw[size_madeCells] at h1
  have e:=yQ hk0 hk (List.replicate c x) t (by rw[List.length_replicate];exact h1)
  have hq:t/k<c:=Nat.div_lt_of_lt_mul (by rw[Nat.mul_comm];exact h1)
  have e2:(List.replicate c x).toArray[t/k]! =x:=by simp[hq]
  rw[e2] at e
  have e3:(flt enc (List.replicate c x)).toArray[t]=(enc x)[t%k]!:=by
   have:=List.getElem?_eq_some_iff.1 e
   obtain⟨h3,h4⟩:=this
   simpa using h4
  rw[e3]
  simp[madeCells,hk]
section
variable {P:Program} {S:List Nat} {w0:World} {ops:List Oper} {gh:List Nat} {K:Env→(World→Prop)→(World→Prop)→Prop} {j:Nat} {ord:List Nat} {L:Env} {F:World→Prop} {ty:TypeId} {pos:String} {af:Array Edge} {g:Option (Nat×Bool)}
theorem Der.Ah{R:World→Prop}{α:Type}[Inhabited α]{enc:α→List Value}{d c:Nat}{t e:TypeId}{i:TypeInfo}[u:Ut P t (.slice e)][f:Inf P e i]{z:Value}{x y:Operand}{zc:Int}(z0:α)
  (ho:ops[j]?=some ⟨some d,.makeSlice t x y,ty,pos,af,g⟩) (hw:want ops L ⟨some d,.makeSlice t x y,ty,pos,af,g⟩=some true) (hg:gh.elem j=true) (hk:(known L x&&known L y)=true) (hx:rho L x= .int .i64 zc) (hy:rho L y= .int .i64 zc) (hc:zc=(c:Int)) (hz:i.zero=some z) (hze:z.cells=(enc z0).toArray) (hel:∀x,(enc x).length=i.size) (hsz:Nat.blt 0 i.size=true) (hbytes:i.bytes*c≤281474976710656) (h63:c≤maxLen) (hS:∀z∈S,z<w0.heap.size) (hFs:bU S F) (hRs:bU [] R)
  (h:∀bn,Der P S w0 ops gh K ord ((d,.slice (some ⟨bn,0,none⟩) c c)::L) (fun w=>F w∧(w0.heap.size≤bn∧Blk w bn (.cells (flt enc (List.replicate c z0)).toArray e))) R):Der P S w0 ops gh K (j::ord) L F R:=by
 refine Der.ghost (X:=Nat) (fun bn=> .slice (some ⟨bn,0,none⟩) c c) (fun bn w=>w0.heap.size≤bn∧Blk w bn (.cells (flt enc (List.replicate c z0)).toArray e)) (fun _=>R) ho hw hg (by simpa[Op.operands] using hk) (fun bn w w' hk h=>⟨h.1,h.2.kp hk (fun hm=>by have:=hS _ hm;omega)⟩) (fun _=>hRs) hFs (fun w hk1 hF hR=>?_) h
 subst hc
 unfold aR
 have h63':(c:Int)≤9223372036854775807:=by have h:=h63;simp[maxLen] at h;omega
 have hb':(i.bytes:Int)*(c:Int)≤281474976710656:=by
  have h:((i.bytes*c:Nat):Int)≤281474976710656:=by omega
  rwa [Int.natCast_mul] at h
 have hr:=run_make (P:=P) w t e i z u.eq f.eq hz .i64 .i64 c c (by omega) (Int.le_refl _) hb' h63'
 simp only[Int.toNat_natCast] at hr
 have e0:=vM (enc:=enc) (by simpa using hsz) hel z0 hze c
 rw[e0] at hr
 have:(execOp (rho L) ⟨some d,.makeSlice t x y,ty,pos,af,g⟩).run P w= .ok (.value (.slice (some ⟨w.heap.size,0,none⟩) c c)) (w.alloc (.cells (flt enc (List.replicate c z0)).toArray e)):=by
  simp only[execOp,hx,hy,Sem.run_bind,hr,Result.andThen,Sem.run_pure]
 rw[this]
 exact⟨w.heap.size,rfl,⟨hk1.size,Blk.push w _⟩,hRs _ _ (Kp.push w _ rfl) hR,(Kp.push w _ rfl).any⟩
end
end
section
instance:Inhabited Dg:=⟨zd⟩
def fI:Dg:=cz zd [110,111,110,101]
def upL:List Dg→List Dg
 |a::b::r=>kL a b::upL r
 |_=>[]
def Ai(l:List Dg)(h:Nat):List Dg:=l.map rk++List.replicate (2^h-l.length) fI
def lvl(l:List Dg)(h:Nat):Nat→List Dg
 |0=>Ai l h
 |k+1=>upL (lvl l h k)
def iH(l:List Dg):Dg:=l4 ((lvl l (hg0 (l.length-1)) (hg0 (l.length-1))).headD zd) (hg0 (l.length-1))
theorem kl:∀(m:Nat) {l:List Dg},l.length=2*m→(upL l).length=m
 |0,l,h=>by
  have:l=[]:=List.eq_nil_of_length_eq_zero (by omega)
  subst this
  rfl
 |m+1,a::b::r,h=>by
  simp only[List.length_cons] at h
  simp only[upL,List.length_cons,kl m (l:=r) (by omega)]
 |m+1,[a],h=>by simp at h;omega
 |m+1,[],h=>by simp at h
theorem rB:∀(k:Nat) {l:List Dg} (h1:2*k+1<l.length) (h2:k<(upL l).length),(upL l)[k]=kL (l[2*k]'(by omega)) l[2*k+1]
 |0,a::b::r,h1,h2=>rfl
 |k+1,a::b::r,h1,h2=>by
  simp only[upL,List.length_cons] at h1 h2
  have:=rB k (l:=r) (by omega) (by omega)
  simp only[upL,List.getElem_cons_succ]
  rw[this]
  rfl
 |k,[a],h1,h2=>by simp at h1
 |k,[],h1,h2=>by simp at h1
theorem xz{n:Nat}(h1:1≤n)(h2:n≤64):n≤2^hg0 (n-1)∧2^hg0 (n-1)≤64∧hg0 (n-1)≤6:=by
 have key:∀y:_root_.Fin 64,y.val+1≤2^hg0 y.val∧2^hg0 y.val≤64∧hg0 y.val≤6:=by decide+kernel
 have:=key ⟨n-1,by omega⟩
 simp only at this
 omega
theorem dM{l:List Dg}{h:Nat}(hl:l.length≤2^h):∀k,k≤h→(lvl l h k).length=2^(h-k)
 |0,_=>by
  simp only[lvl,Ai,List.length_append,List.length_map,List.length_replicate,Nat.sub_zero]
  omega
 |k+1,hk=>by
  have h1:=dM hl k (by omega)
  have h2:2^(h-k)=2*2^(h-(k+1)):=by
   rw[show h-k=(h-(k+1))+1 by omega,Nat.pow_succ]
   omega
  simp only[lvl]
  exact kl _ (by omega)
def fM(l:List Dg)(i:Nat):List Dg:=l.take i++List.replicate (l.length-i) zd
theorem eO(l:List Dg)(i:Nat)(hi:i≤l.length):(fM l i).length=l.length:=by
 simp only[fM,List.length_append,List.length_take,List.length_replicate]
 omega
theorem kz(l:List Dg):fM l 0=List.replicate l.length zd:=by simp[fM]
theorem mW(l:List Dg):fM l l.length=l:=by simp[fM]
theorem jG{l:List Dg}{i:Nat}(hi:i<l.length):(fM l i).set i l[i]=fM l (i+1):=by
 apply List.ext_getElem?
 intro j
 rw[List.getElem?_set]
 have hl:(l.take i).length=i:=by rw[List.length_take];omega
 have hl':(l.take (i+1)).length=i+1:=by rw[List.length_take];omega
 by_cases hj:i=j
 ·subst hj
  rw[if_pos rfl,if_pos (by rw[eO _ _ (by omega)];exact hi)]
  unfold fM
  rw[List.getElem?_append_left (by omega),List.getElem?_take,if_pos (by omega),List.getElem?_eq_getElem hi]
 ·rw[if_neg hj]
  unfold fM
  by_cases h1:j<i
  ·rw[List.getElem?_append_left (by omega),List.getElem?_append_left (by omega),List.getElem?_take,List.getElem?_take,if_pos h1,if_pos (by omega)]
  ·rw[List.getElem?_append_right (by omega),List.getElem?_append_right (by omega),List.getElem?_replicate,List.getElem?_replicate,hl,hl']
   by_cases h2:j<l.length
   ·rw[if_pos (by omega),if_pos (by omega)]
   ·rw[if_neg (by omega),if_neg (by omega)]
theorem Ip{P:Program}{S:List Nat}{w0:World}{F:World→Prop}{L:Env}{d:Option Nat}{ty:TypeId}{pos:String}{af:Array Edge}{g:Option (Nat×Bool)}{T T':TypeId}[u:Ut P T (.int .i64)]{y:Operand}{h:Nat}(hy:ro L y=some (.int .i64 (h:Int)))(hh:Ar (h≤12)):aJ P S w0 F L ⟨d,.binOp .shl T (.const (.int .i64 1)) y T',ty,pos,af,g⟩ (.int .i64 ((2^h:Nat):Int)):=fun w _ _=>by
 have hc:rho L (.const (.int .i64 1))= .int .i64 1:=rfl
 have h0:¬((h:Int)<0):=by omega
 have h12:=hh.h
 have hp:2^h≤2^12:=Nat.pow_le_pow_right (by omega) h12
 have e1:min (Int.toNat (h:Int)) 64=h:=by rw[Int.toNat_natCast];omega
 have e2:(1:Int)*2^h=((2^h:Nat):Int):=by rw[Int.one_mul,Int.natCast_pow];rfl
 have e:IntKind.wrap .i64 ((2^h:Nat):Int)=((2^h:Nat):Int):=by
  generalize 2^h=N at hp
  exact BI (by omega)
 simp only[execOp,ag hy,hc,eqGuard,binOp,Op.shift,if_neg h0,Sem.run_bind,Sem.run_pure,Result.andThen,IntKind.bits,e1,e2,e];rfl
attribute [local irreducible] CG NG SG aJ Der Row Blk av aA num bV bR bI bu orJ cA aL cz ofI cM bh c9 aK rgt kL
theorem nc{w:World}{a:Option Addr}{l:List Dg}(c:Nat)(hS:Sl dc 8 w a l)(hl:l.length≤1000000):oM Tryz.prog 47 dc 8 182 #[.slice a l.length c] w l:=by
 refine aM Tryz.func182 rfl Tryz.ntmps182 rfl ?_
 cases a with
 |none=>
  have hnil:=hS.sK
  subst hnil
  repeat (first|apply gst|(apply gsv;rfl;(first|apply qmv|apply qas|apply qsn)<;>rfl))
  refine gct rfl ?_
  repeat (first|apply gst|(apply gsv;rfl;apply qas<;>rfl))
  refine aN (Or.inl rfl) Tryz.results182 (aw.tmp rfl) ?_
  exact⟨_,rfl,cC,Kp.refl _ _⟩
 |some ad=>
  repeat (first|apply gst|(apply gsv;rfl;(first|apply qmv|apply qas|apply qsn)<;>rfl))
  refine gcf rfl ?_
  repeat apply gst
  refine SG.empty rfl rfl (fun b0 w1 hk1 hb0 hB0=>?_)
  repeat (apply gsv;rfl;apply qmv<;>rfl)
  refine SG.xB (enc:=dc) (l:=l) (m:=w.heap.size) rfl rfl rfl ah aO (ag rfl) (ag rfl) rfl rfl rfl (by simp only[maxLen];omega) (by show l.length*8≤_;omega) hb0 (hS.kp0 hk1) hB0 (fun v w2 hk2 hown=>?_)
  repeat (first|apply gst|(apply gsv;rfl;apply qas<;>rfl))
  refine aN (Or.inl rfl) Tryz.results182 (aw.tmp rfl) ?_
  exact⟨v,rfl,hown,hk1.trans hk2⟩
end
section
abbrev zy:Value:= .slice none 0 0
theorem Ji(a:Option Addr)(n c:Nat)(w:World):(Instr.build 287 #[(0,.slice a n c)]).run Tryz.prog w= .ok (.agg (.slice a n c::List.replicate 13 zy).toArray) w:=by kernel_rfl
section
variable {n:Nat} {ops:List Oper} {Q:Exit→Act→World→Prop} {w:World} {L:Env} {ty:TypeId} {pos:String} {af:Array Edge} {g:Option (Nat×Bool)} {rest:List Oper}
theorem SG.CL{a x:Operand}{b:Nat}{d:Dg}{Ls:List Dg}(k:Nat)(hk:k<Ls.length)(hw:want ops L ⟨none,.store 47 a x,ty,pos,af,g⟩=some true)(hkn:(known L a&&known L x)=true)(ha:rho L a= .pointer (some ⟨b,0+k*8,none⟩))(hx:rho L x=dv d)(hB:Blk w b (.cells (flat Ls).toArray 47))
  (h:∀w',Kp [b] w w'→Blk w' b (.cells (flat (Ls.set k d)).toArray 47)→SG Tryz.prog n ops Q rest L w'):SG Tryz.prog n ops Q (⟨none,.store 47 a x,ty,pos,af,g⟩::rest) L w:=by
 refine SG.bH (flat (Ls.take k)) (dc Ls[k]) (flat (Ls.drop (k+1))) hw hkn ha hx hB (by rw[List.toList_toArray];exact fc Ls k hk) (by exact ah d) (ah _) (by rw[bP,List.length_take];show min k Ls.length*8=0+k*8;rw[Nat.min_eq_left (by omega)];omega) (by exact aO d) (fun w' hk' hB'=>h w' hk' ?_)
 have e:flat (Ls.set k d)=flat (Ls.take k)++(dc d++flat (Ls.drop (k+1))):=by
  rw[List.set_eq_take_append_cons_drop,if_pos hk]
  simp[flat]
 rw[e]
 exact hB'
end
theorem lu(l:List Dg):flt dc l=flat l:=rfl
attribute [local irreducible] CG NG SG aJ Der Row Blk av aA num bV bR bI bu orJ cA aL cz ofI cM bh c9 aK rgt kL hg0 rk l4 fI
theorem rF{w:World}{a:Option Addr}{l:List Dg}(c:Nat)(hS:Sl dc 8 w a l)(hl1:1≤l.length)(hl2:l.length≤64):
  Calls Tryz.prog 164 #[.slice a l.length c] w (fun e w'=>∃bT v ns b,e= .returned (.tuple #[.pointer (some ⟨bT,0,none⟩),.int .i64 0])∧Blk w' bT (.cells (v::ns).toArray 287)∧ns.length=13∧(∃a' c',v= .slice a' l.length c')∧ns[hg0 (l.length-1)]?=some (.slice (some ⟨b,0,none⟩) 1 1)∧Blk w' b (.cells (flat (lvl l (hg0 (l.length-1)) (hg0 (l.length-1)))).toArray 47)∧Kp [] w w'):=by
 refine aM Tryz.func164 rfl Tryz.ntmps164 rfl ?_
 obtain⟨p1,p2,p3⟩:=xz hl1 hl2
 generalize hH:hg0 (l.length-1)=H at p1 p2 p3⊢
 have g0:¬(H:Int)<0:=by omega
 repeat (first|apply gst|(apply gsv;rfl;(first|apply qmv|apply qas|apply qln)<;>rfl))
 refine SG.ret rfl rfl rfl (vs:=[.int .i64 (l.length:Int)]) (Evs.of rfl) (pq l.length hl1 hl2 w) (fun w1 hk1=>?_)
 rw[hH]
 repeat (first|apply gst|(apply gsv;rfl;(first|apply qmv|apply qas|apply qls)<;>first|rfl|(apply dcf;first|assumption|omega)))
 refine gcf rfl ?_
 repeat (first|apply gst|(apply gsv;rfl;apply qmv<;>rfl))
 refine SG.call rfl rfl rfl (vs:=[.slice a l.length c]) (Evs.of rfl) ((nc c (hS.kp0 hk1) (by omega)).mono (fun e w2 hh=>?_))
 obtain⟨v2,he,ho2,hk2⟩:=hh
 refine⟨_,he,?_⟩
 clear he
 obtain⟨a2,c2,rfl,-,-⟩:=Sl.own ah ho2 rfl
 refine SG.val rfl rfl rfl rfl (ar rfl (Ji a2 l.length c2)) ?_
 refine SG.box rfl rfl rfl (ag rfl) (fun bT w3 hk3 hbT hT=>?_)
 have hT:Blk w3 bT (.cells (.slice a2 l.length c2::List.replicate 13 zy).toArray 287):=hT
 have k3:=(hk1.trans hk2).trans hk3
 have lT:=hT.lt
 have s12:=(hk1.trans hk2).size
 generalize hv:Value.slice a2 l.length c2=v at hT
 have g12:H≤12:=by omega
 repeat (first|apply gst|(apply gsv;rfl;apply qas<;>rfl))
 refine CG.dH mixed 6 [0,1,2,4,5,3] [3] [] (fun _=>True) (by kernel_rfl) trivial (fun _ _ _ _=>trivial) ?_
 repeat (apply gdv;rfl;rfl;(first|apply Ip|apply qmv|apply qfa|apply qnc)<;>first|rfl|(apply Ar.mk;omega))
 refine Der.Ah (enc:=dc) (e:=47) (i:=Tryz.t47) (f:=ty.i47) (c:=2^H) zd rfl rfl rfl rfl (ag rfl) (ag rfl) rfl rfl rfl ah rfl (by show 8*2^H≤_;omega) (by simp only[maxLen];omega) (by simp) (fun _ _ _ _=>trivial) (fun _ _ _ _=>trivial) (fun b0=>?_)
 refine Der.tl (fun w4 hk4 hF _=>?_)
 obtain⟨-,hb0,hB0⟩:=hF
 rw[lu] at hB0
 repeat (apply gsv;rfl;apply yf<;>first|rfl|(apply Ar.mk;omega))
 have lT4:=hk4.size
 refine SG.bH [v] [zy] (List.replicate 12 zy) rfl rfl (ag rfl) (ag rfl) (hT.kp0 hk4) rfl rfl rfl rfl rfl (fun w5 hk5 hT5=>?_)
 have k5:=(k3.trans hk4).ai hk5 (aV (by omega))
 generalize hN:2^H=N at p1 p2 hB0 hT5
 have hT5:Blk w5 bT (.cells (v::(.slice (some ⟨b0,0,none⟩) N N::List.replicate 12 zy)).toArray 287):=hT5
 have hB5:Blk w5 b0 (.cells (flat (List.replicate N zd)).toArray 47):=hB0.kp hk5 (nm1 (by omega))
 have lB0:=hB0.lt
 clear hT hB0
 repeat apply gst
 refine SG.val rfl rfl rfl rfl (ar rfl bzd) ?_
 refine SG.ret rfl rfl rfl (vs:=[dv zd,sv [110,111,110,101]]) (Evs.of rfl) (dE zd [110,111,110,101] (by decide) w5) (fun w6 hk6=>?_)
 refine SG.alloc rfl rfl rfl (fun b6 w7 hk7 hb6 hB6=>?_)
 have hnd:cz zd [110,111,110,101]=fI:=by unfold fI;rfl
 rw[hnd]
 refine SG.aB (old:=dc zd) (l:=dc fI) rfl rfl (ag rfl) (ag rfl) hB6 (ah _) (ah _) (aO _) (fun w8 hk8 hB8=>?_)
 have k58:Kp [] w5 w8:=(hk6.trans hk7).ai hk8 (aV (by have:=hk6.size;omega))
 have hr6:Row w8 b6 0 (dc fI):=Row.all hB8 rfl
 have l6:=hr6.lt
 have s6:=hk6.size
 have s5:=hk5.size
 have hT8:=hT5.kp0 k58
 have hB8':=hB5.kp0 k58
 have rT:Row w8 bT (0+1+0*1) [.slice (some ⟨b0,0,none⟩) N N]:=iz hT8 rfl
 clear hB8 hB6
 repeat (first|apply gst|(apply gsv;rfl;(first|apply yf|apply qmv|apply qlc|apply qfa|apply qnc|apply qln)<;>first|rfl|(apply Ar.mk;omega)|assumption|exact List.not_mem_nil))
 clear rT
 obtain⟨M,hM⟩:∃M,Ai l H=M:=⟨_,rfl⟩
 have hMl:M.length=N:=by
  rw[←hM,←hN]
  exact dM (by omega) 0 (Nat.zero_le _)
 refine CG.loop (X:=Nat) (fun i=>[(0,.slice a l.length c),(4,.int .i64 (H:Int)),(5,.pointer (some ⟨bT,0,none⟩)),(6,.pointer (some ⟨b6,0,none⟩)),(33,.int .i64 (N:Int)),(34,.int .i64 (i:Int))])
  (fun i w'=>i≤N∧Kp [b0] w8 w'∧Blk w' b0 (.cells (flat (fM M i)).toArray 47))
  (fun i=>N-i) 0 ⟨Nat.zero_le _,Kp.refl _ _,by rw[kz,hMl];exact hB8'⟩ (aW.of rfl) ?_
 rintro i w9 ⟨hi,k9,hB9⟩
 have hS9:=(hS.kp0 (k5.trans k58)).kp k9 (fun b off e=>nm1 (by have:=hS.ltN (by intro e;rw[e] at hl1;simp at hl1) b off e;omega))
 have hT9:=hT8.kp k9 (nm1 (by omega))
 have hr9:=hr6.kp k9 (nm1 (by omega))
 have l9:=hB9.lt
 have l9T:=hT9.lt
 have s9:=k9.size
 by_cases hlt:i<N
 ·have g1:(i:Int)<(N:Int):=by omega
  have hiM:i<(fM M i).length:=by rw[eO _ _ (by omega)];omega
  have rT:Row w9 bT (0+1+0*1) [.slice (some ⟨b0,0,none⟩) N N]:=iz hT9 rfl
  repeat (first|apply gst|(apply gsv;rfl;apply qls<;>first|rfl|(apply dct;first|assumption|omega)))
  refine gct rfl ?_
  by_cases hil:i<l.length
  ·have g2:(i:Int)<(l.length:Int):=by omega
   obtain⟨ba,off,rfl,hrow⟩:=hS9.at hil
   have hMi:M[i]'(by omega)=rk l[i]:=by
    subst hM
    simp only[Ai]
    rw[List.getElem_append_left (by rw[List.length_map];exact hil),List.getElem_map]
   repeat (first|apply gst|(apply gsv;rfl;(first|apply qmv|apply qas|apply qls|apply qln)<;>first|rfl|(apply dct;first|assumption|omega)))
   refine gct rfl ?_
   skip
   refine CG.tail mixed 11 [0,1,2,3,4,5,6,7,8,9,10] (by kernel_rfl) ?_
   repeat (apply gdv;rfl;rfl;(first|apply yf|apply qmv|apply qlc|apply qla|apply qfa|apply qnc|apply qix)<;>first|rfl|(apply Ar.mk;omega)|assumption|exact List.not_mem_nil|apply ah)
   refine Der.call rfl rfl rfl (vs:=[dv l[i]]) (Evs.of rfl) (fun W _ _=>vO _ W) ?_
   refine Der.tl (fun wa hka _ _=>?_)
   repeat (apply gsv;rfl;apply qix<;>first|rfl|(apply Ar.mk;omega))
   refine SG.CL i hiM rfl rfl (ag rfl) (ag rfl) (hB9.kp0 hka) (fun wb hkb hBb=>?_)
   rw[←hMi,jG (by omega)] at hBb
   repeat (first|apply gst|(apply gsv;rfl;(first|apply qmv|apply qad)<;>first|rfl|(apply Ar.mk;omega)))
   exact NG.round (i+1) (aW.of rfl) ⟨by omega,(k9.trans hka.any).trans hkb,hBb⟩ (by omega)
  ·have g2:¬(i:Int)<(l.length:Int):=by omega
   have hMi:M[i]'(by omega)=fI:=by
    subst hM
    simp only[Ai]
    rw[List.getElem_append_right (by rw[List.length_map];omega),List.getElem_replicate]
   repeat (first|apply gst|(apply gsv;rfl;(first|apply qmv|apply qas|apply qls|apply qln)<;>first|rfl|(apply dcf;first|assumption|omega)))
   refine gcf rfl ?_
   skip
   refine CG.tail mixed 7 [0,1,2,3,4,5,6] (by kernel_rfl) ?_
   repeat (apply gdv;rfl;rfl;(first|apply yf|apply qmv|apply qlc|apply qla|apply qfa|apply qnc)<;>first|rfl|(apply Ar.mk;omega)|assumption|exact List.not_mem_nil|apply ah)
   refine Der.tl (fun wa hka _ _=>?_)
   repeat (apply gsv;rfl;apply qix<;>first|rfl|(apply Ar.mk;omega))
   refine SG.CL i hiM rfl rfl (ag rfl) (ag rfl) (hB9.kp0 hka) (fun wb hkb hBb=>?_)
   rw[←hMi,jG (by omega)] at hBb
   repeat (first|apply gst|(apply gsv;rfl;(first|apply qmv|apply qad)<;>first|rfl|(apply Ar.mk;omega)))
   exact NG.round (i+1) (aW.of rfl) ⟨by omega,(k9.trans hka.any).trans hkb,hBb⟩ (by omega)
 ·have g1:¬(i:Int)<(N:Int):=by omega
  have e8:i=M.length:=by omega
  rw[e8,mW] at hB9
  repeat (first|apply gst|(apply gsv;rfl;apply qls<;>first|rfl|(apply dcf;first|assumption|omega)))
  refine gcf rfl ?_
  have hBb:=hB9
  rw[←hM] at hBb
  have kA:Kp [] w w9:=(k5.trans k58).ai k9 (aV (by omega))
  repeat (first|apply gst|(apply gsv;rfl;apply qmv<;>rfl))
  refine CG.loop (X:=Nat×List Value×Nat) (fun q=>[(5,.pointer (some ⟨bT,0,none⟩)),(62,.int .i64 (H:Int)),(63,.int .i64 (q.1:Int))])
   (fun q w'=>q.1≤H∧Kp [] w w'∧q.2.1.length=13∧q.2.1[q.1]?=some (.slice (some ⟨q.2.2,0,none⟩) (2^(H-q.1)) (2^(H-q.1)))∧Blk w' bT (.cells (v::q.2.1).toArray 287)∧Blk w' q.2.2 (.cells (flat (lvl l H q.1)).toArray 47)∧q.2.2≠bT)
   (fun q=>H-q.1) (0,.slice (some ⟨b0,0,none⟩) N N::List.replicate 12 zy,b0) ⟨Nat.zero_le _,kA,rfl,by rw[←hN];rfl,hT9,hBb,show b0≠bT by omega⟩ (aW.of rfl) ?_
  clear hBb hT9 hT8 hB8' hr9 hr6 hB9
  rintro⟨lev,ns,b1⟩ wc ⟨hlev,kc,hns,hgetl,hTc,hBc,hb1⟩
  simp only at hlev hns hgetl hTc hBc hb1
  refine CG.to [(5,.pointer (some ⟨bT,0,none⟩)),(62,.int .i64 (H:Int)),(63,.int .i64 (lev:Int))] (aW.of rfl) ?_
  have lTc:=hTc.lt
  have lBc:=hBc.lt
  by_cases hlt:lev<H
  ·have g1:(lev:Int)<(H:Int):=by omega
   have hz1:(lev:Int)+1=((lev+1:Nat):Int):=by omega
   obtain⟨m2,hm2⟩:∃m2,2^(H-(lev+1))=m2:=⟨_,rfl⟩
   have hm:2^(H-lev)=2*m2:=by
    rw[←hm2,show H-lev=(H-(lev+1))+1 by omega,Nat.pow_succ]
    omega
   have hle:2^(H-lev)≤2^6:=Nat.pow_le_pow_right (by omega) (by omega)
   have hL1:(lvl l H lev).length=2^(H-lev):=dM (by omega) lev (by omega)
   have hU:(lvl l H (lev+1)).length=m2:=by rw[←hm2];exact dM (by omega) (lev+1) (by omega)
   generalize 2^(H-lev)=m at hm hle hL1 hgetl
   have hup:lvl l H (lev+1)=upL (lvl l H lev):=rfl
   generalize hUe:lvl l H (lev+1)=U at hU hup
   generalize lvl l H lev=L1 at hL1 hup hBc
   have rT:=iz hTc hgetl
   repeat (first|apply gst|(apply gsv;rfl;apply qls<;>first|rfl|(apply dct;first|assumption|omega)))
   refine gct rfl ?_
   repeat (first|apply gst|(apply gsv;rfl;(first|apply qmv|apply qas)<;>rfl))
   refine CG.dH mixed 14 [0,1,2,3,4,5,6,7,8,9,10,12,13,11] [11] [] (fun _=>True) (by kernel_rfl) trivial (fun _ _ _ _=>trivial) ?_
   iterate 10 (refine Der.val rfl rfl rfl (by first|((first|apply qia|apply qmv|apply qlc|apply qfa|apply qnc|apply qad|apply qln)<;>(first|exact rfl|exact Ar.mk (by omega)|assumption|exact List.not_mem_nil|fail))|fail) ?_)
   refine Der.val rfl rfl rfl (qqi rfl rfl (Ar.mk (by omega))) ?_
   rw[show(m:Int)/2=(m2:Int) by omega]
   repeat (apply gdv;rfl;rfl;(first|apply qfa|apply qnc)<;>rfl)
   refine Der.Ah (enc:=dc) (e:=47) (i:=Tryz.t47) (f:=ty.i47) (c:=m2) zd rfl rfl rfl rfl (ag rfl) (ag rfl) rfl rfl rfl ah rfl (by show 8*m2≤_;omega) (by simp only[maxLen];omega) (by simp) (fun _ _ _ _=>trivial) (fun _ _ _ _=>trivial) (fun b2=>?_)
   refine Der.tl (fun wd hkd hF _=>?_)
   obtain⟨-,hb2,hB2⟩:=hF
   rw[lu] at hB2
   have hB1d:=hBc.kp0 hkd
   have lB2:=hB2.lt
   have sd:=hkd.size
   have hl2:lev+1<ns.length:=by omega
   obtain⟨old,hold⟩:∃old,ns[lev+1]?=some old:=⟨_,List.getElem?_eq_getElem hl2⟩
   rw[hz1]
   repeat (apply gsv;rfl;apply qia<;>first|rfl|(apply Ar.mk;omega))
   refine SG.bH (v::ns.take (lev+1)) [old] (ns.drop (lev+2)) rfl rfl (ag rfl) (ag rfl) (hTc.kp0 hkd) (by
    obtain⟨h3,h4⟩:=List.getElem?_eq_some_iff.1 hold
    subst h4
    simp) rfl rfl (by rw[List.length_cons,List.length_take];show min (lev+1) ns.length+1=0+1+(lev+1)*1;omega) rfl (fun we hke hTe=>?_)
   obtain⟨ns',hns'⟩:∃ns',ns'=ns.set (lev+1) (.slice (some ⟨b2,0,none⟩) m2 m2):=⟨_,rfl⟩
   have hTe:Blk we bT (.cells (v::ns').toArray 287):=by
    rw[hns',List.set_eq_take_append_cons_drop,if_pos hl2]
    exact hTe
   have hn':ns'.length=13:=by rw[hns',List.length_set];exact hns
   have hg0':ns'[lev]?=some (.slice (some ⟨b1,0,none⟩) m m):=by rw[hns',List.getElem?_set,if_neg (by omega)];exact hgetl
   have hg1':ns'[lev+1]?=some (.slice (some ⟨b2,0,none⟩) m2 m2):=by rw[hns',List.getElem?_set,if_pos rfl,if_pos hl2]
   have hB1e:=hB1d.kp hke (nm1 hb1)
   have hB2e:=hB2.kp hke (nm1 (by omega))
   have se:=hke.size
   have ke:Kp [] w we:=(kc.trans hkd).ai hke (aV (by omega))
   have rT2:=iz hTe hg1'
   clear rT hTc hBc hB1d hB2 hold hns'
   repeat (first|apply gst|(apply gsv;rfl;(first|apply qmv|apply qfa|apply qnc|apply qad)<;>first|rfl|(apply Ar.mk;omega)))
   rw[hz1]
   repeat (first|apply gst|(apply gsv;rfl;(first|apply qia|apply qmv|apply qlc|apply qln)<;>first|rfl|(apply Ar.mk;omega)|assumption|exact List.not_mem_nil))
   clear rT2
   refine CG.loop (X:=Nat) (fun k=>[(5,.pointer (some ⟨bT,0,none⟩)),(8,.int .i64 (lev:Int)),(62,.int .i64 (H:Int)),(63,.int .i64 (lev:Int)),(88,.int .i64 (m2:Int)),(89,.int .i64 (k:Int))])
    (fun k w'=>k≤m2∧Kp [b2] we w'∧Blk w' b2 (.cells (flat (fM U k)).toArray 47))
    (fun k=>m2-k) 0 ⟨Nat.zero_le _,Kp.refl _ _,by rw[kz,hU];exact hB2e⟩ (aW.of rfl) ?_
   rintro k wf ⟨hk,kf,hBf⟩
   have hTf:=hTe.kp kf (nm1 (by omega))
   have hB1f:=hB1e.kp kf (nm1 (by omega))
   by_cases hkm:k<m2
   ·have g2:(k:Int)<(m2:Int):=by omega
    have hfl:(fM U k).length=m2:=by rw[eO _ _ (by omega)];exact hU
    have hS1:Sl dc 8 wf (some ⟨b1,0,none⟩) L1:=Sl.eL (pre:=[]) (post:=[]) (T:=47) ah (by simpa[lu] using hB1f)
    repeat (first|apply gst|(apply gsv;rfl;apply qls<;>first|rfl|(apply dct;first|assumption|omega)))
    refine gct rfl ?_
    repeat (first|apply gst|(apply gsv;rfl;(first|apply qmv|apply qas|apply qad)<;>first|rfl|(apply Ar.mk;omega)))
    rw[hz1]
    refine SG.call rfl rfl rfl (vs:=[.pointer (some ⟨bT,0,none⟩),.int .i64 ((lev+1:Nat):Int),.int .i64 (k:Int)]) (Evs.of rfl) ((tj (L1:=L1) (L2:=fM U k) (c1:=m) (c2:=m2) hTf hn' (by omega) (by rw[hL1];exact hg0') (by rw[hfl];exact hg1') hS1 hBf (by omega) (by omega) (by omega)).mono (fun e wg hh=>?_))
    obtain⟨he,hkg,hBg⟩:=hh
    refine⟨_,he,?_⟩
    have hUk:U[k]'(by omega)=kL (L1[2*k]'(by omega)) (L1[2*k+1]'(by omega)):=by
     subst hup
     exact rB k (by omega) (by omega)
    rw[←hUk,jG (by omega)] at hBg
    repeat (first|apply gst|(apply gsv;rfl;(first|apply qmv|apply qad)<;>first|rfl|(apply Ar.mk;omega)))
    exact NG.round (k+1) (aW.of rfl) ⟨by omega,kf.trans hkg,hBg⟩ (by omega)
   ·have g2:¬(k:Int)<(m2:Int):=by omega
    have e8:k=U.length:=by omega
    rw[e8,mW] at hBf
    repeat (first|apply gst|(apply gsv;rfl;apply qls<;>first|rfl|(apply dcf;first|assumption|omega)))
    refine gcf rfl ?_
    repeat (first|apply gst|(apply gsv;rfl;(first|apply qmv|apply qad)<;>first|rfl|(apply Ar.mk;omega)))
    refine NG.round (lev+1,ns',b2) (aW.of rfl) ⟨by show lev+1≤H;omega,ke.ai kf (aV (by have:=ke.size;omega)),hn',?_,hTf,?_,show b2≠bT by omega⟩ (by simp only;omega)
    ·simp only
     rw[hm2]
     exact hg1'
    ·simp only
     rw[hUe]
     exact hBf
  ·have g1:¬(lev:Int)<(H:Int):=by omega
   have e8:lev=H:=by omega
   subst e8
   repeat (first|apply gst|(apply gsv;rfl;apply qls<;>first|rfl|(apply dcf;first|assumption|omega)))
   refine gcf rfl ?_
   repeat (first|apply gst|(apply gsv;rfl;(first|apply qmv|apply qas)<;>rfl))
   refine dC (Or.inl rfl) Tryz.results164 (aw.tmp rfl) (aw.tmp rfl) ?_
   exact⟨bT,v,ns,b1,rfl,hTc,hns,⟨a2,c2,hv.symm⟩,by rw[Nat.sub_self] at hgetl;exact hgetl,hBc,kc⟩
end
section
attribute [local irreducible] CG NG SG aJ Der Row Blk av aA num bV bR bI bu orJ cA aL cz ofI cM bh c9 aK rgt kL hg0 rk l4 fI
theorem qv{w:World}{a:Option Addr}{l:List Dg}(c:Nat)(hS:Sl dc 8 w a l)(hl1:1≤l.length)(hl2:l.length≤64):Ret Tryz.prog 132 #[.slice a l.length c] w (.tuple #[dv (iH l),.int .i64 0]):=by
 refine aM Tryz.func132 rfl Tryz.ntmps132 rfl ?_
 obtain⟨p1,p2,p3⟩:=xz hl1 hl2
 obtain⟨H,hH⟩:∃H,hg0 (l.length-1)=H:=⟨_,rfl⟩
 rw[hH] at p1 p2 p3
 repeat apply gst
 refine SG.alloc rfl rfl rfl (fun b2 w1 hk1 hb2 hB2=>?_)
 repeat (first|apply gst|(apply gsv;rfl;(first|apply qmv|apply qas)<;>rfl))
 refine SG.call rfl rfl rfl (vs:=[.slice a l.length c]) (Evs.of rfl) ((rF c (hS.kp0 hk1) hl1 hl2).mono (fun e w2 hh=>?_))
 obtain⟨bT,v,ns,b,he,hT,hns,⟨a',c',hv⟩,hg,hB,hk2⟩:=hh
 refine⟨_,he,?_⟩
 rw[hH] at hg hB
 have hLl:(lvl l H H).length=1:=by
  have:=dM (l:=l) (h:=H) p1 H (Nat.le_refl _)
  rw[Nat.sub_self] at this
  exact this
 obtain⟨x,hx⟩:∃x,lvl l H H=[x]:=List.length_eq_one_iff.1 hLl
 rw[hx] at hB
 have e1:flat [x]=dc x:=dX x
 rw[e1] at hB
 have er:iH l=l4 x H:=by
  unfold iH
  rw[hH,hx]
  rfl
 rw[er]
 have k2:=hk1.trans hk2
 have hB2:=hB2.kp0 hk2
 clear he
 have hr:∀W,Kp [] w2 W→Ret Tryz.prog 165 #[.pointer (some ⟨bT,0,none⟩)] W (dv (l4 x H)):=fun W hkW=>by
  refine aM Tryz.func165 rfl Tryz.ntmps165 rfl ?_
  repeat apply gst
  refine SG.alloc rfl rfl rfl (fun b4 w4 hk4 hb4 hB4=>?_)
  have k4:=hkW.trans hk4
  repeat (first|apply gst|(apply gsv;rfl;(first|apply qep|apply qmv)<;>rfl))
  refine gcf rfl ?_
  repeat (first|apply gst|(apply gsv;rfl;apply qmv<;>rfl))
  have hh:∀W',Kp [] w2 W'→Ret Tryz.prog 185 #[.pointer (some ⟨bT,0,none⟩)] W' (.int .i64 (H:Int)):=fun W' hkW'=>by
   refine aM Tryz.func185 rfl Tryz.ntmps185 rfl ?_
   have r0:Row W' bT 0 [v]:=Row.of (hT.kp0 hkW') [] ns rfl rfl
   rw[hv] at r0
   repeat (first|apply gst|(apply gsv;rfl;(first|apply qmv|apply qas|apply qlc|apply qfa|apply qnc|apply qln)<;>first|rfl|assumption|exact List.not_mem_nil))
   refine SG.ret rfl rfl rfl (vs:=[.int .i64 (l.length:Int)]) (Evs.of rfl) (pq l.length hl1 hl2 W') (fun w5 hk5=>?_)
   rw[hH]
   repeat (first|apply gst|(apply gsv;rfl;apply qas<;>rfl))
   refine aN (Or.inl rfl) Tryz.results185 (aw.tmp rfl) ?_
   exact⟨rfl,hk5⟩
  refine SG.ret rfl rfl rfl (vs:=[.pointer (some ⟨bT,0,none⟩)]) (Evs.of rfl) (hh _ k4) (fun w5 hk5=>?_)
  have rT:=iz ((hT.kp0 k4).kp0 hk5) hg
  have rx:Row w5 b 0 (dc x):=Row.all ((hB.kp0 k4).kp0 hk5) rfl
  have g12:H≤12:=by omega
  repeat (first|apply gst|(apply gsv;rfl;(first|apply qia|apply qmv|apply qas|apply qlc|apply qla|apply qfa|apply qnc|apply qic)<;>first|rfl|(apply Ar.mk;omega)|assumption|exact List.not_mem_nil|apply ah))
  refine SG.ret rfl rfl rfl (vs:=[dv x,.int .i64 (H:Int)]) (Evs.of rfl) (uQ x H (by omega) w5) (fun w6 hk6=>?_)
  refine SG.aB (old:=dc zd) (l:=dc (l4 x H)) rfl rfl (ag rfl) (ag rfl) ((hB4.kp0 hk5).kp0 hk6) (ah _) (ah _) (aO _) (fun w7 hk7 hB7=>?_)
  have r7:Row w7 b4 0 (dc (l4 x H)):=Row.all hB7 rfl
  clear rT rx
  repeat apply gst
  refine aN (Or.inl rfl) Tryz.results165 (by exact aw.agg rfl rfl (by assumption) (by first|exact ah _|exact nc_length _|exact rc_length _ _ _|exact ay _|exact dl_length _ _ _ _|exact az _|exact aE _|exact aH _|exact aj _|rfl)) ?_
  exact⟨rfl,((hk4.trans hk5).trans hk6).ai hk7 (aV hb4)⟩
 repeat (first|apply gst|(apply gsv;rfl;(first|apply qmv|apply qas|apply qxt)<;>rfl))
 refine SG.ret rfl rfl rfl (vs:=[.pointer (some ⟨bT,0,none⟩)]) (Evs.of rfl) (hr w2 (Kp.refl _ _)) (fun w3 hk3=>?_)
 repeat (apply gsv;rfl;apply qmv<;>rfl)
 refine SG.aB (old:=dc zd) (l:=dc (l4 x H)) rfl rfl (ag rfl) (ag rfl) (hB2.kp0 hk3) (ah _) (ah _) (aO _) (fun w4 hk4 hB4=>?_)
 have r4:Row w4 b2 0 (dc (l4 x H)):=Row.all hB4 rfl
 repeat (first|apply gst|(apply gsv;rfl;apply qas<;>rfl))
 refine dC (Or.inl rfl) Tryz.results132 (by first|exact aw.tmp rfl|exact aw.agg rfl rfl (by assumption) (by first|exact ah _|exact nc_length _|exact rc_length _ _ _|exact ay _|exact dl_length _ _ _ _|exact az _|exact aE _|exact aH _|exact aj _|rfl)) (by first|exact aw.tmp rfl|exact aw.agg rfl rfl (by assumption) (by first|exact ah _|exact nc_length _|exact rc_length _ _ _|exact ay _|exact dl_length _ _ _ _|exact az _|exact aE _|exact aH _|exact aj _|rfl)) ?_
 exact⟨rfl,(k2.trans hk3).ai hk4 (aV hb2)⟩
end
section
def rtD(b:Bl):Dg:=if b.txs.length=0 then fI else iH (b.txs.map aK)
def jE(b:Bl):List UInt8:=cA (num b.par)++cA (c8 b.ht)++cA (num b.mkr)++cA b.txs.length
def aF(b:Bl):Dg:=cz (ofI (jE b++cA (num (rtD b)))) [98,108,111,99,107]
noncomputable def orZ(b:Bl)(d:Dg):Value:=if aQ b=0 then .tuple #[dv d,.int .i64 0] else .tuple #[dv zd,.int .i64 (aQ b)]
theorem jq{b:Bl}(h:aQ b=0):b.txs.length≤64:=by
 unfold aQ at h
 split at h
 ·cases h
 ·split at h
  ·cases h
  ·omega
attribute [local irreducible] CG NG SG aJ Der Row Blk av aA num bV bR bI bu orJ cA aL cz ofI cM bh c9 aK rgt kL hg0 rk l4 fI iH aQ rtD
theorem qV{w:World}{n0:Nat}{x:Bm}(hx:x.In n0 w):Ret Tryz.prog 91 #[bkv x] w (orZ x.b (rtD x.b)):=by
 refine aM Tryz.func91 rfl Tryz.ntmps91 rfl ?_
 repeat apply gst
 refine SG.box rfl rfl rfl (ag rfl) (fun b1 w1 hk1 hb1 hB1=>?_)
 have hB1:Blk w1 b1 (.cells (bkc x).toArray 50):=hB1
 refine SG.alloc rfl rfl rfl (fun b2 w2 hk2 hb2 hB2=>?_)
 have hB2:Blk w2 b2 (.cells (dc zd).toArray 47):=hB2
 have k2:=hk1.trans hk2
 have g2:w.heap.size≤b2:=by have:=hk1.size;omega
 obtain⟨r,-⟩:=bg (hB1.kp0 hk2)
 repeat (first|apply gst|(apply gsv;rfl;(first|apply qas|apply qla)<;>first|rfl|assumption|exact List.not_mem_nil|apply aD))
 refine SG.ret rfl rfl rfl (vs:=[bkv x]) (Evs.of rfl) (jN (hx.kp0 k2)) (fun w3 hk3=>?_)
 have k3:=k2.trans hk3
 have hB2:=hB2.kp0 hk3
 clear r
 by_cases h0:aQ x.b=0
 rotate_left
 ·have e0:orZ x.b (rtD x.b)= .tuple #[dv zd,.int .i64 (aQ x.b)]:=by unfold orZ;rw[if_neg h0]
  rw[e0]
  generalize aQ x.b=z at h0⊢
  repeat (first|apply gst|(apply gsv;rfl;(first|apply qmv|apply qas|apply qni)<;>first|rfl|(apply dcf;first|assumption|omega)))
  refine gct rfl ?_
  repeat apply gst
  refine SG.val rfl rfl rfl rfl (ar rfl bzd) ?_
  repeat (apply gsv;rfl;apply qmv<;>rfl)
  refine SG.aB (l:=dc zd) rfl rfl (ag rfl) (ag rfl) hB2 (ah _) rfl (aO _) (fun w4 hk4 hB4=>?_)
  have r4:Row w4 b2 0 (dc zd):=Row.all hB4 rfl
  repeat (first|apply gst|(apply gsv;rfl;apply qas<;>rfl))
  refine dC (Or.inl rfl) Tryz.results91 (by first|exact aw.tmp rfl|exact aw.agg rfl rfl (by assumption) (by first|exact ah _|exact nc_length _|exact rc_length _ _ _|exact ay _|exact dl_length _ _ _ _|exact az _|exact aE _|exact aH _|exact aj _|rfl)) (by first|exact aw.tmp rfl|exact aw.agg rfl rfl (by assumption) (by first|exact ah _|exact nc_length _|exact rc_length _ _ _|exact ay _|exact dl_length _ _ _ _|exact az _|exact aE _|exact aH _|exact aj _|rfl)) ?_
  exact⟨rfl,k3.ai hk4 (aV g2)⟩
 have e0:orZ x.b (rtD x.b)= .tuple #[dv (rtD x.b),.int .i64 0]:=by unfold orZ;rw[if_pos h0]
 have hlen:x.xs.length≤64:=by have:=jq h0;rwa [show x.b.txs.length=x.xs.length from List.length_map _] at this
 rw[e0,h0]
 have h00:(0:Int)=0:=rfl
 obtain⟨-,-,-,-,r3⟩:=bg (hB1.kp0 (hk2.trans hk3))
 by_cases hz:x.xs.length=0
 ·have ez:(x.xs.length:Int)=0:=by omega
  have ed:rtD x.b=cz zd [110,111,110,101]:=by
   unfold rtD
   rw[if_pos (show x.b.txs.length=0 from(List.length_map _).trans hz)]
   unfold fI
   rfl
  rw[ed]
  repeat (first|apply gst|(apply gsv;rfl;(first|apply qmv|apply qas|apply qni)<;>first|rfl|(apply dct;first|assumption|omega)))
  refine gcf rfl ?_
  repeat (first|apply gst|(apply gsv;rfl;(first|apply qlc|apply qfa|apply qei|apply qln)<;>first|rfl|assumption|(apply dct;first|assumption|omega)|exact List.not_mem_nil))
  refine gct rfl ?_
  repeat apply gst
  refine SG.val rfl rfl rfl rfl (ar rfl bzd) ?_
  refine SG.ret rfl rfl rfl (vs:=[dv zd,sv [110,111,110,101]]) (Evs.of rfl) (dE zd [110,111,110,101] (by decide) _) (fun w4 hk4=>?_)
  refine SG.aB (l:=dc (cz zd [110,111,110,101])) rfl rfl (ag rfl) (ag rfl) (hB2.kp0 hk4) (ah _) rfl (aO _) (fun w5 hk5 hB5=>?_)
  have r5:Row w5 b2 0 (dc (cz zd [110,111,110,101])):=Row.all hB5 rfl
  clear r3
  repeat (first|apply gst|(apply gsv;rfl;apply qas<;>rfl))
  refine dC (Or.inl rfl) Tryz.results91 (by first|exact aw.tmp rfl|exact aw.agg rfl rfl (by assumption) (by first|exact ah _|exact nc_length _|exact rc_length _ _ _|exact ay _|exact dl_length _ _ _ _|exact az _|exact aE _|exact aH _|exact aj _|rfl)) (by first|exact aw.tmp rfl|exact aw.agg rfl rfl (by assumption) (by first|exact ah _|exact nc_length _|exact rc_length _ _ _|exact ay _|exact dl_length _ _ _ _|exact az _|exact aE _|exact aH _|exact aj _|rfl)) ?_
  exact⟨rfl,(k3.trans hk4).ai hk5 (aV g2)⟩
 ·have ez:¬(x.xs.length:Int)=0:=by omega
  have ed:rtD x.b=iH (x.xs.map (fun x=>aK x.t)):=by
   unfold rtD
   rw[if_neg (show ¬x.b.txs.length=0 from fun e=>hz ((List.length_map _).symm.trans e))]
   congr 1
   exact List.map_map
  rw[ed]
  repeat (first|apply gst|(apply gsv;rfl;(first|apply qmv|apply qas|apply qni)<;>first|rfl|(apply dct;first|assumption|omega)))
  refine gcf rfl ?_
  repeat (first|apply gst|(apply gsv;rfl;(first|apply qlc|apply qfa|apply qei|apply qln)<;>first|rfl|assumption|(apply dcf;first|assumption|omega)|exact List.not_mem_nil))
  refine gcf rfl ?_
  clear r3
  obtain⟨r,-⟩:=bg (hB1.kp0 (hk2.trans hk3))
  repeat (first|apply gst|(apply gsv;rfl;apply qla<;>first|rfl|assumption|exact List.not_mem_nil|apply aD))
  refine SG.call rfl rfl rfl (vs:=[bkv x]) (Evs.of rfl) ((qu (hx.kp0 k3)).mono (fun e w4 hh=>?_))
  obtain⟨v4,he,ho4,hk4⟩:=hh
  refine⟨_,he,?_⟩
  clear he r
  obtain⟨a4,c4,rfl,-,hS4⟩:=Sl.own ah ho4 rfl
  refine SG.ret rfl rfl rfl (vs:=[.slice a4 (x.xs.map (fun x=>aK x.t)).length c4]) (Evs.of rfl) (qv c4 hS4 (by rw[List.length_map];omega) (by rw[List.length_map];omega)) (fun w5 hk5=>?_)
  repeat (apply gsv;rfl;apply qxt<;>rfl)
  refine SG.aB (l:=dc (iH (x.xs.map (fun x=>aK x.t)))) rfl rfl (ag rfl) (ag rfl) ((hB2.kp0 hk4).kp0 hk5) (ah _) rfl (aO _) (fun w6 hk6 hB6=>?_)
  have r6:Row w6 b2 0 (dc (iH (x.xs.map (fun x=>aK x.t)))):=Row.all hB6 rfl
  repeat (first|apply gst|(apply gsv;rfl;apply qas<;>rfl))
  refine dC (Or.inl rfl) Tryz.results91 (by first|exact aw.tmp rfl|exact aw.agg rfl rfl (by assumption) (by first|exact ah _|exact nc_length _|exact rc_length _ _ _|exact ay _|exact dl_length _ _ _ _|exact az _|exact aE _|exact aH _|exact aj _|rfl)) (by first|exact aw.tmp rfl|exact aw.agg rfl rfl (by assumption) (by first|exact ah _|exact nc_length _|exact rc_length _ _ _|exact ay _|exact dl_length _ _ _ _|exact az _|exact aE _|exact aH _|exact aj _|rfl)) ?_
  exact⟨rfl,((k3.trans hk4).trans hk5).ai hk6 (aV g2)⟩
end
section
theorem tu(b:Bl):(jE b).length≤44:=by
 have p1:=aY (num b.par)
 have p2:=aY (c8 b.ht)
 have p3:=aY (num b.mkr)
 have p4:=aY b.txs.length
 simp only[jE,List.length_append]
 omega
attribute [local irreducible] CG NG SG aJ Der Row Blk av aA num bV bR bI bu orJ cA aL cz ofI cM bh c9 aK rgt kL hg0 rk l4 fI iH aQ rtD
theorem qW{w:World}{n0:Nat}{x:Bm}(hx:x.In n0 w):oM Tryz.prog 5 by1 1 94 #[bkv x] w (jE x.b):=by
 refine aM Tryz.func94 rfl Tryz.ntmps94 rfl ?_
 have hl:=hx.len
 have p1:=aY (num x.par)
 have p2:=aY (c8 x.ht)
 have p3:=aY (num x.mkr)
 have z2:=jg x.ht
 have eh:jE x.b=cA (num x.par)++cA (c8 x.ht)++cA (num x.mkr)++cA x.xs.length:=by
  have:x.b.txs.length=x.xs.length:=List.length_map _
  unfold jE
  rw[this]
  rfl
 rw[eh]
 repeat apply gst
 refine SG.box rfl rfl rfl (ag rfl) (fun b1 w1 hk1 hb1 hB1=>?_)
 have hB1:Blk w1 b1 (.cells (bkc x).toArray 50):=hB1
 obtain⟨-,r0,r1,r2,r3⟩:=bg hB1
 repeat (first|apply gst|(apply gsv;rfl;(first|apply qas|apply qla|apply qfa)<;>first|rfl|assumption|exact List.not_mem_nil|apply ah))
 refine SG.ret rfl rfl rfl (vs:=[dv x.par]) (Evs.of rfl) (cD x.par w1) (fun w2 hk2=>?_)
 refine SG.call rfl rfl rfl (vs:=[.slice none 0 0,.int .u64 (num x.par:Int)]) (Evs.of rfl) ((bD (l:=[]) Bs.nil (num x.par) (mC _) (by simp)).mono (fun e w3 hh=>?_))
 obtain⟨v3,he,ho3,hk3⟩:=hh
 refine⟨_,he,?_⟩
 rw[List.nil_append] at ho3
 obtain⟨a3,c3,rfl,hS3⟩:=Bs.own ho3
 have k23:=hk2.trans hk3
 have r1:=r1.kp0 k23
 have r2:=r2.kp0 k23
 have r3:=r3.kp0 k23
 clear r0
 repeat (first|apply gst|(apply gsv;rfl;(first|apply qmv|apply qas|apply qlc|apply qfa|apply qcv)<;>first|rfl|assumption|exact List.not_mem_nil))
 rw[fv]
 refine SG.call rfl rfl rfl (vs:=[.slice a3 (cA (num x.par)).length c3,.int .u64 (c8 x.ht:Int)]) (Evs.of rfl) ((bD hS3 (c8 x.ht) z2 (by omega)).mono (fun e w4 hh=>?_))
 obtain⟨v4,he,ho4,hk4⟩:=hh
 refine⟨_,he,?_⟩
 obtain⟨a4,c4,rfl,hS4⟩:=Bs.own ho4
 have r2:=r2.kp0 hk4
 have r3:=r3.kp0 hk4
 clear r1
 repeat (first|apply gst|(apply gsv;rfl;(first|apply qmv|apply qas|apply qla|apply qfa)<;>first|rfl|assumption|exact List.not_mem_nil|apply ah))
 refine SG.ret rfl rfl rfl (vs:=[dv x.mkr]) (Evs.of rfl) (cD x.mkr w4) (fun w5 hk5=>?_)
 refine SG.call rfl rfl rfl (vs:=[.slice a4 (cA (num x.par)++cA (c8 x.ht)).length c4,.int .u64 (num x.mkr:Int)]) (Evs.of rfl) ((bD (hS4.kp0 hk5) (num x.mkr) (mC _) (by simp only[List.length_append];omega)).mono (fun e w6 hh=>?_))
 obtain⟨v6,he,ho6,hk6⟩:=hh
 refine⟨_,he,?_⟩
 obtain⟨a6,c6,rfl,hS6⟩:=Bs.own ho6
 have r3:=(r3.kp0 hk5).kp0 hk6
 clear r2
 repeat (first|apply gst|(apply gsv;rfl;first|(apply Bu<;>(first|rfl|(apply Ar.mk;omega)|assumption|exact List.not_mem_nil))|((first|apply qmv|apply qas|apply qlc|apply qfa|apply qln)<;>(first|rfl|(apply Ar.mk;omega)|assumption|exact List.not_mem_nil))))
 refine SG.call rfl rfl rfl (vs:=[.slice a6 (cA (num x.par)++cA (c8 x.ht)++cA (num x.mkr)).length c6,.int .u64 (x.xs.length:Int)]) (Evs.of rfl) ((bD hS6 x.xs.length (by omega) (by simp only[List.length_append];omega)).mono (fun e w7 hh=>?_))
 obtain⟨v7,he,ho7,hk7⟩:=hh
 refine⟨_,he,?_⟩
 have k6:Kp [] w w6:=(((hk1.trans k23).trans hk4).trans hk5).trans hk6
 repeat (first|apply gst|(apply gsv;rfl;apply qas<;>rfl))
 refine aN (Or.inl rfl) Tryz.results94 (aw.tmp rfl) ?_
 exact⟨_,rfl,bW ho7 k6.size,k6.trans hk7⟩
theorem dN{w:World}{n0:Nat}{x:Bm}(hx:x.In n0 w):Ret Tryz.prog 46 #[bkv x] w (orZ x.b (aF x.b)):=by
 refine aM Tryz.func46 rfl Tryz.ntmps46 rfl ?_
 have hhl:=tu x.b
 have p1:=aY (num (rtD x.b))
 repeat apply gst
 refine SG.box rfl rfl rfl (ag rfl) (fun b1 w1 hk1 hb1 hB1=>?_)
 have hB1:Blk w1 b1 (.cells (bkc x).toArray 50):=hB1
 refine SG.alloc rfl rfl rfl (fun b2 w2 hk2 hb2 hB2=>?_)
 have hB2:Blk w2 b2 (.cells (dc zd).toArray 47):=hB2
 have k2:=hk1.trans hk2
 have g2:w.heap.size≤b2:=by have:=hk1.size;omega
 have l2:=hB2.lt
 obtain⟨r,-⟩:=bg (hB1.kp0 hk2)
 repeat (first|apply gst|(apply gsv;rfl;(first|apply qas|apply qla)<;>first|rfl|assumption|exact List.not_mem_nil|apply aD))
 refine SG.ret rfl rfl rfl (vs:=[bkv x]) (Evs.of rfl) (qV (hx.kp0 k2)) (fun w3 hk3=>?_)
 have k3:=k2.trans hk3
 have hB2:=hB2.kp0 hk3
 have s2:=k2.size
 have s3:=hk3.size
 clear r
 by_cases h0:aQ x.b=0
 rotate_left
 ·have e0:∀d,orZ x.b d= .tuple #[dv zd,.int .i64 (aQ x.b)]:=fun d=>by unfold orZ;rw[if_neg h0]
  rw[e0,e0]
  generalize aQ x.b=z at h0⊢
  repeat (apply gsv;rfl;(first|apply qmv|apply qxt)<;>rfl)
  refine SG.alloc rfl rfl rfl (fun b4 w4 hk4 hb4 hB4=>?_)
  refine SG.aB (l:=dc zd) rfl rfl (ag rfl) (ag rfl) hB4 (ah _) rfl (aO _) (fun w5 hk5 hB5=>?_)
  have k35:=hk4.ai hk5 (aV hb4)
  have hB2:=hB2.kp0 k35
  repeat (first|apply gst|(apply gsv;rfl;(first|apply qmv|apply qas|apply qni)<;>first|rfl|(apply dcf;first|assumption|omega)))
  refine gct rfl ?_
  repeat apply gst
  refine SG.val rfl rfl rfl rfl (ar rfl bzd) ?_
  repeat (apply gsv;rfl;apply qmv<;>rfl)
  refine SG.aB (l:=dc zd) rfl rfl (ag rfl) (ag rfl) hB2 (ah _) rfl (aO _) (fun w6 hk6 hB6=>?_)
  have r6:Row w6 b2 0 (dc zd):=Row.all hB6 rfl
  repeat (first|apply gst|(apply gsv;rfl;apply qas<;>rfl))
  refine dC (Or.inl rfl) Tryz.results46 (by first|exact aw.tmp rfl|exact aw.agg rfl rfl (by assumption) (by first|exact ah _|exact nc_length _|exact rc_length _ _ _|exact ay _|exact dl_length _ _ _ _|exact az _|exact aE _|exact aH _|exact aj _|rfl)) (by first|exact aw.tmp rfl|exact aw.agg rfl rfl (by assumption) (by first|exact ah _|exact nc_length _|exact rc_length _ _ _|exact ay _|exact dl_length _ _ _ _|exact az _|exact aE _|exact aH _|exact aj _|rfl)) ?_
  exact⟨rfl,(k3.trans k35).ai hk6 (aV g2)⟩
 have e0:∀d,orZ x.b d= .tuple #[dv d,.int .i64 0]:=fun d=>by unfold orZ;rw[if_pos h0]
 rw[e0,e0]
 repeat (apply gsv;rfl;(first|apply qmv|apply qxt)<;>rfl)
 refine SG.alloc rfl rfl rfl (fun b4 w4 hk4 hb4 hB4=>?_)
 refine SG.aB (l:=dc (rtD x.b)) rfl rfl (ag rfl) (ag rfl) hB4 (ah _) rfl (aO _) (fun w5 hk5 hB5=>?_)
 have k35:=hk4.ai hk5 (aV hb4)
 have k5:=k3.trans k35
 have hB2:=hB2.kp0 k35
 have h00:(0:Int)=0:=rfl
 repeat (first|apply gst|(apply gsv;rfl;(first|apply qmv|apply qas|apply qni)<;>first|rfl|(apply dct;first|assumption|omega)))
 refine gcf rfl ?_
 obtain⟨r,-⟩:=bg (((hB1.kp0 hk2).kp0 hk3).kp0 k35)
 have r5:Row w5 b4 0 (dc (rtD x.b)):=Row.all hB5 rfl
 repeat apply gst
 refine CG.dH mixed 4 [0,2,3,1] [1] [] (fun _=>True) (by kernel_rfl) trivial (fun _ _ _ _=>trivial) ?_
 repeat (apply gdv;rfl;rfl;apply qla<;>first|rfl|assumption|exact List.not_mem_nil|apply ah|apply aD)
 refine Der.call rfl rfl rfl (vs:=[dv (rtD x.b)]) (Evs.of rfl) (fun W _ _=>cD _ W) ?_
 refine Der.lN (X:=Option Addr×Nat) (vs:=[bkv x]) (fun q=> .slice q.1 (jE x.b).length q.2) (fun q W=>Bs W q.1 q.2 (jE x.b)) rfl rfl rfl rfl (Evs.of rfl) (fun q W W' hk h=>h.kp0 hk) (fun _ _ _ h=>h) (fun W hk _=>(qW ((hx.kp0 k5).kp0 hk)).mono (fun e W' hh=>?_)) (fun q=>?_)
 ·obtain⟨v',he,ho,hk'⟩:=hh
  obtain⟨a',c',rfl,hS⟩:=Bs.own ho
  exact⟨(a',c'),he,hS,hk'⟩
 refine Der.tl (fun w6 hk6 hF _=>?_)
 clear r r5
 refine SG.call rfl rfl rfl (vs:=[.slice q.1 (jE x.b).length q.2,.int .u64 (num (rtD x.b):Int)]) (Evs.of rfl) ((bD hF.2 (num (rtD x.b)) (mC _) (by omega)).mono (fun e w7 hh=>?_))
 obtain⟨v7,he,ho7,hk7⟩:=hh
 refine⟨_,he,?_⟩
 obtain⟨a7,c7,rfl,hS7⟩:=Bs.own ho7
 refine SG.ret rfl rfl rfl (vs:=[.slice a7 (jE x.b++cA (num (rtD x.b))).length c7]) (Evs.of rfl) (ju hS7.sl (lh ho7) (fun b off e=>cm ho7 b (by subst e;rfl)) (by simp only[List.length_append];omega) hS7.len) (fun w8 hk8=>?_)
 refine SG.ret rfl rfl rfl (vs:=[dv (ofI (jE x.b++cA (num (rtD x.b)))),sv [98,108,111,99,107]]) (Evs.of rfl) (dE _ [98,108,111,99,107] (by decide) w8) (fun w9 hk9=>?_)
 refine SG.aB (l:=dc (aF x.b)) rfl rfl (ag rfl) (ag rfl) ((((hB2.kp0 hk6).kp0 hk7).kp0 hk8).kp0 hk9) (ah _) rfl (aO _) (fun wa hka hBa=>?_)
 have ra:Row wa b2 0 (dc (aF x.b)):=Row.all hBa rfl
 repeat (first|apply gst|(apply gsv;rfl;apply qas<;>rfl))
 refine dC (Or.inl rfl) Tryz.results46 (by first|exact aw.tmp rfl|exact aw.agg rfl rfl (by assumption) (by first|exact ah _|exact nc_length _|exact rc_length _ _ _|exact ay _|exact dl_length _ _ _ _|exact az _|exact aE _|exact aH _|exact aj _|rfl)) (by first|exact aw.tmp rfl|exact aw.agg rfl rfl (by assumption) (by first|exact ah _|exact nc_length _|exact rc_length _ _ _|exact ay _|exact dl_length _ _ _ _|exact az _|exact aE _|exact aH _|exact aj _|rfl)) ?_
 exact⟨rfl,((((k5.trans hk6).trans hk7).trans hk8).trans hk9).ai hka (aV g2)⟩
end
section
noncomputable def nj(b p:Bl):Int:=if aQ b≠0 then aQ b else if aQ p≠0∨b.par≠aF p∨b.ht≠p.ht+1 then 24 else 0
attribute [local irreducible] CG NG SG aJ Der Row Blk av aA num bV bR bI bu orJ cA aL cz ofI cM bh c9 aK rgt kL hg0 rk l4 fI iH aQ rtD aF
theorem oH{w:World}{n0 n1:Nat}{x y:Bm}(hx:x.In n0 w)(hy:y.In n1 w)(hyh:0≤y.ht∧y.ht≤1099511627776):Ret Tryz.prog 70 #[bkv x,bkv y] w (.int .i64 (nj x.b y.b)):=by
 refine aT Tryz.func70 rfl Tryz.ntmps70 rfl ?_
 repeat apply gst
 refine SG.box rfl rfl rfl (ag rfl) (fun b2 w1 hk1 hb2 hB2=>?_)
 have hB2:Blk w1 b2 (.cells (bkc x).toArray 50):=hB2
 refine SG.box rfl rfl rfl (ag rfl) (fun b3 w2 hk2 hb3 hB3=>?_)
 have hB3:Blk w2 b3 (.cells (bkc y).toArray 50):=hB3
 have k2:=hk1.trans hk2
 have hB2:=hB2.kp0 hk2
 obtain⟨r,-⟩:=bg hB2
 repeat (first|apply gst|(apply gsv;rfl;(first|apply qas|apply qla)<;>first|rfl|assumption|exact List.not_mem_nil|apply aD))
 refine SG.ret rfl rfl rfl (vs:=[bkv x]) (Evs.of rfl) (jN (hx.kp0 k2)) (fun w3 hk3=>?_)
 have k3:=k2.trans hk3
 clear r
 by_cases h0:aQ x.b=0
 rotate_left
 ·have e0:nj x.b y.b=aQ x.b:=by unfold nj;rw[if_pos h0]
  rw[e0]
  generalize aQ x.b=z at h0⊢
  repeat (first|apply gst|(apply gsv;rfl;(first|apply qmv|apply qas|apply qni)<;>first|rfl|(apply dcf;first|assumption|omega)))
  refine gct rfl ?_
  repeat (first|apply gst|(apply gsv;rfl;(first|apply qmv|apply qas)<;>rfl))
  refine aN (Or.inl rfl) Tryz.results70 (aw.tmp rfl) ?_
  exact⟨rfl,k3⟩
 have e0:nj x.b y.b=if aQ y.b≠0∨x.b.par≠aF y.b∨x.b.ht≠y.b.ht+1 then 24 else 0:=by unfold nj;rw[if_neg (fun h=>h h0)]
 rw[e0,h0]
 clear e0
 have h00:(0:Int)=0:=rfl
 repeat (first|apply gst|(apply gsv;rfl;(first|apply qmv|apply qas|apply qni)<;>first|rfl|(apply dct;first|assumption|omega)))
 refine gcf rfl ?_
 obtain⟨r,-⟩:=bg (hB3.kp0 hk3)
 repeat (first|apply gst|(apply gsv;rfl;apply qla<;>first|rfl|assumption|exact List.not_mem_nil|apply aD))
 refine SG.ret rfl rfl rfl (vs:=[bkv y]) (Evs.of rfl) (dN (hy.kp0 k3)) (fun w4 hk4=>?_)
 have k4:=k3.trans hk4
 clear r
 have hB2:=(hB2.kp0 hk3).kp0 hk4
 have hB3:=(hB3.kp0 hk3).kp0 hk4
 have l2:=hB2.lt
 have l3:=hB3.lt
 have fin:∀{L:Env} {w':World} {z:Int},(if aQ y.b≠0∨x.b.par≠aF y.b∨x.b.ht≠y.b.ht+1 then(24:Int) else 0)=z→Kp [] w w'→look L 4=some (.int .i64 z)→NG 34 .ret (bodyPost Tryz.prog Tryz.f70 (fun e w'=>e= .returned (.int .i64 (if aQ y.b≠0∨x.b.par≠aF y.b∨x.b.ht≠y.b.ht+1 then 24 else 0))∧Kp [] w w')) L w':=
  fun hb hk' hL=>aN (Or.inl rfl) Tryz.results70 (aw.tmp hL) ⟨by rw[hb],hk'⟩
 by_cases h1:aQ y.b=0
 rotate_left
 ·have e1:orZ y.b (aF y.b)= .tuple #[dv zd,.int .i64 (aQ y.b)]:=by unfold orZ;rw[if_neg h1]
  rw[e1]
  have ee:(if aQ y.b≠0∨x.b.par≠aF y.b∨x.b.ht≠y.b.ht+1 then(24:Int) else 0)=24:=if_pos (Or.inl h1)
  repeat (apply gsv;rfl;(first|apply qmv|apply qxt)<;>rfl)
  refine SG.alloc rfl rfl rfl (fun b6 w5 hk5 hb6 hB6=>?_)
  refine SG.aB (l:=dc zd) rfl rfl (ag rfl) (ag rfl) hB6 (ah _) rfl (aO _) (fun w6 hk6 hB6=>?_)
  repeat (first|apply gst|(apply gsv;rfl;(first|apply qmv|apply qas|apply qpk|apply qni)<;>first|rfl|(apply dcf;first|assumption|omega))|refine SG.skip rfl rfl ?_)
  refine gct rfl ?_
  repeat (first|apply gst|(apply gsv;rfl;apply qas<;>rfl))
  exact fin ee (k4.trans (hk5.ai hk6 (aV hb6))) rfl
 have e1:orZ y.b (aF y.b)= .tuple #[dv (aF y.b),.int .i64 0]:=by unfold orZ;rw[if_pos h1]
 rw[e1]
 repeat (apply gsv;rfl;(first|apply qmv|apply qxt)<;>rfl)
 refine SG.alloc rfl rfl rfl (fun b6 w5 hk5 hb6 hB6=>?_)
 refine SG.aB (l:=dc (aF y.b)) rfl rfl (ag rfl) (ag rfl) hB6 (ah _) rfl (aO _) (fun w6 hk6 hB6=>?_)
 have k46:=hk5.ai hk6 (aV hb6)
 have k6:=k4.trans k46
 have q6:Row w6 b6 0 (dc (aF y.b)):=Row.all hB6 rfl
 obtain⟨-,r0,r1,-⟩:=bg (hB2.kp0 k46)
 obtain⟨-,-,s1,-⟩:=bg (hB3.kp0 k46)
 have o2:Ar (-9223372036854775808≤y.ht+1∧y.ht+1≤9223372036854775807):=Ar.mk (by omega)
 by_cases h2:x.par=aF y.b
 rotate_left
 ·repeat (first|apply gst|(apply gsv;rfl;(first|apply qmv|apply qas|apply qla|apply qfa|apply qpk|apply qni|apply qnd)<;>first|rfl|assumption|(apply dct;first|assumption|omega)|(apply dcf;first|assumption|omega)|exact List.not_mem_nil|apply ah)|refine SG.skip rfl rfl ?_)
  refine gct rfl ?_
  repeat (first|apply gst|(apply gsv;rfl;apply qas<;>rfl))
  exact fin (if_pos (Or.inr (Or.inl h2))) k6 rfl
 by_cases h3:x.ht=y.ht+1
 rotate_left
 ·repeat (first|apply gst|(apply gsv;rfl;(first|apply qmv|apply qas|apply qlc|apply qla|apply qfa|apply qpk|apply qni|apply qnd|apply qad)<;>first|rfl|(apply Ar.mk;omega)|assumption|(apply dct;first|assumption|omega)|(apply dcf;first|assumption|omega)|exact List.not_mem_nil|apply ah))
  refine gct rfl ?_
  repeat (first|apply gst|(apply gsv;rfl;apply qas<;>rfl))
  exact fin (if_pos (Or.inr (Or.inr h3))) k6 rfl
 repeat (first|apply gst|(apply gsv;rfl;(first|apply qmv|apply qas|apply qlc|apply qla|apply qfa|apply qpk|apply qni|apply qnd|apply qad)<;>first|rfl|(apply Ar.mk;omega)|assumption|(apply dct;first|assumption|omega)|exact List.not_mem_nil|apply ah))
 refine gcf rfl ?_
 repeat (first|apply gst|(apply gsv;rfl;apply qas<;>rfl))
 exact fin (if_neg (fun h=>h.elim (fun h=>h h1) (fun h=>h.elim (fun h=>h h2) (fun h=>h h3)))) k6 rfl
end
section
theorem Bm.In.mono{x:Bm}{n m:Nat}{w:World}(h:x.In n w)(hn:n≤m):x.In m w:=⟨⟨h.tx.sl,h.tx.tg.elim Or.inl (fun g=>Or.inr (fun b off e=>Nat.lt_of_lt_of_le (g b off e) hn)),fun y hy=>(h.tx.ins y hy).mono hn⟩,h.len⟩
theorem tY(x:Bm):bkc x=(dc x.par++(.int .i64 x.ht::dc x.mkr))++([.slice x.a x.xs.length x.c]++[]):=by simp[bkc]
def bm0:Bm:=⟨zd,0,zd,none,0,[]⟩
attribute [local irreducible] CG NG SG aJ Der Row Blk av aA num bV bR bI bu orJ cA aL cz ofI cM bh c9 aK rgt kL hg0 rk l4 fI iH aQ rtD aF
theorem gH{w:World}{n0:Nat}{x:Bm}(hx:x.In n0 w):Calls Tryz.prog 57 #[bkv x] w (fun e w'=>∃y:Bm,y.b=x.b∧e= .returned (bkv y)∧y.In 0 w'∧Kp [] w w'∧∀b off,y.a=some ⟨b,off,none⟩→w.heap.size≤b):=by
 refine aM Tryz.func57 rfl Tryz.ntmps57 rfl ?_
 have hl:=hx.len
 have hS:=hx.tx.sl
 have hI:=hx.tx.ins
 clear hx
 repeat apply gst
 refine SG.box rfl rfl rfl (ag rfl) (fun b1 w1 hk1 hb1 hB1=>?_)
 have hB1:Blk w1 b1 (.cells (bkc x).toArray 50):=hB1
 refine SG.alloc rfl rfl rfl (fun b2 w1' hk1' hb2 hB2=>?_)
 have hB2:Blk w1' b2 (.cells (bkc bm0).toArray 50):=hB2
 have l1:=hB1.lt
 have l2':=hB2.lt
 have s1:=hk1.size
 have hB1:=hB1.kp0 hk1'
 have k1:=hk1.trans hk1'
 obtain⟨-,-,-,-,r3⟩:=bg hB1
 obtain⟨par,ht,mkr,a,c,xs⟩:=x
 simp only at hl hS hI r3
 repeat (first|apply gst|(apply gsv;rfl;(first|apply qlc|apply qfa|apply qln)<;>first|rfl|assumption|exact List.not_mem_nil))
 refine SG.lq (e:=52) (c:=xs.length) rfl rfl rfl (ag rfl) (ag rfl) rfl rfl (by show 80*_≤_;omega) (by simp only[maxLen];omega) (fun b w2 hk2 hb2' ho=>?_)
 have k2:=k1.trans hk2
 have r3:=r3.kp0 hk2
 have hB1:=hB1.kp0 hk2
 have hB2:=hB2.kp0 hk2
 have l2:=hB2.lt
 repeat (first|apply gst|(apply gsv;rfl;(first|apply qmv|apply qas|apply qlc|apply qfa|apply qln)<;>first|rfl|assumption|exact List.not_mem_nil))
 refine CG.loop (X:=Nat×Value×List Tm) (fun q=>[(1,.pointer (some ⟨b1,0,none⟩)),(2,.pointer (some ⟨b2,0,none⟩)),(3,q.2.1),(11,.slice a xs.length c),(12,.int .i64 (xs.length:Int)),(13,.int .i64 (q.1:Int))])
  (fun q w'=>q.1≤xs.length∧(Kp [] w w'∧Blk w' b1 (.cells (bkc ⟨par,ht,mkr,a,c,xs⟩).toArray 50)∧Blk w' b2 (.cells (bkc bm0).toArray 50)∧w1'.heap.size≤w'.heap.size)∧w'.ownsRow w1'.heap.size 52 13 q.2.1 q.2.2.length (flt txc q.2.2)∧q.2.2.length=q.1∧q.2.2.map (·.t)=(xs.map (·.t)).take q.1∧∀y∈q.2.2,y.In 0 w')
  (fun q=>xs.length-q.1) (0,.slice (some ⟨b,0,none⟩) 0 xs.length,[]) ⟨Nat.zero_le _,⟨k2,hB1,hB2,hk2.size⟩,ho,rfl,rfl,fun y hy=>(by cases hy)⟩ (aW.of rfl) ?_
 clear r3
 rintro⟨i,v,ys⟩ w3 ⟨hi,⟨k3,hB31,hB32,s13⟩,ho3,hyl,hym,hyI⟩
 simp only at hi ho3 hyl hym hyI
 have l31:=hB31.lt
 have l32:=hB32.lt
 have s1'':=hk1'.size
 refine CG.to [(1,.pointer (some ⟨b1,0,none⟩)),(2,.pointer (some ⟨b2,0,none⟩)),(3,v),(11,.slice a xs.length c),(12,.int .i64 (xs.length:Int)),(13,.int .i64 (i:Int))] (aW.of rfl) ?_
 by_cases hlt:i<xs.length
 ·have g1:(i:Int)<(xs.length:Int):=by omega
  obtain⟨ba,off,rfl,hrow⟩:=(hS.kp0 k3).at hlt
  repeat (first|apply gst|(apply gsv;rfl;apply qls<;>first|rfl|(apply dct;first|assumption|omega)))
  refine gct rfl ?_
  repeat (first|apply gst|(apply gsv;rfl;(first|apply qla|apply qix)<;>first|rfl|(apply Ar.mk;omega)|assumption|exact List.not_mem_nil|apply aj))
  refine SG.alloc rfl rfl rfl (fun b5 w5 hk5 hb5 hB5=>?_)
  refine SG.aB (l:=txc xs[i]) rfl rfl (ag rfl) (ag rfl) hB5 (aj _) rfl (bJ _) (fun w6 hk6 hB6=>?_)
  have k36:=hk5.ai hk6 (aV hb5)
  obtain⟨q2,-⟩:=aG hB6
  clear hrow
  repeat (first|apply gst|(apply gsv;rfl;(first|apply qmv|apply qla)<;>first|rfl|assumption|exact List.not_mem_nil|apply aj))
  refine SG.call rfl rfl rfl (vs:=[txv xs[i]]) (Evs.of rfl) ((dS ((hI _ (List.getElem_mem hlt)).kp0 (k3.trans k36))).mono (fun e w7 hh=>?_))
  obtain⟨y,hy,he,hyI7,hk7,-,-⟩:=hh
  refine⟨_,he,?_⟩
  clear he q2
  refine SG.buildSlice rfl rfl rfl rfl (BB y) (fun b7 w8 hk8 hb7 hB7=>?_)
  have k38:=(k36.trans hk7).trans hk8
  have ho8:=aI ho3 k38
  have s2:=hk2.size
  have s3:=k3.size
  have s38:=k38.size
  refine SG.pE (enc:=txc) (xs:=ys) (ys:=[y]) (base:=w1'.heap.size) rfl rfl rfl (ag rfl) (ag rfl) rfl rfl rfl rfl aj bJ ho8 (jk (enc:=txc) (sz:=13) (x:=y) aj hB7) (by simp only[maxLen,List.length_singleton];omega) (by show(ys.length+1)*80≤_;omega) (by omega) (fun v9 w9 hk9 ho9 hv9=>?_)
  have hO:Oth 0 w8 (aU v):=Oth.own ho8 (Nat.zero_le _) (by decide)
  have nO:∀{z:Nat},z<w1'.heap.size→z∉aU v:=fun hz hm=>by have:=bF ho8 _ (aC hm);omega
  have hln:(ys++[y]).length=i+1:=by rw[List.length_append,hyl];rfl
  repeat (first|apply gst|(apply gsv;rfl;(first|apply qmv|apply qas|apply qad)<;>first|rfl|(apply Ar.mk;omega)))
  refine NG.round (i+1,v9,ys++[y]) (aW.of rfl) ⟨hlt,⟨(k3.trans k38).ai hk9 (df ho8 k1.size),(hB31.kp0 k38).kp hk9 (nO (by omega)),(hB32.kp0 k38).kp hk9 (nO (by omega)),by have:=hk9.size;omega⟩,ho9,hln,?_,fun z hz=>?_⟩ (by simp only;omega)
  ·rw[List.map_append,List.map_cons,List.map_nil,hym,hy,take_one (fun x:Tm=>x.t) hlt]
  ·rcases List.mem_append.1 hz with hz|hz
   ·exact((hyI z hz).kp0 k38).kpO hk9 hO
   ·rw[List.mem_singleton] at hz
    subst hz
    exact(hyI7.kp0 hk8).kpO hk9 hO
 ·have g1:¬(i:Int)<(xs.length:Int):=by omega
  have e8:i=xs.length:=by omega
  subst e8
  rw[List.take_of_length_le (by rw[List.length_map];exact Nat.le_refl _)] at hym
  obtain⟨a3,c3,rfl,-,hS3⟩:=Sl.own aj ho3 rfl
  have ty3:Ty 52 w3 a3 ys:=Ty.own ho3
  have ga:=fG ho3
  have hl3:ys.length=xs.length:=hyl
  repeat (first|apply gst|(apply gsv;rfl;apply qls<;>first|rfl|(apply dcf;first|assumption|omega)))
  refine gcf rfl ?_
  repeat (first|apply gst|(apply gsv;rfl;(first|apply qmv|apply qfa)<;>rfl))
  rw[hl3]
  refine SG.bH (dc par++(.int .i64 ht::dc mkr)) [.slice a xs.length c] [] rfl rfl (ag rfl) (ag rfl) hB31 (by rw[List.toList_toArray];exact tY _) rfl rfl (by simp[ah]) rfl (fun w4 hk4 hB4=>?_)
  have hB4:Blk w4 b1 (.cells (bkc ⟨par,ht,mkr,a3,c3,ys⟩).toArray 50):=by
   rw[tY]
   rw[←hl3] at hB4
   exact hB4
  obtain⟨r,-⟩:=bg hB4
  have n1:∀b off,a3=some ⟨b,off,none⟩→b∉[b1]:=fun b off e=>nm1 (by have:=ga b off e;omega)
  have n2:∀b off,a3=some ⟨b,off,none⟩→b∉[b2]:=fun b off e=>nm1 (by have:=ga b off e;omega)
  repeat (first|apply gst|(apply gsv;rfl;apply qla<;>first|rfl|assumption|exact List.not_mem_nil|apply aD))
  refine SG.aB (l:=bkc ⟨par,ht,mkr,a3,c3,ys⟩) rfl rfl (ag rfl) (ag rfl) (hB32.kp hk4 (nm1 (by omega))) (aD _) rfl (dD _) (fun w5 hk5 hB5=>?_)
  have r5:Row w5 b2 0 (bkc ⟨par,ht,mkr,a3,c3,ys⟩):=Row.all hB5 rfl
  repeat apply gst
  refine aN (Or.inl rfl) Tryz.results57 (aw.agg rfl rfl r5 (aD _)) ?_
  refine⟨⟨par,ht,mkr,a3,c3,ys⟩,?_,rfl,⟨⟨(hS3.kp hk4 n1).kp hk5 n2,Or.inl ((ty3.kp hk4 (fun _=>n1)).kp hk5 (fun _=>n2)),fun y hy=>((hyI y hy).kpO hk4 (xq hB31 (by decide))).kpO hk5 (xq (hB32.kp hk4 (nm1 (by omega))) (by decide))⟩,by show ys.length≤_;omega⟩,(k3.ai hk4 (aV (by omega))).ai hk5 (aV (by omega)),fun b off e=>by have h1:=ga b off e;have h2:=k1.size;omega⟩
  unfold Bm.b
  simp only[hym]
end
section
def bB(s:List UInt8):Bm:=⟨zd,0,ofI s,none,0,[]⟩
theorem Cq(w:World)(b0 b1 b2 b3 b4 b5 b6 b7:UInt8):(Instr.build 50 #[(2,.agg #[bv b0,bv b1,bv b2,bv b3,bv b4,bv b5,bv b6,bv b7])]).run Tryz.prog w=
  .ok (.agg #[bv 0,bv 0,bv 0,bv 0,bv 0,bv 0,bv 0,bv 0,.int .i64 0,bv b0,bv b1,bv b2,bv b3,bv b4,bv b5,bv b6,bv b7,.slice none 0 0]) w:=by kernel_rfl
theorem Jr(w:World)(d:Dg):(Instr.build 50 #[(2,dv d)]).run Tryz.prog w= .ok (bkv ⟨zd,0,d,none,0,[]⟩) w:=by
 obtain⟨lb,hb⟩:=d
 match lb,hb with
 |[b0,b1,b2,b3,b4,b5,b6,b7],_=>exact Cq w b0 b1 b2 b3 b4 b5 b6 b7
theorem mU(s:List UInt8)(n:Nat)(w:World):(bB s).In n w:=⟨⟨Sl.nil,Or.inl (fun h=>absurd rfl h),fun y hy=>(by cases hy)⟩,by show 0≤_;omega⟩
attribute [local irreducible] CG NG SG aJ Der Row Blk av aA num bV bR bI bu orJ cA aL cz ofI cM bh c9 aK rgt kL hg0 rk l4 fI iH aQ rtD aF
theorem qI(s:List UInt8)(hl:s.length≤1000)(w:World):Ret Tryz.prog 76 #[sv s] w (bkv (bB s)):=by
 refine aM Tryz.func76 rfl Tryz.ntmps76 rfl ?_
 repeat apply gst
 refine SG.alloc rfl rfl rfl (fun b2 w1 hk1 hb2 hB2=>?_)
 have hB2:Blk w1 b2 (.cells (bkc bm0).toArray 50):=hB2
 repeat (first|apply gst|(apply gsv;rfl;apply qmv<;>rfl))
 refine SG.CK rfl rfl rfl rfl (fun b c w2 hk2 hb hc hlt hS=>?_)
 refine SG.ret rfl rfl rfl (vs:=[.slice (some ⟨b,0,none⟩) s.length c]) (Evs.of rfl) (ju hS (Or.inr ⟨_,_,rfl⟩) (fun b2 off e=>by cases e;exact hlt) (by omega) hc) (fun w3 hk3=>?_)
 refine SG.val rfl rfl rfl rfl (ar rfl (fun W=>Jr W (ofI s))) ?_
 refine SG.aB (l:=bkc (bB s)) rfl rfl (ag rfl) (ag rfl) ((hB2.kp0 hk2).kp0 hk3) (aD _) rfl (dD _) (fun w4 hk4 hB4=>?_)
 have r4:Row w4 b2 0 (bkc (bB s)):=Row.all hB4 rfl
 repeat apply gst
 refine aN (Or.inl rfl) Tryz.results76 (aw.agg rfl rfl r4 (aD _)) ?_
 exact⟨rfl,((hk1.trans hk2).trans hk3).ai hk4 (aV hb2)⟩
end
section
structure Tl where
 n:Nat
 log:Dg
def tlc(t:Tl):List Value:= .int .i64 (t.n:Int)::dc t.log
abbrev j9(w:World)(b:Nat)(t:Tl):Prop:=Blk w b (.cells (tlc t).toArray 76)
def vW:Dg:=⟨[200,0,0,0,0,0,0,0],rfl⟩
theorem Cp(w:World):(Instr.build 47 #[(0,.int .u8 200)]).run Tryz.prog w= .ok (dv vW) w:=by kernel_rfl
theorem nM{w:World}{b:Nat}{t:Tl}(h:j9 w b t):Row w b 0 [.int .i64 (t.n:Int)]∧Row w b 1 (dc t.log):=⟨Row.of h [] (dc t.log) rfl rfl,Row.of h [.int .i64 (t.n:Int)] [] (by simp[tlc]) rfl⟩
theorem Jj(w:World)(n:Int)(b0 b1 b2 b3 b4 b5 b6 b7:UInt8):(Instr.build 76 #[(0,.int .i64 n),(1,.agg #[bv b0,bv b1,bv b2,bv b3,bv b4,bv b5,bv b6,bv b7])]).run Tryz.prog w= .ok (.agg #[.int .i64 n,bv b0,bv b1,bv b2,bv b3,bv b4,bv b5,bv b6,bv b7]) w:=by kernel_rfl
theorem btl(w:World)(t:Tl):(Instr.build 76 #[(0,.int .i64 (t.n:Int)),(1,dv t.log)]).run Tryz.prog w= .ok (.agg (tlc t).toArray) w:=by
 obtain⟨n,⟨lb,hb⟩⟩:=t
 match lb,hb with
 |[b0,b1,b2,b3,b4,b5,b6,b7],_=>exact Jj w n b0 b1 b2 b3 b4 b5 b6 b7
attribute [local irreducible] CG NG SG aJ Der Row Blk av aA num bV bR bI bu orJ cA aL cz ofI cM bh c9 aK rgt kL
theorem sZ(w:World):Ret Tryz.prog 171 #[] w (dv vW):=by
 refine tH Tryz.func171 rfl Tryz.ntmps171 ?_
 repeat apply gst
 refine SG.alloc rfl rfl rfl (fun b2 w1 hk1 hb2 hB2=>?_)
 repeat apply gst
 refine SG.val rfl rfl rfl rfl (ar rfl Cp) ?_
 refine SG.aB (old:=dc zd) (l:=dc vW) rfl rfl (ag rfl) (ag rfl) hB2 (ah _) (ah _) (aO _) (fun w2 hk2 hB=>?_)
 have r:Row w2 b2 0 (dc vW):=Row.all hB rfl
 repeat apply gst
 refine aN (Or.inl rfl) Tryz.results171 (by exact aw.agg rfl rfl (by assumption) (by first|exact ah _|exact nc_length _|exact rc_length _ _ _|exact ay _|exact dl_length _ _ _ _|exact az _|exact aE _|exact aH _|exact aj _|rfl)) ?_
 exact⟨rfl,hk1.ai hk2 (aV hb2)⟩
theorem eH{w:World}{b:Nat}{t:Tl}(hT:j9 w b t):Calls Tryz.prog 250 #[.pointer (some ⟨b,0,none⟩)] w (fun e w'=>∃b',e= .returned (.iface 74 (.pointer (some ⟨b',0,none⟩)))∧w.heap.size≤b'∧j9 w' b' t∧Kp [] w w'):=by
 refine aM Tryz.func250 rfl Tryz.ntmps250 rfl ?_
 obtain⟨r0,r1⟩:=nM hT
 repeat (first|apply gst|(apply gsv;rfl;apply qas<;>rfl))
 refine CG.tail mixed 8 [0,1,2,3,4,5,6,7] (by kernel_rfl) ?_
 repeat (apply gdv;rfl;rfl;(first|apply qmv|apply qlc|apply qla|apply qfa|apply qnc)<;>first|rfl|assumption|exact List.not_mem_nil|apply ah)
 refine Der.tl (fun w1 hk1 _ _=>?_)
 refine SG.val rfl rfl rfl rfl (ar rfl (fun W=>btl W t)) ?_
 refine SG.box rfl rfl rfl (ag rfl) (fun b' w2 hk2 hb' hB=>?_)
 refine SG.val rfl rfl rfl rfl (o0 (hu:=ty.u74) rfl rfl) ?_
 repeat (first|apply gst|(apply gsv;rfl;apply qas<;>rfl))
 refine aN (Or.inl rfl) Tryz.results250 (aw.tmp rfl) ?_
 exact⟨b',rfl,Nat.le_trans hk1.size hb',hB,hk1.trans hk2⟩
end
section
theorem Jn(w:World)(a0 a1 a2 a3 a4 a5 a6 a7 b0 b1 b2 b3 b4 b5 b6 b7 c0 c1 c2 c3 c4 c5 c6 c7 d0 d1 d2 d3 d4 d5 d6 d7 e0 e1 e2 e3 e4 e5 e6 e7:UInt8):(Instr.buildSlice 93 5 #[(0,.agg #[bv a0,bv a1,bv a2,bv a3,bv a4,bv a5,bv a6,bv a7]),(1,.agg #[bv b0,bv b1,bv b2,bv b3,bv b4,bv b5,bv b6,bv b7]),(2,.agg #[bv c0,bv c1,bv c2,bv c3,bv c4,bv c5,bv c6,bv c7]),(3,.agg #[bv d0,bv d1,bv d2,bv d3,bv d4,bv d5,bv d6,bv d7]),(4,.agg #[bv e0,bv e1,bv e2,bv e3,bv e4,bv e5,bv e6,bv e7])]).run Tryz.prog w= .ok (.slice (some ⟨w.heap.size,0,none⟩) 5 5) {w with heap:=w.heap.push (.cells #[bv a0,bv a1,bv a2,bv a3,bv a4,bv a5,bv a6,bv a7,bv b0,bv b1,bv b2,bv b3,bv b4,bv b5,bv b6,bv b7,bv c0,bv c1,bv c2,bv c3,bv c4,bv c5,bv c6,bv c7,bv d0,bv d1,bv d2,bv d3,bv d4,bv d5,bv d6,bv d7,bv e0,bv e1,bv e2,bv e3,bv e4,bv e5,bv e6,bv e7] 47)}:=by kernel_rfl
theorem bs5(a b c d e:Dg)(w:World):(Instr.buildSlice 93 5 #[(0,dv a),(1,dv b),(2,dv c),(3,dv d),(4,dv e)]).run Tryz.prog w= .ok (.slice (some ⟨w.heap.size,0,none⟩) 5 5) {w with heap:=w.heap.push (.cells (flat [a,b,c,d,e]).toArray 47)}:=by
 obtain⟨a,ha⟩:=a
 obtain⟨b,hb⟩:=b
 obtain⟨c,hc⟩:=c
 obtain⟨d,hd⟩:=d
 obtain⟨e,he⟩:=e
 match a,ha,b,hb,c,hc,d,hd,e,he with
 |[a0,a1,a2,a3,a4,a5,a6,a7],_,[b0,b1,b2,b3,b4,b5,b6,b7],_,[c0,c1,c2,c3,c4,c5,c6,c7],_,[d0,d1,d2,d3,d4,d5,d6,d7],_,[e0,e1,e2,e3,e4,e5,e6,e7],_=>exact Jn w a0 a1 a2 a3 a4 a5 a6 a7 b0 b1 b2 b3 b4 b5 b6 b7 c0 c1 c2 c3 c4 c5 c6 c7 d0 d1 d2 d3 d4 d5 d6 d7 e0 e1 e2 e3 e4 e5 e6 e7
def tdZ(m:Bk)(f:Dg)(l:List UInt8):Int:=match l with
 |[]=>3
 |u::_=>if mvE m f (u.toNat:Int)≠0 then mvE m f (u.toNat:Int) else if u=13 then 10 else 0
def tdT(t:Tl)(h:Int)(f:Dg)(k:Int)(l:List UInt8):Tl:=match l with
 |[]=>t
 |_=>⟨t.n+1,qx [t.log,f,frm (c8 h),frm (c8 k),ofI l]⟩
def tdM(m:Bk)(f:Dg)(l:List UInt8):Bk:=match l with
 |[]=>m
 |u::_=>mvM m f vW (u.toNat:Int)
theorem yc{κ ν:Type}{enc:κ→Value}{V:ν→Value}{m:List (κ×ν)}{w:World}{b pm off:Nat}{l:List Value}(hr:Row w b off l)(hm:av w pm enc V m):b≠pm:=fun e=>by
 subst e
 obtain⟨cs,T,f,h1,-⟩:=hr
 obtain⟨es,c,h2,-⟩:=hm
 have:=Blk.uniq h2 h1
 cases this
attribute [local irreducible] CG NG SG aJ Der Row Blk av aA num bV bR bI bu orJ cA aL cz ofI cM bh c9 aK rgt kL qx frm mvE mvM
theorem rG{w:World}{b bt bm:Nat}{t:Tl}{m:Bk}(hT:j9 w b t)(hB:bf w bt bm m)(hg:Good m)(ht:t.n≤1000000){a:Option Addr}{c:Nat}{l:List UInt8}(hS:Bs w a c l)(hl:l.length≤10000000)(hne:∀z off,a=some ⟨z,off,none⟩→z≠b)(h k:Int)(f:Dg):
  Calls Tryz.prog 138 #[.pointer (some ⟨b,0,none⟩),.int .i64 h,dv f,.int .i64 k,.slice a l.length c,.pointer (some ⟨bt,0,none⟩)] w (fun e w'=>e= .returned (.int .i64 (tdZ m f l))∧j9 w' b (tdT t h f k l)∧bf w' bt bm (tdM m f l)∧Kp [b,bm] w w'):=by
 refine eA (args:=[.pointer (some ⟨b,0,none⟩),.int .i64 h,dv f,.int .i64 k,.slice a l.length c,.pointer (some ⟨bt,0,none⟩)]) Tryz.func138 rfl Tryz.ntmps138 rfl ?_
 have lb:=hT.lt
 have lt:=hB.blk.lt
 have lm:=hB.map.lt
 repeat apply gst
 refine SG.box rfl rfl rfl (ag rfl) (fun b8 w1 hk1 hb8 hB8=>?_)
 have r8:Row w1 b8 0 (dc f):=Row.all hB8 rfl
 have l8:=hB8.lt
 cases l with
 |nil=>
  have h0:(([]:List UInt8).length:Int)=0:=rfl
  repeat (first|apply gst|(apply gsv;rfl;(first|apply qmv|apply qas|apply qei|apply qln)<;>first|rfl|(apply dct;first|assumption|omega)))
  refine gct rfl ?_
  repeat (first|apply gst|(apply gsv;rfl;apply qas<;>rfl))
  refine aN (Or.inl rfl) Tryz.results138 (aw.tmp rfl) ?_
  exact⟨rfl,hT.kp0 hk1,⟨hB.blk.kp0 hk1,hB.map.kp0 hk1⟩,hk1.any⟩
 |cons u l=>
  have h0:¬((u::l).length:Int)=0:=by simp only[List.length_cons];omega
  repeat (first|apply gst|(apply gsv;rfl;(first|apply qmv|apply qas|apply qei|apply qln)<;>first|rfl|(apply dcf;first|assumption|omega)))
  refine gcf rfl ?_
  obtain⟨r0,-⟩:=nM (hT.kp0 hk1)
  repeat (first|apply gst|(apply gsv;rfl;(first|apply qmv|apply qlc|apply qfa|apply qnc|apply qad)<;>first|rfl|(apply Ar.mk;omega)|assumption|exact List.not_mem_nil))
  refine SG.bH [] [.int .i64 (t.n:Int)] (dc t.log) rfl rfl (ag rfl) (ag rfl) (hT.kp0 hk1) rfl rfl rfl rfl rfl (fun w2 hk2 hT2=>?_)
  clear r0
  have hT2:j9 w2 b ⟨t.n+1,t.log⟩:=hT2
  obtain⟨-,r1⟩:=nM hT2
  have r8:=r8.kp hk2 (nm1 (by omega))
  have hS2:=(hS.kp0 hk1).kp hk2 (fun z off e=>nm1 (hne z off e))
  have nbt:bt≠b:=fun e=>by
   subst e
   have:=Blk.uniq hT hB.blk
   simp only[Obj.cells.injEq] at this
   exact absurd this.2.1 (by decide)
  have nbm:bm≠b:=cE hT hB.map
  have hB2:bf w2 bt bm m:=⟨(hB.blk.kp0 hk1).kp hk2 (nm1 nbt),(hB.map.kp0 hk1).kp hk2 (nm1 nbm)⟩
  have s1:=hk1.size
  have s2:=hk2.size
  repeat apply gst
  refine CG.dH mixed 16 [0,1,2,3,4,5,6,7,8,9,10,11,12,13,14,15] [14] [] (fun _=>True) (by kernel_rfl) trivial (fun _ _ _ _=>trivial) ?_
  repeat (apply gdv;rfl;rfl;(first|apply qmv|apply qla|apply qfa|apply qnc|apply qcv)<;>first|rfl|assumption|exact List.not_mem_nil|apply ah)
  rw[fv]
  refine Der.call rfl rfl rfl (vs:=[.int .u64 (c8 h:Int)]) (Evs.of rfl) (fun W _ _=>gv (c8 h) W) ?_
  repeat (apply gdv;rfl;rfl;(first|apply qmv|apply qcv)<;>rfl)
  rw[fv]
  refine Der.call rfl rfl rfl (vs:=[.int .u64 (c8 k:Int)]) (Evs.of rfl) (fun W _ _=>gv (c8 k) W) ?_
  repeat (apply gdv;rfl;rfl;apply qmv<;>rfl)
  refine Der.call rfl rfl rfl (vs:=[.slice a (u::l).length c]) (Evs.of rfl) (fun W hk _=>ju (hS2.kp0 hk).sl (hS2.some.elim Or.inl (fun h=>h.elim Or.inr (fun h=>absurd h.1 (by simp)))) (fun z off e=>(hS2.kp0 hk).lt (by simp) z off e) (by omega) hS2.len) ?_
  refine Der.nk (cs:=(flat [t.log,f,frm (c8 h),frm (c8 k),ofI (u::l)]).toArray) (E:=47) rfl rfl rfl rfl rfl (fun W=>bs5 _ _ _ _ _ W) (by simp) (fun _ _ _ _=>trivial) (fun _ _ _ _=>trivial) (fun bn=>?_)
  refine Der.call rfl rfl rfl (vs:=[.slice (some ⟨bn,0,none⟩) 5 5]) (Evs.of rfl) (fun W hk hF=>sP (l:=[t.log,f,frm (c8 h),frm (c8 k),ofI (u::l)]) 5 (Sl.eL (pre:=[]) (post:=[]) (T:=47) ah (by rw[List.append_nil,List.nil_append];exact hF.2.2)) (fun z off e=>by cases e;exact hF.2.2.lt) (by simp)) ?_
  refine Der.tl (fun w3 hk3 _ _=>?_)
  clear r1
  repeat (apply gsv;rfl;(first|apply qfa|apply qnc)<;>rfl)
  refine SG.bH [.int .i64 ((t.n+1:Nat):Int)] (dc t.log) [] rfl rfl (ag rfl) (ag rfl) (hT2.kp0 hk3) (by simp[tlc]) (by exact ah _) (ah _) rfl (by exact aO _) (fun w4 hk4 hT4=>?_)
  obtain⟨t',ht'⟩:∃t',tdT t h f k (u::l)=t':=⟨_,rfl⟩
  have hT4:j9 w4 b t':=by
   rw[←ht']
   have e:tlc (tdT t h f k (u::l))=[.int .i64 ((t.n+1:Nat):Int)]++(dc (qx [t.log,f,frm (c8 h),frm (c8 k),ofI (u::l)])++[]):=by simp[tlc,tdT]
   show Blk _ _ _
   rw[e]
   exact hT4
  rw[ht']
  have s3:=hk3.size
  have hB4:bf w4 bt bm m:=⟨(hB2.blk.kp0 hk3).kp hk4 (nm1 nbt),(hB2.map.kp0 hk3).kp hk4 (nm1 nbm)⟩
  have r8:=(r8.kp0 hk3).kp hk4 (nm1 (by omega))
  have hS4:=(hS2.kp0 hk3).kp hk4 (fun z off e=>nm1 (hne z off e))
  have k4:Kp [b] w w4:=((hk1.any.trans hk2).trans hk3.any).trans hk4
  obtain⟨za,off,ea,ru⟩:=hS4.sl.at (i:=0) (by simp)
  have ru:Row w4 za off [bv u]:=by simpa using ru
  cases ea
  have hu:=u.toNat_lt
  repeat apply gst
  refine CG.tail mixed 7 [0,1,2,3,4,5,6] (by kernel_rfl) ?_
  repeat (apply gdv;rfl;rfl;(first|apply qmv|apply qla)<;>first|rfl|assumption|exact List.not_mem_nil|apply ah)
  refine Der.call rfl rfl rfl (vs:=[]) True.intro (fun W _ _=>sZ W) ?_
  repeat (apply gdv;rfl;rfl;(first|apply qb3|apply qmv|apply qlc|apply qic)<;>first|rfl|(apply Ar.mk;omega)|assumption|exact List.not_mem_nil)
  refine Der.tl (fun w5 hk5 _ _=>?_)
  refine SG.call rfl rfl rfl (vs:=[.pointer (some ⟨bt,0,none⟩),dv f,dv vW,.int .i64 (u.toNat:Int)]) (Evs.of rfl) ((iq ⟨hB4.blk.kp0 hk5,hB4.map.kp0 hk5⟩ hg f vW (u.toNat:Int)).mono (fun e w6 hh=>?_))
  obtain⟨he,hB6,hk6⟩:=hh
  refine⟨_,he,?_⟩
  have ru:=(ru.kp0 hk5).kp hk6 (nm1 (yc ru hB4.map))
  have hT6:j9 w6 b t':=(hT4.kp0 hk5).kp hk6 (nm1 (fun e=>nbm e.symm))
  have k6:Kp [b,bm] w w6:=((k4.trans hk5.any).mono (fun z hz=>by rw[List.mem_singleton] at hz;rw[hz];exact List.mem_cons_self)).trans (hk6.mono (fun z hz=>List.mem_cons_of_mem _ hz))
  clear r8 he
  have eM:tdM m f (u::l)=mvM m f vW (u.toNat:Int):=rfl
  rw[eM]
  by_cases h1:mvE m f (u.toNat:Int)=0
  rotate_left
  ·have eZ:tdZ m f (u::l)=mvE m f (u.toNat:Int):=if_pos h1
   rw[eZ]
   generalize mvE m f (u.toNat:Int)=z at h1⊢
   repeat (first|apply gst|(apply gsv;rfl;(first|apply qmv|apply qas|apply qni)<;>first|rfl|(apply dcf;first|assumption|omega)))
   refine gct rfl ?_
   repeat (first|apply gst|(apply gsv;rfl;(first|apply qmv|apply qas)<;>rfl))
   refine aN (Or.inl rfl) Tryz.results138 (aw.tmp rfl) ?_
   exact⟨rfl,hT6,hB6,k6⟩
  have eZ:tdZ m f (u::l)=if u=13 then 10 else 0:=if_neg (fun h=>h h1)
  rw[eZ,h1]
  have h00:(0:Int)=0:=rfl
  repeat (first|apply gst|(apply gsv;rfl;(first|apply qmv|apply qas|apply qni)<;>first|rfl|(apply dct;first|assumption|omega)))
  refine gcf rfl ?_
  by_cases h13:u=13
  ·subst h13
   have e13:((13:UInt8).toNat:Int)=13:=rfl
   rw[if_pos rfl]
   repeat (first|apply gst|(apply gsv;rfl;(first|apply qmv|apply qlc|apply qic|apply qei)<;>first|rfl|(apply Ar.mk;omega)|assumption|(apply dct;first|assumption|omega)|exact List.not_mem_nil))
   refine gct rfl ?_
   repeat (first|apply gst|(apply gsv;rfl;apply qas<;>rfl))
   refine aN (Or.inl rfl) Tryz.results138 (aw.tmp rfl) ?_
   exact⟨rfl,hT6,hB6,k6⟩
  ·have e13:¬(u.toNat:Int)=13:=fun e=>h13 (by
    apply UInt8.toNat.inj
    show u.toNat=13
    omega)
   rw[if_neg h13]
   repeat (first|apply gst|(apply gsv;rfl;(first|apply qmv|apply qlc|apply qic|apply qei)<;>first|rfl|(apply Ar.mk;omega)|assumption|(apply dcf;first|assumption|omega)|exact List.not_mem_nil))
   refine gcf rfl ?_
   repeat (first|apply gst|(apply gsv;rfl;apply qas<;>rfl))
   refine aN (Or.inl rfl) Tryz.results138 (aw.tmp rfl) ?_
   exact⟨rfl,hT6,hB6,k6⟩
end
section
def bhc(bk tb:Nat)(a:Value):List Value:=[.pointer (some ⟨bk,0,none⟩),.iface 74 (.pointer (some ⟨tb,0,none⟩)),a]
def bhv(bk tb:Nat)(a:Value):Value:= .agg (bhc bk tb a).toArray
def bhp(bk tb:Nat)(a:Value)(ps:List Value):List Value:= .pointer (some ⟨bk,0,none⟩):: .iface 74 (.pointer (some ⟨tb,0,none⟩))::a::ps
theorem dA{w:World}{b bk tb:Nat}{a:Value}{ps:List Value}{T:TypeId}(h:Blk w b (.cells (bhp bk tb a ps).toArray T)):Row w b 0 [.pointer (some ⟨bk,0,none⟩)]∧Row w b 1 [.iface 74 (.pointer (some ⟨tb,0,none⟩))]∧Row w b 2 [a]:=
 ⟨Row.of h [] (.iface 74 (.pointer (some ⟨tb,0,none⟩))::a::ps) rfl rfl,Row.of h [.pointer (some ⟨bk,0,none⟩)] (a::ps) rfl rfl,Row.of h [.pointer (some ⟨bk,0,none⟩),.iface 74 (.pointer (some ⟨tb,0,none⟩))] ps rfl rfl⟩
theorem bbh(bk tb:Nat)(w:World):(Instr.build 116 #[(0,.pointer (some ⟨bk,0,none⟩)),(1,.iface 74 (.pointer (some ⟨tb,0,none⟩)))]).run Tryz.prog w= .ok (bhv bk tb (.slice none 0 0)) w:=by kernel_rfl
theorem tZ{w:World}{b bk tb:Nat}{a:Value}(h:Blk w b (.cells (bhc bk tb a).toArray 116)):Row w b 0 [.pointer (some ⟨bk,0,none⟩)]∧Row w b 1 [.iface 74 (.pointer (some ⟨tb,0,none⟩))]∧Row w b 2 [a]:=
 ⟨Row.of h [] [.iface 74 (.pointer (some ⟨tb,0,none⟩)),a] rfl rfl,Row.of h [.pointer (some ⟨bk,0,none⟩)] [a] rfl rfl,Row.of h [.pointer (some ⟨bk,0,none⟩),.iface 74 (.pointer (some ⟨tb,0,none⟩))] [] rfl rfl⟩
attribute [local irreducible] CG NG SG aJ Der Row Blk av aA
theorem mJ{w:World}{bk bm tb:Nat}{m:Bk}{t:Tl}{v:Value}(hB:bf w bk bm m)(hT:j9 w tb t):
  Calls Tryz.prog 71 #[bhv bk tb v] w (fun e w'=>∃bk' bm' tb' m',e= .returned (bhv bk' tb' (.slice none 0 0))∧bf w' bk' bm' m'∧m'.Perm m∧j9 w' tb' t∧w.heap.size≤bk'∧w.heap.size≤bm'∧w.heap.size≤tb'∧Kp [] w w'):=by
 refine aM Tryz.func71 rfl Tryz.ntmps71 rfl ?_
 repeat apply gst
 refine SG.box rfl rfl rfl (ag rfl) (fun b1 w1 hk1 hb1 hB1=>?_)
 have hB1:Blk w1 b1 (.cells (bhc bk tb v).toArray 116):=hB1
 refine SG.alloc rfl rfl rfl (fun b2 w2 hk2 hb2 hB2=>?_)
 have k2:=hk1.trans hk2
 have s1:=hk1.size
 have s2:=hk2.size
 obtain⟨r0,r1,-⟩:=tZ (hB1.kp0 hk2)
 repeat apply gst
 refine CG.dH mixed 5 [0,1,3,4,2] [2] [] (fun _=>True) (by kernel_rfl) trivial (fun _ _ _ _=>trivial) ?_
 repeat (apply gdv;rfl;rfl;(first|apply qlc|apply qfa)<;>first|rfl|assumption|exact List.not_mem_nil)
 refine Der.lN (X:=Nat×Nat×{m':Bk//m'.Perm m}) (vs:=[.pointer (some ⟨bk,0,none⟩)]) (fun q=> .pointer (some ⟨q.1,0,none⟩)) (fun q W=>bf W q.1 q.2.1 q.2.2.1∧w2.heap.size≤q.1∧w2.heap.size≤q.2.1) rfl rfl rfl rfl (Evs.of rfl) (fun q W W' hk h=>⟨h.1.kp0 hk,h.2⟩) (fun _ _ _ h=>h) (fun W hk _=>(eQ ((hB.kp0 k2).kp0 hk)).mono (fun e W' hh=>?_)) (fun q=>?_)
 ·obtain⟨bt',bm',m',he,hB',hp,g1,g2,hk'⟩:=hh
  exact⟨(bt',bm',⟨m',hp⟩),he,⟨hB',Nat.le_trans hk.size g1,Nat.le_trans hk.size g2⟩,hk'⟩
 refine Der.tl (fun w3 hk3 hF _=>?_)
 obtain⟨-,hB3,g1,g2⟩:=hF
 have k3:=k2.trans hk3
 refine SG.y9 (t:=74) (v:= .pointer (some ⟨tb,0,none⟩)) rfl rfl rfl (vs:=[]) (ag rfl) True.intro ((eH (hT.kp0 k3)).mono (fun e w4 hh=>?_))
 obtain⟨tb',he,htb',hT4,hk4⟩:=hh
 refine⟨_,he,?_⟩
 have s3:=hk3.size
 refine SG.val rfl rfl rfl rfl (ar rfl (bbh q.1 tb')) ?_
 refine SG.aB (l:=bhc q.1 tb' (.slice none 0 0)) rfl rfl (ag rfl) (ag rfl) ((hB2.kp0 hk3).kp0 hk4) rfl rfl rfl (fun w5 hk5 hB5=>?_)
 have r5:Row w5 b2 0 (bhc q.1 tb' (.slice none 0 0)):=Row.all hB5 rfl
 have l2:=hB2.lt
 clear r0 r1
 repeat apply gst
 refine aN (Or.inl rfl) Tryz.results71 (aw.agg rfl rfl r5 rfl) ?_
 have n:∀{z:Nat},w2.heap.size≤z→z∉[b2]:=fun h=>nm1 (by omega)
 exact⟨q.1,q.2.1,tb',q.2.2.1,rfl,⟨(hB3.blk.kp0 hk4).kp hk5 (n g1),(hB3.map.kp0 hk4).kp hk5 (n g2)⟩,q.2.2.2,hT4.kp hk5 (n (by omega)),by omega,by omega,by omega,(k3.trans hk4).ai hk5 (aV (by omega))⟩
end
section
def zj(m:Bk)(t:Tx):Bool:=decide ((bal m t.frm).nonce=t.non)&&decide (t.fee≤(bal m t.frm).money)
attribute [local irreducible] CG NG SG aJ Der Row Blk av aA
theorem qX{w:World}{bs bk bm tb:Nat}{m:Bk}{v:Value}(hs:Blk w bs (.cells (bhc bk tb v).toArray 116))(hB:bf w bk bm m)(x:Tm):
  Ret Tryz.prog 81 #[.pointer (some ⟨bs,0,none⟩),txv x] w (.bool (zj m x.t)):=by
 refine aT Tryz.func81 rfl Tryz.ntmps81 rfl ?_
 repeat apply gst
 refine SG.box rfl rfl rfl (ag rfl) (fun b3 w1 hk1 hb3 hB3=>?_)
 have hB3:Blk w1 b3 (.cells (txc x).toArray 52):=hB3
 obtain⟨-,q0,q1,q2,-⟩:=aG hB3
 obtain⟨r0,-⟩:=tZ (hs.kp0 hk1)
 repeat (first|apply gst|(apply gsv;rfl;apply qas<;>rfl))
 refine CG.iK mixed [0,1,2,3,4,5,6] [(7,8,5,.tmp 12)] (by kernel_rfl) (by kernel_rfl) ?_
 repeat (apply gdv;rfl;rfl;(first|apply qmv|apply qlc|apply qla|apply qfa|apply qnc)<;>first|rfl|assumption|exact List.not_mem_nil|apply ah)
 refine Der.call rfl rfl rfl (vs:=[.pointer (some ⟨bk,0,none⟩),dv x.t.frm]) (Evs.of rfl) (fun W hk _=>iY ((hB.kp0 hk1).kp0 hk) x.t.frm) ?_
 refine Der.one (iN.of (by rfl) rfl rfl rfl (ag rfl) (by exact az _) (by rfl) (by exact iw _)) (fun b5 w2 hk2 hb5 hB5=>?_)
 have hB5:Blk w2 b5 (.cells (acl (rf x.t.frm (bal m x.t.frm))).toArray 59):=hB5
 have e0:acl (rf x.t.frm (bal m x.t.frm))=dc x.t.frm++[.int .i64 (bal m x.t.frm).money,.int .i64 (bal m x.t.frm).nonce]:=rfl
 have p1:Row w2 b5 8 [.int .i64 (bal m x.t.frm).money]:=Row.of hB5 (dc x.t.frm) [.int .i64 (bal m x.t.frm).nonce] (by simp[e0]) (ah _)
 have p2:Row w2 b5 9 [.int .i64 (bal m x.t.frm).nonce]:=Row.of hB5 (dc x.t.frm++[.int .i64 (bal m x.t.frm).money]) [] (by simp[e0]) (by simp[ah])
 have q1:=q1.kp0 hk2
 have q2:=q2.kp0 hk2
 have k2:=hk1.trans hk2
 clear q0 r0
 unfold zj
 by_cases h1:(bal m x.t.frm).nonce=x.t.non
 rotate_left
 ·rw[decide_eq_false h1]
  repeat (first|apply gst|(apply gsv;rfl;(first|apply qmv|apply qas|apply qlc|apply qfa|apply qpk|apply qei)<;>first|rfl|assumption|(apply dcf;first|assumption|omega)|exact List.not_mem_nil)|refine SG.skip rfl rfl ?_)
  refine aN (Or.inl rfl) Tryz.results81 (aw.tmp rfl) ?_
  exact⟨rfl,k2⟩
 rw[decide_eq_true h1]
 by_cases h2:x.t.fee≤(bal m x.t.frm).money
 ·rw[decide_eq_true h2]
  repeat (first|apply gst|(apply gsv;rfl;(first|apply qmv|apply qas|apply qlc|apply qfa|apply qpk|apply qei|apply qge)<;>first|rfl|assumption|(apply dct;first|assumption|omega)|exact List.not_mem_nil))
  refine aN (Or.inl rfl) Tryz.results81 (aw.tmp rfl) ?_
  exact⟨rfl,k2⟩
 ·rw[decide_eq_false h2]
  repeat (first|apply gst|(apply gsv;rfl;(first|apply qmv|apply qas|apply qlc|apply qfa|apply qpk|apply qei|apply qge)<;>first|rfl|assumption|(apply dct;first|assumption|omega)|(apply dcf;first|assumption|omega)|exact List.not_mem_nil))
  refine aN (Or.inl rfl) Tryz.results81 (aw.tmp rfl) ?_
  exact⟨rfl,k2⟩
end
section
def wO(m:Bk)(h:Int)(t:Tx):Int:=if t.kind=0 then(if cT t.body≠0 then cT t.body else mvE m t.frm (hZ t.body)) else tdZ m t.frm t.body
def qY(m:Bk)(h:Int)(t:Tx):Bk:=if t.kind=0 then(if cT t.body≠0 then m else mvM m t.frm (iI t.body) (hZ t.body)) else if tdZ m t.frm t.body=0 then tdM m t.frm t.body else m
def lP(a:Tl)(m:Bk)(h:Int)(t:Tx):Tl:=if t.kind=0 then a else if tdZ m t.frm t.body=0 then tdT a h t.frm t.kind t.body else a
def Ir(m:Bk)(mk:Dg)(t:Tx):Bk:=mvM (usM m t.frm t.non) t.frm mk t.fee
def JI(m:Bk)(t:Tx):Int:=if usE m t.frm t.non≠0 then usE m t.frm t.non else mvE (usM m t.frm t.non) t.frm t.fee
end
section
structure fS(w:World)(T:TypeId)(ps:List Value)(bs bk bm tb:Nat)(m:Bk)(t:Tl)(v:Value):Prop where
 blk:Blk w bs (.cells (bhp bk tb v ps).toArray T)
 book:bf w bk bm m
 app:j9 w tb t
theorem fS.kp0{w w':World}{bs bk bm tb:Nat}{m:Bk}{t:Tl}{v:Value}{T:TypeId}{ps:List Value}(h:fS w T ps bs bk bm tb m t v)(hk:Kp [] w w'):fS w' T ps bs bk bm tb m t v:=⟨h.blk.kp0 hk,h.book.kp0 hk,h.app.kp0 hk⟩
theorem fS.ze{w w':World}{bs bk bm tb:Nat}{m m':Bk}{t:Tl}{v:Value}{T:TypeId}{ps:List Value}(h:fS w T ps bs bk bm tb m t v)(hk:Kp [bm] w w')(hB:bf w' bk bm m'):fS w' T ps bs bk bm tb m' t v:=⟨h.blk.kp hk (nm1 (fun e=>cE h.blk h.book.map e.symm)),hB,h.app.kp hk (nm1 (fun e=>cE h.app h.book.map e.symm))⟩
def CF(w:World)(T:TypeId)(ps:List Value)(bs bk bm tb:Nat)(m:Bk)(t:Tl)(v:Value)(h:Int)(x:Tx)(e:Ending)(w':World):Prop:=
 ∃bk' bm' tb' m1,m1.Perm m∧e= .returned (.int .i64 (wO m1 h x))∧fS w' T ps bs bk' bm' tb' (qY m1 h x) (lP t m1 h x) v∧Kp [bs,bm] w w'∧(bk'=bk∧bm'=bm∧tb'=tb∨w.heap.size≤bk'∧w.heap.size≤bm'∧w.heap.size≤tb')
attribute [local irreducible] CG NG SG aJ Der Row Blk av aA cT iI hZ mvE mvM
theorem oK{w:World}{n0 bs bk bm tb:Nat}{m:Bk}{t:Tl}{v:Value}{T:TypeId}{ps:List Value}(hs:fS w T ps bs bk bm tb m t v)(hg:Good m){x:Tm}(hx:x.In n0 w)(h:Int)(hk0:x.t.kind=0):
  Calls Tryz.prog 121 #[.pointer (some ⟨bs,0,none⟩),.int .i64 h,txv x] w (CF w T ps bs bk bm tb m t v h x.t):=by
 refine dq Tryz.func121 rfl Tryz.ntmps121 rfl ?_
 have eZ:wO m h x.t=if cT x.t.body≠0 then cT x.t.body else mvE m x.t.frm (hZ x.t.body):=by unfold wO;rw[if_pos hk0]
 have eM:qY m h x.t=if cT x.t.body≠0 then m else mvM m x.t.frm (iI x.t.body) (hZ x.t.body):=by unfold qY;rw[if_pos hk0]
 have eT:lP t m h x.t=t:=by unfold lP;rw[if_pos hk0]
 repeat apply gst
 refine SG.box rfl rfl rfl (ag rfl) (fun b5 w1 hk1 hb5 hB5=>?_)
 have hB5:Blk w1 b5 (.cells (txc x).toArray 52):=hB5
 obtain⟨-,-,-,-,r3,-⟩:=aG hB5
 rw[hk0] at r3
 have h00:(0:Int)=0:=rfl
 repeat (first|apply gst|(apply gsv;rfl;(first|apply qas|apply qlc|apply qfa|apply qei)<;>first|rfl|assumption|(apply dct;first|assumption|omega)|exact List.not_mem_nil))
 refine gct rfl ?_
 clear r3
 obtain⟨r,-⟩:=aG hB5
 repeat (first|apply gst|(apply gsv;rfl;apply qla<;>first|rfl|assumption|exact List.not_mem_nil|apply aj))
 refine SG.call rfl rfl rfl (vs:=[txv x]) (Evs.of rfl) ((mv (hx.kp0 hk1) hk0).mono (fun e w2 hh=>?_))
 obtain⟨d,n,he,hk2,rfl,rfl⟩:=hh
 refine⟨_,he,?_⟩
 clear he r
 have k2:=hk1.trans hk2
 repeat (apply gsv;rfl;(first|apply qmv|apply qxt)<;>rfl)
 refine SG.alloc rfl rfl rfl (fun b7 w3 hk3 hb7 hB7=>?_)
 refine SG.aB (l:=dc (iI x.t.body)) rfl rfl (ag rfl) (ag rfl) hB7 (ah _) rfl (aO _) (fun w4 hk4 hB4=>?_)
 have k4:=k2.trans (hk3.ai hk4 (aV hb7))
 have q7:Row w4 b7 0 (dc (iI x.t.body)):=Row.all hB4 rfl
 by_cases hz:cT x.t.body=0
 rotate_left
 ·rw[if_pos hz] at eZ eM
  repeat (first|apply gst|(apply gsv;rfl;(first|apply qmv|apply qas|apply qni)<;>first|rfl|(apply dcf;first|assumption|omega)))
  refine gct rfl ?_
  repeat (first|apply gst|(apply gsv;rfl;(first|apply qmv|apply qas)<;>rfl))
  refine aN (Or.inl rfl) Tryz.results121 (aw.tmp rfl) ?_
  exact⟨bk,bm,tb,m,List.Perm.refl _,by rw[eZ],by rw[eM,eT];exact hs.kp0 k4,k4.any,Or.inl ⟨rfl,rfl,rfl⟩⟩
 rw[if_neg (fun h=>h hz)] at eZ eM
 rw[hz]
 have hB5:=(hB5.kp0 hk2).kp0 (hk3.ai hk4 (aV hb7))
 obtain⟨-,q0,-⟩:=aG hB5
 have hs4:=hs.kp0 k4
 obtain⟨r0,-⟩:=dA hs4.blk
 repeat (first|apply gst|(apply gsv;rfl;(first|apply qmv|apply qas|apply qni)<;>first|rfl|(apply dct;first|assumption|omega)))
 refine gcf rfl ?_
 repeat apply gst
 refine CG.tail mixed 8 [0,1,2,3,4,5,6,7] (by kernel_rfl) ?_
 repeat (apply gdv;rfl;rfl;(first|apply qmv|apply qlc|apply qla|apply qfa|apply qnc)<;>first|rfl|assumption|exact List.not_mem_nil|apply ah)
 refine Der.tl (fun w5 hk5 _ _=>?_)
 refine SG.call rfl rfl rfl (vs:=[.pointer (some ⟨bk,0,none⟩),dv x.t.frm,dv (iI x.t.body),.int .i64 (hZ x.t.body)]) (Evs.of rfl) ((iq (hs4.kp0 hk5).book hg x.t.frm (iI x.t.body) (hZ x.t.body)).mono (fun e w6 hh=>?_))
 obtain⟨he,hB6,hk6⟩:=hh
 refine⟨_,he,?_⟩
 clear r0 q0 q7 he
 repeat (first|apply gst|(apply gsv;rfl;apply qas<;>rfl))
 refine aN (Or.inl rfl) Tryz.results121 (aw.tmp rfl) ?_
 exact⟨bk,bm,tb,m,List.Perm.refl _,by rw[eZ],by rw[eM,eT];exact(hs4.kp0 hk5).ze hk6 hB6,(k4.trans hk5).any.trans (hk6.mono (fun z hz=>by rw[List.mem_singleton] at hz;rw[hz];simp)),Or.inl ⟨rfl,rfl,rfl⟩⟩
end
section
theorem xY{m1 m:Bk}(hb:∀k,bal m1 k=bal m k)(f:Dg)(l:List UInt8):tdZ m1 f l=tdZ m f l:=by
 cases l with
 |nil=>rfl
 |cons u l=>
  have e:mvE m1 f (u.toNat:Int)=mvE m f (u.toNat:Int):=by unfold mvE;rw[hb]
  show(if mvE m1 f (u.toNat:Int)≠0 then mvE m1 f (u.toNat:Int) else if u=13 then 10 else 0)=_
  rw[e]
  rfl
attribute [local irreducible] CG NG SG aJ Der Row Blk av aA cT iI hZ mvE mvM tdZ tdM tdT
theorem nq{w:World}{n0 bs bk bm tb:Nat}{m:Bk}{t:Tl}{v:Value}{T:TypeId}{ps:List Value}(hs:fS w T ps bs bk bm tb m t v)(hg:Good m){x:Tm}(hx:x.In n0 w)(h:Int)(hk0:¬x.t.kind=0)(ht:t.n≤1000000):
  Calls Tryz.prog 121 #[.pointer (some ⟨bs,0,none⟩),.int .i64 h,txv x] w (CF w T ps bs bk bm tb m t v h x.t):=by
 refine dq Tryz.func121 rfl Tryz.ntmps121 rfl ?_
 repeat apply gst
 refine SG.box rfl rfl rfl (ag rfl) (fun b5 w1 hk1 hb5 hB5=>?_)
 have hB5:Blk w1 b5 (.cells (txc x).toArray 52):=hB5
 obtain⟨-,-,-,-,r3,-⟩:=aG hB5
 repeat (first|apply gst|(apply gsv;rfl;(first|apply qas|apply qlc|apply qfa|apply qei)<;>first|rfl|assumption|(apply dcf;first|assumption|omega)|exact List.not_mem_nil))
 refine gcf rfl ?_
 clear r3
 obtain⟨r0,r1,-⟩:=dA (hs.kp0 hk1).blk
 repeat apply gst
 refine CG.dH mixed 9 [0,1,2,3,5,6,7,8,4] [4] [] (fun _=>True) (by kernel_rfl) trivial (fun _ _ _ _=>trivial) ?_
 repeat (apply gdv;rfl;rfl;(first|apply qmv|apply qlc|apply qfa|apply qnc)<;>first|rfl|assumption|exact List.not_mem_nil)
 refine Der.tU (t:=74) (v:= .pointer (some ⟨tb,0,none⟩)) (X:=Nat) (vs:=[]) (fun q=> .iface 74 (.pointer (some ⟨q,0,none⟩))) (fun q W=>w1.heap.size≤q∧j9 W q t) (fun _ _=>True) rfl rfl rfl rfl (ag rfl) True.intro (fun q W W' hk h=>⟨h.1,h.2.kp0 hk⟩) (fun _ _ _ _ _=>trivial) (fun _ _ _ h=>h) (fun W hk _ _=>(eH (((hs.kp0 hk1).app).kp0 hk)).mono (fun e W' hh=>?_)) (fun tb'=>?_)
 ·obtain⟨b',he,hb',hT',hk'⟩:=hh
  exact⟨b',he,⟨Nat.le_trans hk.size hb',hT'⟩,trivial,hk'⟩
 refine Der.tl (fun w2 hk2 hF _=>?_)
 obtain⟨-,htb,hT2⟩:=hF
 have k2:=hk1.trans hk2
 refine SG.call rfl rfl rfl (vs:=[.pointer (some ⟨bk,0,none⟩)]) (Evs.of rfl) ((eQ (hs.kp0 k2).book).mono (fun e w3 hh=>?_))
 obtain⟨bk',bm',m1,he,hB3,hp,gk,gm,hk3⟩:=hh
 refine⟨_,he,?_⟩
 clear r0 r1 he
 have k3:=k2.trans hk3
 have hT3:=hT2.kp0 hk3
 have hB5:=(hB5.kp0 hk2).kp0 hk3
 obtain⟨-,q0,-,-,q3,q4,-⟩:=aG hB5
 have hx3:=hx.kp0 k3
 repeat (first|apply gst|(apply gsv;rfl;apply qas<;>rfl))
 refine CG.dH mixed 13 [0,1,2,3,4,5,6,7,9,10,11,12,8] [8] [] (fun _=>True) (by kernel_rfl) trivial (fun _ _ _ _=>trivial) ?_
 repeat (apply gdv;rfl;rfl;(first|apply qim|apply qmv|apply qlc|apply qla|apply qfa)<;>first|rfl|assumption|exact List.not_mem_nil|apply ah)
 refine Der.val rfl rfl rfl (Br (f:=138) rfl inferInstance) ?_
 repeat (apply gdv;rfl;rfl;apply qmv<;>rfl)
 refine Der.lN (X:=Option Addr×Nat) (vs:=[x.b]) (fun q=> .slice q.1 x.t.body.length q.2) (fun q W=>Bs W q.1 q.2 x.t.body∧∀z off,q.1=some ⟨z,off,none⟩→w3.heap.size≤z) rfl rfl rfl rfl (Evs.of rfl) (fun q W W' hk h=>⟨h.1.kp0 hk,h.2⟩) (fun _ _ _ h=>h) (fun W hk _=>(du x.c1 (hx3.kp0 hk).b.sl (by have:=hx.l1;omega)).mono (fun e W' hh=>?_)) (fun q=>?_)
 ·obtain⟨v',he,ho,hk'⟩:=hh
  obtain⟨a',c',rfl,hS⟩:=Bs.own ho
  exact⟨(a',c'),he,⟨hS,fun z off e=>Nat.le_trans hk.size (fG ho z off e)⟩,hk'⟩
 refine Der.tl (fun w4 hk4 hF _=>?_)
 obtain⟨-,hS4,hge⟩:=hF
 have lT3:=hT3.lt
 have hbal:∀k,bal m1 k=bal m k:=fun k=>by
  unfold bal
  rw[kI hp hB3.map.nodup]
 have hg1:Good m1:=fun k=>by rw[hbal];exact hg k
 refine SG.y9 (t:=74) (v:= .pointer (some ⟨tb',0,none⟩)) rfl rfl rfl (vs:=[.int .i64 h,dv x.t.frm,.int .i64 x.t.kind,.slice q.1 x.t.body.length q.2,.pointer (some ⟨bk',0,none⟩)]) (ag rfl) (Evs.of rfl) ((rG (hT3.kp0 hk4) (hB3.kp0 hk4) hg1 ht hS4 hx.l1 (fun z off e=>by have:=hge z off e;omega) h x.t.kind x.t.frm).mono (fun e w5 hh=>?_))
 obtain⟨he,hT5,hB5',hk5⟩:=hh
 refine⟨_,he,?_⟩
 have k4:=k3.trans hk4
 have lbs:=hs.blk.lt
 have lbk:=hs.book.blk.lt
 have lbm:=hs.book.map.lt
 have ltb:=hs.app.lt
 have s1:=hk1.size
 have s2:=k2.size
 have s4:=k4.size
 have n5:∀{z:Nat},z<w.heap.size→z∉[tb',bm']:=fun h=>nm2 (by omega) (by omega)
 have hs5:fS w5 T ps bs bk bm tb m t v:=⟨(hs.blk.kp0 k4).kp hk5 (n5 lbs),⟨(hs.book.blk.kp0 k4).kp hk5 (n5 lbk),(hs.book.map.kp0 k4).kp hk5 (n5 lbm)⟩,(hs.app.kp0 k4).kp hk5 (n5 ltb)⟩
 have k5:Kp [] w w5:=k4.ai hk5 (pd (by omega) (by omega))
 have eZ:wO m1 h x.t=tdZ m1 x.t.frm x.t.body:=by unfold wO;rw[if_neg hk0]
 have eM:qY m1 h x.t=if tdZ m1 x.t.frm x.t.body=0 then tdM m1 x.t.frm x.t.body else m1:=by unfold qY;rw[if_neg hk0]
 clear q0 q3 q4
 by_cases hz:tdZ m1 x.t.frm x.t.body=0
 ·rw[if_pos hz] at eM
  have eT:lP t m1 h x.t=tdT t h x.t.frm x.t.kind x.t.body:=by unfold lP;rw[if_neg hk0,if_pos hz]
  rw[hz]
  have h00:(0:Int)=0:=rfl
  have eM2:qY m1 h x.t=tdM m1 x.t.frm x.t.body:=eM
  repeat (first|apply gst|(apply gsv;rfl;(first|apply qmv|apply qas|apply qei)<;>first|rfl|(apply dct;first|assumption|omega)))
  refine gct rfl ?_
  repeat (first|apply gst|(apply gsv;rfl;(first|apply qmv|apply qfa|apply qnc)<;>rfl))
  refine SG.bH [.pointer (some ⟨bk,0,none⟩)] [.iface 74 (.pointer (some ⟨tb,0,none⟩))] (v::ps) rfl rfl (ag rfl) (ag rfl) hs5.blk rfl rfl rfl rfl rfl (fun w6 hk6 hB6=>?_)
  repeat (apply gsv;rfl;(first|apply qfa|apply qnc)<;>rfl)
  refine SG.bH [] [.pointer (some ⟨bk,0,none⟩)] (.iface 74 (.pointer (some ⟨tb',0,none⟩))::v::ps) rfl rfl (ag rfl) (ag rfl) hB6 rfl rfl rfl rfl rfl (fun w7 hk7 hB7=>?_)
  repeat (first|apply gst|(apply gsv;rfl;(first|apply qmv|apply qas)<;>rfl))
  refine aN (Or.inl rfl) Tryz.results121 (aw.tmp rfl) ?_
  have k67:Kp [bs] w5 w7:=hk6.trans hk7
  have nbs:∀{z:Nat},w.heap.size≤z→z∉[bs]:=fun h=>nm1 (by omega)
  exact⟨bk',bm',tb',m1,hp,by rw[eZ,hz],by rw[eM2,eT];exact⟨hB7,⟨hB5'.blk.kp k67 (nbs (by omega)),hB5'.map.kp k67 (nbs (by omega))⟩,hT5.kp k67 (nbs (by omega))⟩,k5.any.trans (k67.mono (fun z hz=>by rw[List.mem_singleton] at hz;rw[hz];simp)),Or.inr ⟨by omega,by omega,by omega⟩⟩
 ·have eb:=xY hbal x.t.frm x.t.body
  have eZ':wO m h x.t=tdZ m1 x.t.frm x.t.body:=by unfold wO;rw[if_neg hk0,eb]
  have eM':qY m h x.t=m:=by unfold qY;rw[if_neg hk0,if_neg (by rw[←eb];exact hz)]
  have eT':lP t m h x.t=t:=by unfold lP;rw[if_neg hk0,if_neg (by rw[←eb];exact hz)]
  repeat (first|apply gst|(apply gsv;rfl;(first|apply qmv|apply qas|apply qei)<;>first|rfl|(apply dcf;first|assumption|omega)))
  refine gcf rfl ?_
  repeat (first|apply gst|(apply gsv;rfl;(first|apply qmv|apply qas)<;>rfl))
  refine aN (Or.inl rfl) Tryz.results121 (aw.tmp rfl) ?_
  exact⟨bk,bm,tb,m,List.Perm.refl _,by rw[eZ'],by rw[eM',eT'];exact hs5,k5.any,Or.inl ⟨rfl,rfl,rfl⟩⟩
end
section
abbrev SlE(w:World)(a:Option Addr)(l:List Ac):Prop:=Sl acl 10 w a l
theorem Cn(w:World)(a0 a1 a2 a3 a4 a5 a6 a7:UInt8)(x y:Int):(Instr.buildSlice 63 1 #[(0,.agg #[bv a0,bv a1,bv a2,bv a3,bv a4,bv a5,bv a6,bv a7,Value.int .i64 x,Value.int .i64 y])]).run Tryz.prog w= .ok (.slice (some ⟨w.heap.size,0,none⟩) 1 1) {w with heap:=w.heap.push (.cells #[bv a0,bv a1,bv a2,bv a3,bv a4,bv a5,bv a6,bv a7,Value.int .i64 x,Value.int .i64 y] 59)}:=by kernel_rfl
theorem DC(e:Ac)(w:World):(Instr.buildSlice 63 1 #[(0,acv e)]).run Tryz.prog w= .ok (.slice (some ⟨w.heap.size,0,none⟩) 1 1) {w with heap:=w.heap.push (.cells (acl e).toArray 59)}:=by
 obtain⟨⟨l,hl⟩,x,y⟩:=e
 match l,hl with
 |[a0,a1,a2,a3,a4,a5,a6,a7],_=>exact Cn w a0 a1 a2 a3 a4 a5 a6 a7 x y
def rl(e:Ac):Prop:=e.money<0∨1125899906842624<e.money∨e.nonce<0∨1099511627776<e.nonce
instance(e:Ac):Decidable (rl e):=by unfold rl;infer_instance
def ic:List Dg→Int→List Ac→Int
 |_,s,[]=>if 1125899906842624<s then 22 else 0
 |ks,s,e::l=>if rl e then 2 else if e.key∈ks then 7 else ic (e.key::ks) (s+e.money) l
def j7(l:List Ac):Int:=if 1024<l.length then 8 else ic [] 0 l
def kY(m:Bk)(l:List Ac):Bk:=l.foldl (fun m e=>jw m e.key ⟨e.money,e.nonce⟩) m
attribute [local irreducible] CG NG SG aJ Der Row Blk av aA bh
theorem kE{w:World}{a:Option Addr}{l:List Ac}(c:Nat)(h:SlE w a l)(hl:l.length≤100000):Calls Tryz.prog 34 #[.slice a l.length c] w (fun e w'=>Kp [] w w'∧
  ((j7 l≠0∧e= .returned (.tuple #[.pointer none,.int .i64 (j7 l)]))∨(j7 l=0∧∃bt bm,e= .returned (.tuple #[.pointer (some ⟨bt,0,none⟩),.int .i64 0])∧bf w' bt bm (kY [] l)∧w.heap.size≤bt∧w.heap.size≤bm))):=by
 refine aM Tryz.func34 rfl Tryz.ntmps34 rfl ?_
 by_cases h8:(1024:Int)<(l.length:Int)
 ·repeat (first|apply gst|(apply gsv;rfl;(first|apply qmv|apply qas|apply qln|apply qgt)<;>first|rfl|(apply dct;first|assumption|omega)))
  refine gct rfl ?_
  repeat (first|apply gst|(apply gsv;rfl;apply qas<;>rfl))
  refine dC (Or.inl rfl) Tryz.results34 (aw.tmp rfl) (aw.tmp rfl) ?_
  have:j7 l=8:=by unfold j7;rw[if_pos (by omega)]
  exact⟨Kp.refl _ _,Or.inl ⟨by rw[this];decide,by rw[this]⟩⟩
 have hE:j7 l=ic [] 0 l:=by unfold j7;rw[if_neg (by omega)]
 rw[hE]
 repeat (first|apply gst|(apply gsv;rfl;(first|apply qmv|apply qas|apply qln|apply qgt)<;>first|rfl|(apply dcf;first|assumption|omega)))
 refine gcf rfl ?_
 repeat apply gst
 refine SG.makeMap (dv (n:=8)) pnv rfl rfl (fun bm w1 hk1 hbm hm=>?_)
 refine SG.val rfl rfl rfl rfl (ar rfl (fun w=>DF w bm)) ?_
 refine SG.box rfl rfl rfl (ag rfl) (fun bt w2 hk2 hbt hBt=>?_)
 repeat (first|apply gst|(apply gsv;rfl;apply qas<;>rfl))
 refine SG.makeMap (dv (n:=8)) (fun _:Unit=>Value.bool true) rfl rfl (fun bs w3 hk3 hbs hms=>?_)
 repeat (first|apply gst|(apply gsv;rfl;(first|apply qmv|apply qas|apply qln)<;>rfl))
 have hB3:bf w3 bt bm []:=⟨hBt.kp0 hk3,(hm.kp0 hk2).kp0 hk3⟩
 have e1:=hm.lt
 have e2:=hBt.lt
 have e3:=hms.lt
 have s1:=hk1.size
 have s2:=hk2.size
 refine CG.loop (X:=Nat×Int×List Dg×Bk×List (Dg×Unit)) (fun q=>[(2,.pointer none),(3,.int .i64 0),(4,.pointer (some ⟨bt,0,none⟩)),(5,.map (some bs)),(6,.int .i64 q.2.1),(16,.slice a l.length c),(17,.int .i64 l.length),(18,.int .i64 (q.1:Int))])
  (fun q w'=>q.1≤l.length∧Kp [] w w'∧w3.heap.size≤w'.heap.size∧bf w' bt bm q.2.2.2.1∧av w' bs (dv (n:=8)) (fun _:Unit=>Value.bool true) q.2.2.2.2∧(∀k,au q.2.2.2.2 k=none↔k∉q.2.2.1)∧ic q.2.2.1 q.2.1 (l.drop q.1)=ic [] 0 l∧kY q.2.2.2.1 (l.drop q.1)=kY [] l∧0≤q.2.1∧q.2.1≤(q.1:Int)*1125899906842624)
  (fun q=>l.length-q.1) (0,0,[],[],[]) ⟨Nat.zero_le _,(hk1.trans hk2).trans hk3,Nat.le_refl _,hB3,hms,fun k=>by simp[au],rfl,rfl,Int.le_refl _,by simp⟩ (aW.of rfl) ?_
 rintro⟨i,s,ks,m,sn⟩ w4 ⟨hi,hk,hsz,hB,hS,hks,hgo,hpu,hs0,hs1⟩
 simp only at hi hB hS hks hgo hpu hs0 hs1
 refine CG.to [(2,.pointer none),(3,.int .i64 0),(4,.pointer (some ⟨bt,0,none⟩)),(5,.map (some bs)),(6,.int .i64 s),(16,.slice a l.length c),(17,.int .i64 l.length),(18,.int .i64 (i:Int))] (aW.of rfl) ?_
 by_cases hlt:i<l.length
 case neg=>
  have g1:¬(i:Int)<(l.length:Int):=by omega
  have ei:i=l.length:=by omega
  rw[ei,List.drop_length] at hgo hpu
  simp only[ic] at hgo
  repeat (first|apply gst|(apply gsv;rfl;apply qls<;>first|rfl|(apply dcf;first|assumption|omega)))
  refine gcf rfl ?_
  by_cases g2:1125899906842624<s
  ·rw[if_pos g2] at hgo
   repeat (first|apply gst|(apply gsv;rfl;(first|apply qmv|apply qgt)<;>first|rfl|(apply dct;first|assumption|omega)))
   refine gct rfl ?_
   repeat (first|apply gst|(apply gsv;rfl;apply qas<;>rfl))
   refine dC (Or.inl rfl) Tryz.results34 (aw.tmp rfl) (aw.tmp rfl) ?_
   exact⟨hk,Or.inl ⟨by rw[←hgo];decide,by rw[←hgo]⟩⟩
  ·rw[if_neg g2] at hgo
   repeat (first|apply gst|(apply gsv;rfl;(first|apply qmv|apply qgt)<;>first|rfl|(apply dcf;first|assumption|omega)))
   refine gcf rfl ?_
   repeat (first|apply gst|(apply gsv;rfl;(first|apply qmv|apply qas)<;>rfl))
   refine dC (Or.inl rfl) Tryz.results34 (aw.tmp rfl) (aw.tmp rfl) ?_
   refine⟨hk,Or.inr ⟨hgo.symm,bt,bm,rfl,?_,by omega,by omega⟩⟩
   have:m=kY [] l:=hpu
   rw[←this]
   exact hB
 have g1:(i:Int)<(l.length:Int):=by omega
 obtain⟨ba,oa,rfl,hr⟩:=(h.kp0 hk).at hlt
 obtain⟨x,hx⟩:∃x,x=l[i]:=⟨_,rfl⟩
 rw[←hx] at hr
 have hdrop:l.drop i=x::l.drop (i+1):=by rw[hx];exact List.drop_eq_getElem_cons hlt
 rw[hdrop] at hgo hpu
 simp only[ic] at hgo
 repeat (first|apply gst|(apply gsv;rfl;apply qls<;>first|rfl|(apply dct;first|assumption|omega)))
 refine gct rfl ?_
 repeat (first|apply gst|(apply gsv;rfl;(first|apply qla|apply qix)<;>first|rfl|(apply Ar.mk;omega)|assumption|exact List.not_mem_nil|apply az))
 refine SG.alloc rfl rfl rfl (fun b8 w5 hk5 hb8 hB8=>?_)
 refine SG.aB (old:=acl ⟨zd,0,0⟩) (l:=acl x) rfl rfl (ag rfl) (ag rfl) hB8 (az _) (az _) (iw _) (fun w6 hk6 hB8=>?_)
 have s4:=hk.size
 have s5:=hk5.size
 have k46:Kp [] w4 w6:=hk5.ai hk6 (aV (by omega))
 have hB6:=hB.kp0 k46
 have hS6:=hS.kp0 k46
 have hk:=hk.trans k46
 have s6:=k46.size
 obtain⟨q0,q1,q2,q3⟩:=oL hB8
 clear q3
 by_cases hbad:rl x
 ·rw[if_pos hbad] at hgo
  have hcase:x.money<0∨(¬x.money<0∧1125899906842624<x.money)∨(¬x.money<0∧¬1125899906842624<x.money∧x.nonce<0)∨(¬x.money<0∧¬1125899906842624<x.money∧¬x.nonce<0∧1099511627776<x.nonce):=by
   unfold rl at hbad
   omega
  rcases hcase with g2|⟨g2,g3⟩|⟨g2,g3,g4⟩|⟨g2,g3,g4,g5⟩
  all_goals
   repeat (first|apply gst|(apply gsv;rfl;(first|apply qmv|apply qlc|apply qfa|apply qpk|apply qls|apply qgt)<;>first|rfl|assumption|(apply dct;first|assumption|omega)|(apply dcf;first|assumption|omega)|exact List.not_mem_nil)|refine SG.skip rfl rfl ?_)
   refine gct rfl ?_
   repeat (first|apply gst|(apply gsv;rfl;apply qas<;>rfl))
   refine dC (Or.inl rfl) Tryz.results34 (aw.tmp rfl) (aw.tmp rfl) ?_
   exact⟨hk,Or.inl ⟨by rw[←hgo];decide,by rw[←hgo]⟩⟩
 rw[if_neg hbad] at hgo
 have hcase:¬x.money<0∧¬1125899906842624<x.money∧¬x.nonce<0∧¬1099511627776<x.nonce:=by
  unfold rl at hbad
  omega
 obtain⟨g2,g3,g4,g5⟩:=hcase
 repeat (first|apply gst|(apply gsv;rfl;(first|apply qmv|apply qlc|apply qfa|apply qpk|apply qls|apply qgt)<;>first|rfl|assumption|(apply dcf;first|assumption|omega)|exact List.not_mem_nil))
 refine gcf rfl ?_
 cases hal:au sn x.key with
 |some u=>
  have:x.key∈ks:=by
   apply Classical.byContradiction
   intro hn
   rw[(hks x.key).2 hn] at hal
   cases hal
  rw[if_pos this] at hgo
  repeat (first|apply gst|(apply gsv;rfl;(first|apply qmv|apply qla|apply qfa|apply qlv)<;>first|rfl|assumption|exact List.not_mem_nil|apply ah|exact lk1 (by assumption)|fail))
  refine gct rfl ?_
  repeat (first|apply gst|(apply gsv;rfl;apply qas<;>rfl))
  refine dC (Or.inl rfl) Tryz.results34 (aw.tmp rfl) (aw.tmp rfl) ?_
  exact⟨hk,Or.inl ⟨by rw[←hgo];decide,by rw[←hgo]⟩⟩
 |none=>
  have hnk:=(hks x.key).1 hal
  rw[if_neg hnk] at hgo
  repeat (first|apply gst|(apply gsv;rfl;(first|apply qmv|apply qla|apply qfa|apply qlv)<;>first|rfl|assumption|exact List.not_mem_nil|apply ah|exact lk0 (by assumption)|fail))
  refine gcf rfl ?_
  repeat (first|apply gst|(apply gsv;rfl;(first|apply qmv|apply qla|apply qfa)<;>first|rfl|assumption|exact List.not_mem_nil|apply ah))
  refine SG.mapUpdate (enc:=dv (n:=8)) (V:=fun _:Unit=>Value.bool true) (kx:=x.key) (vy:=()) rfl rfl (ag rfl) (ag rfl) rfl hS6 jZ.key (fun w7 hk7 hS7=>?_)
  have hB7:=hB6.kp hk7 (nm1 (by omega)) (nm1 (by omega))
  have hB8:=hB8.kp hk7 (nm1 (by omega))
  obtain⟨q0,q1,q2,q3⟩:=oL hB8
  clear q3
  repeat (first|apply gst|(apply gsv;rfl;(first|apply qmv|apply qlc|apply qla|apply qfa)<;>first|rfl|assumption|exact List.not_mem_nil|apply ah))
  refine SG.val rfl rfl rfl rfl (ar (v:=pnv ⟨x.money,x.nonce⟩) rfl (fun w=>by kernel_rfl)) ?_
  refine SG.call rfl rfl rfl (by repeat' (first|exact True.intro|exact ag rfl|refine And.intro ?_ ?_)) ((gG hB7 x.key ⟨x.money,x.nonce⟩ (by unfold Pu.Fit;simp only;omega)).mono (fun e w8 hh=>?_))
  obtain⟨he8,h8,hk8⟩:=hh
  refine⟨_,he8,?_⟩
  obtain⟨q0,q1,q2,q3⟩:=oL (hB8.kp hk8 (nm1 (by omega)))
  clear q3
  have s7:=hk7.size
  have s8:=hk8.size
  repeat (first|apply gst|(apply gsv;rfl;(first|apply qmv|apply qas|apply qlc|apply qfa|apply qad)<;>first|rfl|(apply Ar.mk;omega)|assumption|exact List.not_mem_nil))
  refine NG.round (i+1,s+x.money,x.key::ks,jw m x.key ⟨x.money,x.nonce⟩,ca sn x.key ()) (aW.of rfl) ⟨hlt,(hk.ai hk7 (aV (by omega))).ai hk8 (aV (by omega)),by omega,h8,hS7.kp hk8 (nm1 (by omega)),fun k=>?_,hgo,hpu,by simp only;omega,by simp only;omega⟩ (by simp only;omega)
  rw[aZ]
  by_cases e:x.key=k
  ·simp[e]
  ·rw[if_neg e,hks k]
   simp[Ne.symm e]
end
section
open Go.Proofs Go.Shelf Go.Sort
def cf(x y:Ac):Int:=Lib.compareBytes x.key.1 y.key.1
attribute [local irreducible] CG NG SG aJ Der Row Blk av aA bh
end
section
open Go.Proofs Go.Shelf
def Bn:Go.Shelf.Ren:=⟨fun|6=>61|15=>114|14=>113|28=>156|29=>157|20=>148|21=>149|22=>150|23=>151|24=>152|25=>153|26=>154|27=>155|46=>174|47=>175|48=>176|49=>177|50=>178|57=>194|n=>n,fun|22=>63|24=>59|25=>139|3=>3|39=>208|0=>0|53=>259|55=>183|4=>4|46=>253|45=>252|50=>90|5=>5|9=>9|66=>273|70=>277|76=>298|77=>299|n=>n,fun n=>n⟩
end
section
open Go.Proofs Go.Shelf Go.Sort
abbrev cb:=Lib.compareBytes
instance:Inhabited Ac:=⟨⟨zd,0,0⟩⟩
def acE(p:Dg×Pu):Ac:=rf p.1 p.2
def Asc(l:List Ac):Prop:=l.Pairwise (fun x y=>ltOf cf y x=false)
attribute [local irreducible] CG NG SG aJ Der Row Blk av aA bh
end
section
theorem nr(m:Bk)(k x:Dg):au (m.filter (fun q=>decide (q.1≠k))) x=if k=x then none else au m x:=by
 induction m with
 |nil=>simp[au]
 |cons p m ih=>
  obtain⟨a,y⟩:=p
  by_cases h:a=k
  ·rw[List.filter_cons_of_neg (by simp[h]),ih]
   by_cases e:k=x
   ·simp[e]
   ·rw[if_neg e,if_neg e]
    show _=if a=x then some y else au m x
    rw[if_neg (by rw[h];exact e)]
  ·rw[List.filter_cons_of_pos (by simp[h])]
   show(if a=x then some y else au (m.filter _) x)=if k=x then none else if a=x then some y else au m x
   rw[ih]
   by_cases e:k=x
   ·subst e;simp[h]
   ·simp[e]
theorem jQ(m:Bk)(k x:Dg)(p:Pu):bal (jw m k p) x=if k=x then p else bal m x:=by
 unfold jw
 by_cases h:p=pz
 ·rw[if_pos h]
  unfold bal
  rw[nr]
  by_cases e:k=x
  ·simp[e,h]
  ·simp[e]
 ·rw[if_neg h]
  unfold bal
  rw[aZ]
  by_cases e:k=x
  ·simp[e]
  ·simp[e]
theorem iR{m:Bk}{k:Dg}{p:Pu}{q:Dg×Pu}(h:q∈ca m k p):q=(k,p)∨q∈m:=by
 induction m with
 |nil=>simp[ca] at h;exact Or.inl h
 |cons a m ih=>
  obtain⟨x,y⟩:=a
  unfold ca at h
  by_cases e:x=k
  ·rw[if_pos e] at h
   rcases List.mem_cons.1 h with h|h
   ·exact Or.inl (by rw[h,e])
   ·exact Or.inr (by simp[h])
  ·rw[if_neg e] at h
   rcases List.mem_cons.1 h with h|h
   ·exact Or.inr (by simp[h])
   ·rcases ih h with h|h
    ·exact Or.inl h
    ·exact Or.inr (by simp[h])
theorem uP(m:Bk)(k:Dg)(p:Pu):tot (ca m k p)=tot m-(bal m k).money+p.money:=by
 induction m with
 |nil=>simp[ca,tot,bal,au,pz]
 |cons a m ih=>
  obtain⟨x,y⟩:=a
  unfold ca bal au
  by_cases e:x=k
  ·rw[if_pos e,if_pos e,bL,bL]
   simp
   omega
  ·rw[if_neg e,if_neg e,bL,bL,ih]
   show y.money+(tot m-((au m k).getD pz).money+p.money)=y.money+tot m-((au m k).getD pz).money+p.money
   omega
theorem pZ(m:Bk)(hn:(m.map (·.1)).Nodup)(k:Dg):tot (m.filter (fun q=>decide (q.1≠k)))=tot m-(bal m k).money:=by
 induction m with
 |nil=>simp[tot,bal,au,pz]
 |cons a m ih=>
  obtain⟨x,y⟩:=a
  rw[List.map_cons,List.nodup_cons] at hn
  by_cases e:x=k
  ·rw[List.filter_cons_of_neg (by simp[e]),bL,ih hn.2]
   have h0:au m k=none:=by
    rw[db]
    intro q hq he
    exact hn.1 (List.mem_map.2 ⟨q,hq,by rw[he,e]⟩)
   unfold bal
   rw[h0]
   simp[au,e,pz]
   omega
  ·rw[List.filter_cons_of_pos (by simp[e]),bL,bL,ih hn.2]
   unfold bal
   simp only[au,if_neg e]
   omega
theorem xV(m:Bk)(hn:(m.map (·.1)).Nodup)(k:Dg)(p:Pu):tot (jw m k p)=tot m-(bal m k).money+p.money:=by
 unfold jw
 by_cases h:p=pz
 ·rw[if_pos h,pZ m hn,h]
  simp[pz]
 ·rw[if_neg h,uP]
theorem sY{m:Bk}{k:Dg}{p:Pu}(hn:(m.map (·.1)).Nodup):((ca m k p).map (·.1)).Nodup:=by
 induction m with
 |nil=>simp[ca]
 |cons a m ih=>
  obtain⟨x,y⟩:=a
  unfold ca
  by_cases e:x=k
  ·rw[if_pos e]
   subst e
   simpa using hn
  ·rw[if_neg e,List.map_cons,List.nodup_cons]
   rw[List.map_cons,List.nodup_cons] at hn
   refine⟨fun hm=>?_,ih hn.2⟩
   obtain⟨q,hq,he⟩:=List.mem_map.1 hm
   rcases iR hq with h|h
   ·subst h
    exact e he.symm
   ·exact hn.1 (List.mem_map.2 ⟨q,h,he⟩)
theorem oe(m:Bk)(k:Dg)(p:Pu):(ca m k p).length≤m.length+1:=by
 induction m with
 |nil=>simp[ca]
 |cons a m ih=>
  obtain⟨x,y⟩:=a
  unfold ca
  by_cases e:x=k
  ·rw[if_pos e];simp
  ·rw[if_neg e];simp;exact ih
structure Ok(T N:Int)(m:Bk):Prop where
 nd:(m.map (·.1)).Nodup
 nz:∀p∈m,p.2≠pz
 mon:∀p∈m,0≤p.2.money
 non:∀p∈m,0≤p.2.nonce∧p.2.nonce≤N
 tot:tot m=T
theorem mL{m:Bk}{k:Dg}{p:Pu}(h:au m k=some p):(k,p)∈m:=by
 induction m with
 |nil=>simp[au] at h
 |cons a m ih=>
  obtain⟨x,y⟩:=a
  unfold au at h
  by_cases e:x=k
  ·rw[if_pos e] at h
   simp only[Option.some.injEq] at h
   subst e
   subst h
   simp
  ·rw[if_neg e] at h
   exact List.mem_cons_of_mem _ (ih h)
theorem zJ{m:Bk}(h:∀p∈m,0≤p.2.money){q:Dg×Pu}(hq:q∈m):q.2.money≤tot m:=by
 induction m with
 |nil=>cases hq
 |cons a m ih=>
  rw[bL]
  have h0:=h a (by simp)
  have h1:=xh (m:=m) (fun p hp=>h p (by simp[hp]))
  rcases List.mem_cons.1 hq with rfl|hq
  ·omega
  ·have:=ih (fun p hp=>h p (by simp[hp])) hq
   omega
theorem Ok.t0{T N:Int}{m:Bk}(h:Ok T N m):0≤T:=by rw[←h.tot];exact xh h.mon
theorem Ok.bnd{T N:Int}{m:Bk}(h:Ok T N m)(hN:0≤N)(k:Dg):0≤(bal m k).money∧(bal m k).money≤T∧0≤(bal m k).nonce∧(bal m k).nonce≤N:=by
 have ht:=h.t0
 unfold bal
 cases e:au m k with
 |none=>simp[pz];exact⟨ht,hN⟩
 |some p=>
  have hm:=mL e
  have h1:=h.mon _ hm
  have h2:=h.non _ hm
  have h3:=zJ h.mon hm
  rw[h.tot] at h3
  exact⟨h1,h3,h2⟩
theorem Ok.zA{T N:Int}{m:Bk}(h:Ok T N m)(hN:0≤N)(hT:T≤2000000000000000000)(hN':N≤2000000000000000000):Good m:=fun k=>by
 have:=h.bnd hN k
 omega
theorem Ok.put{T N N':Int}{m:Bk}(h:Ok T N m)(hN:N≤N')(k:Dg)(p:Pu)(h1:0≤p.money)(h2:0≤p.nonce∧p.nonce≤N'):Ok (T-(bal m k).money+p.money) N' (jw m k p):=by
 refine⟨?_,?_,?_,?_,by rw[xV m h.nd,h.tot]⟩
 all_goals unfold jw
 all_goals by_cases e:p=pz
 ·rw[if_pos e]
  exact h.nd.sublist (List.filter_sublist.map _)
 ·rw[if_neg e]
  exact sY h.nd
 ·rw[if_pos e]
  exact fun q hq=>h.nz q (List.mem_filter.1 hq).1
 ·rw[if_neg e]
  intro q hq
  rcases iR hq with rfl|hq
  ·exact e
  ·exact h.nz q hq
 ·rw[if_pos e]
  exact fun q hq=>h.mon q (List.mem_filter.1 hq).1
 ·rw[if_neg e]
  intro q hq
  rcases iR hq with rfl|hq
  ·exact h1
  ·exact h.mon q hq
 ·rw[if_pos e]
  intro q hq
  have:=h.non q (List.mem_filter.1 hq).1
  omega
 ·rw[if_neg e]
  intro q hq
  rcases iR hq with rfl|hq
  ·exact h2
  ·have:=h.non q hq
   omega
theorem fa(m:Bk)(k:Dg)(p:Pu):(jw m k p).length≤m.length+1:=by
 unfold jw
 by_cases e:p=pz
 ·rw[if_pos e]
  have:=List.length_filter_le (fun q:Dg×Pu=>decide (q.1≠k)) m
  omega
 ·rw[if_neg e]
  exact oe m k p
theorem vH{m:Bk}{f:Dg}{n:Int}(h:mvE m f n=0):0≤n∧n≤1125899906842624∧n≤(bal m f).money:=by
 unfold mvE at h
 split at h
 ·cases h
 ·split at h
  ·cases h
  ·omega
theorem Ok.move{T N:Int}{m:Bk}(h:Ok T N m)(hN:0≤N)(f t:Dg)(n:Int):Ok T N (mvM m f t n):=by
 unfold mvM
 by_cases e:mvE m f n=0∧f≠t
 ·rw[if_pos e]
  obtain⟨a1,a2,a3⟩:=vH e.1
  have hf:=h.bnd hN f
  have ht:=h.bnd hN t
  have h1:=h.put (Int.le_refl N) f ⟨(bal m f).money-n,(bal m f).nonce⟩ (by simp only;omega) ⟨hf.2.2.1,hf.2.2.2⟩
  have h2:=h1.put (Int.le_refl N) t ⟨(bal m t).money+n,(bal m t).nonce⟩ (by simp only;omega) ⟨ht.2.2.1,ht.2.2.2⟩
  rw[jQ,if_neg e.2] at h2
  simp only at h2
  have:T-(bal m f).money+((bal m f).money-n)-(bal m t).money+((bal m t).money+n)=T:=by omega
  rw[this] at h2
  exact h2
 ·rw[if_neg e]
  exact h
theorem od(m:Bk)(f t:Dg)(n:Int):(mvM m f t n).length≤m.length+2:=by
 unfold mvM
 split
 ·have h1:=fa m f ⟨(bal m f).money-n,(bal m f).nonce⟩
  have h2:=fa (jw m f ⟨(bal m f).money-n,(bal m f).nonce⟩) t ⟨(bal m t).money+n,(bal m t).nonce⟩
  omega
 ·omega
theorem qA(m:Bk)(k:Dg)(n:Int):(usM m k n).length≤m.length+2:=by
 unfold usM
 split
 ·have h1:=fa m k ⟨(bal m k).money,(bal m k).nonce+1⟩
  omega
 ·omega
theorem uO{m m':Bk}(hp:m.Perm m'):tot m=tot m':=by
 induction hp with
 |nil=>rfl
 |cons x _ ih=>rw[bL,bL,ih]
 |swap x y l=>rw[bL,bL,bL,bL];omega
 |trans _ _ a b=>exact a.trans b
theorem Ok.perm{T N:Int}{m m':Bk}(h:Ok T N m)(hp:m'.Perm m):Ok T N m'∧∀k,bal m' k=bal m k:=by
 refine⟨⟨(hp.map _).nodup_iff.2 h.nd,fun p hp'=>h.nz p (hp.mem_iff.1 hp'),fun p hp'=>h.mon p (hp.mem_iff.1 hp'),fun p hp'=>h.non p (hp.mem_iff.1 hp'),?_⟩,fun k=>?_⟩
 ·rw[←h.tot]
  exact uO hp
 ·unfold bal
  rw[kI hp ((hp.map _).nodup_iff.2 h.nd)]
end
section
abbrev Fb:=Dg→Pu
def upF(f:Fb)(k:Dg)(p:Pu):Fb:=fun x=>if k=x then p else f x
def mvz(f:Fb)(a:Dg)(n:Int):Int:=if n<0∨1125899906842624<n then 2 else if(f a).money<n then 21 else 0
def mvf(f:Fb)(a b:Dg)(n:Int):Fb:=if mvz f a n=0∧a≠b then upF (upF f a ⟨(f a).money-n,(f a).nonce⟩) b ⟨(f b).money+n,(f b).nonce⟩ else f
def usz(f:Fb)(k:Dg)(n:Int):Int:=if n<(f k).nonce then 17 else if(f k).nonce<n then 20 else if 1099511627776≤n then 2 else 0
def usf(f:Fb)(k:Dg)(n:Int):Fb:=if usz f k n=0 then upF f k ⟨(f k).money,(f k).nonce+1⟩ else f
def tdz(f:Fb)(a:Dg)(l:List UInt8):Int:=match l with
 |[]=>3
 |u::_=>if mvz f a (u.toNat:Int)≠0 then mvz f a (u.toNat:Int) else if u=13 then 10 else 0
def tdf(f:Fb)(a:Dg)(l:List UInt8):Fb:=match l with
 |[]=>f
 |u::_=>mvf f a vW (u.toNat:Int)
def oJ(f:Fb)(t:Tx):Int:=if t.kind=0 then(if cT t.body≠0 then cT t.body else mvz f t.frm (hZ t.body)) else tdz f t.frm t.body
def uf(f:Fb)(t:Tx):Fb:=if t.kind=0 then(if cT t.body≠0 then f else mvf f t.frm (iI t.body) (hZ t.body)) else if tdz f t.frm t.body=0 then tdf f t.frm t.body else f
def rm(a:Tl)(f:Fb)(h:Int)(t:Tx):Tl:=if t.kind=0 then a else if tdz f t.frm t.body=0 then tdT a h t.frm t.kind t.body else a
def gl(f:Fb)(t:Tx):Int:=if usz f t.frm t.non≠0 then usz f t.frm t.non else mvz (usf f t.frm t.non) t.frm t.fee
def lf(f:Fb)(mk:Dg)(t:Tx):Fb:=mvf (usf f t.frm t.non) t.frm mk t.fee
theorem sM(m:Bk)(k:Dg)(p:Pu):bal (jw m k p)=upF (bal m) k p:=funext (fun x=>jQ m k x p)
theorem BZ(m:Bk)(a b:Dg)(n:Int):bal (mvM m a b n)=mvf (bal m) a b n:=by
 unfold mvM mvf
 show bal (if mvE m a n=0∧a≠b then _ else m)=if mvE m a n=0∧a≠b then _ else _
 split
 ·rw[sM,sM]
 ·rfl
theorem DK(m:Bk)(k:Dg)(n:Int):bal (usM m k n)=usf (bal m) k n:=by
 unfold usM usf
 show bal (if usE m k n=0 then _ else m)=if usE m k n=0 then _ else _
 split
 ·rw[sM]
 ·rfl
theorem BM(m:Bk)(a:Dg)(l:List UInt8):tdZ m a l=tdz (bal m) a l:=by cases l<;>rfl
theorem H9(m:Bk)(a:Dg)(l:List UInt8):bal (tdM m a l)=tdf (bal m) a l:=by
 cases l
 ·rfl
 ·exact BZ _ _ _ _
theorem Cw(m:Bk)(h:Int)(t:Tx):wO m h t=oJ (bal m) t:=by
 unfold wO oJ
 rw[BM]
 rfl
theorem Cy(m:Bk)(h:Int)(t:Tx):bal (qY m h t)=uf (bal m) t:=by
 unfold qY uf
 rw[BM]
 split
 ·split
  ·rfl
  ·exact BZ _ _ _ _
 ·split
  ·exact H9 _ _ _
  ·rfl
theorem Cx(a:Tl)(m:Bk)(h:Int)(t:Tx):lP a m h t=rm a (bal m) h t:=by
 unfold lP rm
 rw[BM]
structure BkI(T:Int)(n:Nat)(m:Bk)(f:Fb):Prop where
 ok:Ok T 1099511627776 m
 len:m.length≤n
 eq:bal m=f
theorem BkI.zA{T:Int}{n:Nat}{m:Bk}{f:Fb}(h:BkI T n m f)(hT:T≤1000000000):Good m:=h.ok.zA (by omega) (by omega) (by omega)
theorem BkI.perm{T:Int}{n:Nat}{m m':Bk}{f:Fb}(h:BkI T n m f)(hp:m'.Perm m):BkI T n m' f:=⟨(h.ok.perm hp).1,by rw[hp.length_eq];exact h.len,(funext (h.ok.perm hp).2).trans h.eq⟩
theorem BkI.mono{T:Int}{n n':Nat}{m:Bk}{f:Fb}(h:BkI T n m f)(hn:n≤n'):BkI T n' m f:=⟨h.ok,Nat.le_trans h.len hn,h.eq⟩
theorem uM{m:Bk}{k:Dg}{n:Int}(h:usE m k n=0):(bal m k).nonce=n∧n<1099511627776:=by
 unfold usE at h
 repeat' split at h
 all_goals first|(cases h;done)|omega
theorem BkI.use{T:Int}{n:Nat}{m:Bk}{f:Fb}(h:BkI T n m f)(k:Dg)(i:Int):BkI T (n+2) (usM m k i) (usf f k i):=by
 refine⟨?_,Nat.le_trans (qA m k i) (Nat.add_le_add_right h.len 2),by rw[DK,h.eq]⟩
 have hk:=h.ok.bnd (by omega) k
 unfold usM
 by_cases e:usE m k i=0
 ·rw[if_pos e]
  obtain⟨e1,e2⟩:=uM e
  have h1:=h.ok.put (Int.le_refl _) k ⟨(bal m k).money,(bal m k).nonce+1⟩ hk.1 ⟨by simp only;omega,by simp only;omega⟩
  simp only at h1
  have:T-(bal m k).money+(bal m k).money=T:=by omega
  rw[this] at h1
  exact h1
 ·rw[if_neg e]
  exact h.ok
theorem BkI.move{T:Int}{n:Nat}{m:Bk}{f:Fb}(h:BkI T n m f)(a b:Dg)(i:Int):BkI T (n+2) (mvM m a b i) (mvf f a b i):=
 ⟨h.ok.move (by omega) a b i,Nat.le_trans (od m a b i) (Nat.add_le_add_right h.len 2),by rw[BZ,h.eq]⟩
theorem BkI.pay{T:Int}{n:Nat}{m:Bk}{f:Fb}(h:BkI T n m f)(mk:Dg)(t:Tx):BkI T (n+4) (Ir m mk t) (lf f mk t):=(h.use t.frm t.non).move t.frm mk t.fee
theorem BkI.ask{T:Int}{n:Nat}{m:Bk}{f:Fb}(h:BkI T n m f)(i:Int)(t:Tx):BkI T (n+2) (qY m i t) (uf f t):=by
 have key:∀{m':Bk},m'=qY m i t→(m'=m∨∃b j,m'=mvM m t.frm b j)→BkI T (n+2) m' (uf f t):=fun{m'} e hh=>by
  have ef:bal m'=uf f t:=by rw[e,Cy,h.eq]
  rcases hh with rfl|⟨b,j,rfl⟩
  ·exact⟨h.ok,Nat.le_trans h.len (Nat.le_add_right _ _),ef⟩
  ·have:=h.move t.frm b j
   exact⟨this.ok,this.len,ef⟩
 refine key rfl ?_
 unfold qY
 split
 ·split
  ·exact Or.inl rfl
  ·exact Or.inr ⟨_,_,rfl⟩
 ·split
  ·unfold tdM
   split
   ·exact Or.inl rfl
   ·exact Or.inr ⟨_,_,rfl⟩
  ·exact Or.inl rfl
theorem Ba(a:Tl)(f:Fb)(h:Int)(t:Tx):(rm a f h t).n≤a.n+1:=by
 unfold rm
 split
 ·omega
 ·split
  ·unfold tdT
   split
   ·omega
   ·exact Nat.le_refl _
  ·omega
end
section
def okC(Ts:List TypeId)(A:List Nat)(b:Nat):Obj→Prop
 | .cells _ T _=>T∈Ts
 | .map _ _=>b∈A
 |_=>True
def Cnd(n:Nat)(Ts:List TypeId)(A:List Nat)(w:World)(S:List Nat):Prop:=
 ∀b∈S,n≤b∧(w.heap.size≤b∨∃o,w.heap[b]?=some o∧okC Ts A b o)
def Kt(n:Nat)(Ts:List TypeId)(A:List Nat)(w w':World):Prop:=∃S,Kp S w w'∧Cnd n Ts A w S
theorem Cnd.nil{n:Nat}{Ts:List TypeId}{A:List Nat}{w:World}:Cnd n Ts A w []:=fun _ h=>by cases h
theorem Cnd.app{n:Nat}{Ts:List TypeId}{A:List Nat}{w:World}{S S':List Nat}(h:Cnd n Ts A w S)(h':Cnd n Ts A w S'):Cnd n Ts A w (S++S'):=fun b hb=>(List.mem_append.1 hb).elim (h b) (h' b)
theorem Cnd.obj{n:Nat}{Ts:List TypeId}{A:List Nat}{w:World}{b:Nat}{o:Obj}(hn:n≤b)(h:Blk w b o)(hT:okC Ts A b o):Cnd n Ts A w [b]:=fun z hz=>by
 rw[List.mem_singleton] at hz
 subst hz
 exact⟨hn,Or.inr ⟨o,h,hT⟩⟩
theorem Cnd.cells{n:Nat}{Ts:List TypeId}{A:List Nat}{w:World}{b:Nat}{cs:Array Value}{T:TypeId}(hn:n≤b)(h:Blk w b (.cells cs T))(hT:T∈Ts):Cnd n Ts A w [b]:=Cnd.obj hn h hT
theorem Cnd.map{n:Nat}{Ts:List TypeId}{A:List Nat}{w:World}{b:Nat}{κ ν:Type}{enc:κ→Value}{V:ν→Value}{m:List (κ×ν)}(hn:n≤b)(h:av w b enc V m)(hA:b∈A):Cnd n Ts A w [b]:=by
 obtain⟨es,c,hb⟩:=h.blk
 exact Cnd.obj hn hb hA
theorem Cnd.own{n m sz base:Nat}{Ts:List TypeId}{A:List Nat}{w:World}{T:TypeId}{v:Value}{xs:List Value}(ho:w.ownsRow base T sz v m xs)(hn:n≤base)(hT:T∈Ts):Cnd n Ts A w (aU v):=fun b hb=>by
 have hb':=aC hb
 refine⟨Nat.le_trans hn (bF ho b hb'),Or.inr ?_⟩
 rcases ho.2 with⟨rfl,_⟩|⟨g,cap,cur,rfl,_,hg,_⟩
 ·cases hb'
 ·simp only[Value.ownBlock,Option.some.injEq] at hb'
  subst hb'
  exact⟨_,hg,hT⟩
theorem Cnd.no{n:Nat}{Ts:List TypeId}{A:List Nat}{w:World}{S:List Nat}(h:Cnd n Ts A w S){b:Nat}{o:Obj}(hb:Blk w b o)(ho:¬okC Ts A b o):b∉S:=fun hm=>by
 rcases(h b hm).2 with g|⟨o',g,g'⟩
 ·have:=hb.lt
  omega
 ·rw[Blk.uniq hb g] at ho
  exact ho g'
theorem Cnd.not{n:Nat}{Ts:List TypeId}{A:List Nat}{w:World}{S:List Nat}(h:Cnd n Ts A w S){T:TypeId}(hT:T∉Ts):NoT T n w S:=fun b hb=>⟨(h b hb).1,fun cs f e=>h.no e hT hb⟩
theorem Cnd.blk{n:Nat}{Ts:List TypeId}{A:List Nat}{w w':World}{S:List Nat}(h:Cnd n Ts A w S)(hk:Kp S w w'){b:Nat}{cs:Array Value}{T:TypeId}(hB:Blk w b (.cells cs T))(hT:T∉Ts):Blk w' b (.cells cs T):=hB.kp hk (h.no hB hT)
theorem Cnd.yz{n:Nat}{Ts:List TypeId}{A:List Nat}{w w':World}{S:List Nat}(h:Cnd n Ts A w S)(hk:Kp S w w'){κ ν:Type}{b:Nat}{enc:κ→Value}{V:ν→Value}{m:List (κ×ν)}(hM:av w b enc V m)(hA:b∉A):av w' b enc V m:=by
 obtain⟨es,c,hb⟩:=hM.blk
 exact hM.kp hk (h.no hb hA)
end
section
section
variable {P:Program} {L:Env} {ty:TypeId} {pos:String} {af:Array Edge} {g:Option (Nat×Bool)} {S:List Nat} {w0:World} {ops:List Oper} {gh:List Nat} {K:Env→(World→Prop)→(World→Prop)→Prop} {j:Nat} {ord:List Nat} {F R0:World→Prop}
theorem Der.wP{base:Nat}{t e:TypeId}{i:TypeInfo}[u:Ut P t (.slice e)][f:Inf P e i]{z:Value}{d:Nat}{s x:Operand}{v:Value}{nn:Nat}{xs:List Value}{b off m c:Nat}{news:List Value}
  (ho:ops[j]?=some ⟨some d,.call {callee:= .builtin .append,args:= #[s,x],argTypes:= #[t,t]},ty,pos,af,g⟩) (hw:want ops L ⟨some d,.call {callee:= .builtin .append,args:= #[s,x],argTypes:= #[t,t]},ty,pos,af,g⟩=some true) (hg:gh.elem j=true) (hk:(known L s&&known L x)=true)
  (hs:rho L s=v) (hx:rho L x= .slice (some ⟨b,off,none⟩) m c) (hz:i.zero=some z) (hzs:Nat.beq z.cells.size i.size=true) (hsz:Nat.blt 0 i.size=true) (hr:∀w,Kp S w0 w→F w→Row w b off news) (hl:news.length=m*i.size) (h1:aS news=true)
  (h63:nn+m≤maxLen) (hbytes:(nn+m)*i.bytes≤140737488355328) (hbase:base≤w0.heap.size) (hS:∀b∈aU v,b∈S) (hFo:∀w w',w.ownsRow base e i.size v nn xs→Kp (aU v) w w'→R0 w→F w→F w')
  (hR1:bU [] R0) (hR0:∀w w',w.ownsRow base e i.size v nn xs→Kp (aU v) w w'→R0 w→R0 w')
  (h:∀v',Der P S w0 ops gh K ord ((d,v')::L) (fun w=>F w∧∀g,v'.ownBlock=some g→v.ownBlock=some g∨w0.heap.size≤g) (fun w=>R0 w∧w.ownsRow base e i.size v' (nn+m) (xs++news))):
  Der P S w0 ops gh K (j::ord) L F (fun w=>R0 w∧w.ownsRow base e i.size v nn xs):=by
 refine Der.mQ (X:=Value) (fun v'=>v') (fun v' _=>∀g,v'.ownBlock=some g→v.ownBlock=some g∨w0.heap.size≤g) (fun v' w=>R0 w∧w.ownsRow base e i.size v' (nn+m) (xs++news)) ho hw hg (by simpa[Op.operands,Call.operands] using hk) (fun _ _ _ _ h=>h) (fun v' w w' hk h=>⟨hR1 _ _ hk h.1,aI h.2 hk⟩) (fun w hk1 hF hown=>?_) h
 obtain⟨hR,hown⟩:=hown
 have hrow:=hr w hk1 hF
 have hb:base≤w.heap.size:=Nat.le_trans hbase hk1.size
 obtain⟨v',w',h2,h3,h4⟩:=da (P:=P) (ty:=ty) (d:= .bool) (c:=c) (u:=u) (f:=f) hz (Nat.eq_of_beq_eq_true hzs) (by simpa[Nat.blt_eq] using hsz) hown hl hrow h1 h63 hbytes hb
 have hwh:=eS (P:=P) (ty:=ty) (c:=c) (u:=u) (f:=f) hz hown hl hrow h1 h63 hbytes h2
 unfold aR
 have:(execOp (rho L) ⟨some d,.call {callee:= .builtin .append,args:= #[s,x],argTypes:= #[t,t]},ty,pos,af,g⟩).run P w= .ok (.value v') w':=by
  simp only[execOp,resolve,invoke,builtin,Sem.run_bind,Sem.run_pure,Result.andThen_ok,List.map_toArray,List.map_cons,List.map_nil,hs,hx,h2]
 rw[this]
 refine⟨v',rfl,⟨hFo _ _ hown h4 hR hF,fun g hg=>?_⟩,⟨hR0 _ _ hown h4 hR,h3⟩,hk1.trans (h4.mono hS)⟩
 rcases hwh g hg with h|h
 ·exact Or.inl h
 ·exact Or.inr (by rw[h];exact hk1.size)
theorem Der.AZ{R:World→Prop}{X:Type}{d:Nat}{f:FuncId}[Fnc P f]{args:List Operand}{vs:List Value}{tys:Array TypeId}(val:X→Value)(F' R':X→World→Prop)
  (ho:ops[j]?=some ⟨some d,.call ⟨.value (.func f),args.toArray,tys⟩,ty,pos,af,g⟩) (hw:want ops L ⟨some d,.call ⟨.value (.func f),args.toArray,tys⟩,ty,pos,af,g⟩=some true) (hg:gh.elem j=true) (hk:(Op.call ⟨.value (.func f),args.toArray,tys⟩).operands.toList.all (known L)=true)
  (he:Evs L args vs) (hF:∀x,bU [] (F' x)) (hR:∀x,bU [] (R' x)) (hc:∀w,Kp S w0 w→F w→R w→Calls P f vs.toArray w (fun e w'=>∃x,e= .returned (val x)∧(F w'∧F' x w')∧R' x w'∧Kp S w w'))
  (hd:∀x,Der P S w0 ops gh K ord ((d,val x)::L) (fun w=>F w∧F' x w) (R' x)):Der P S w0 ops gh K (j::ord) L F R:=
 Der.mQ val F' R' ho hw hg hk hF hR (fun w h1 h2 h3=>cU (by rw[he.arr];exact(hc w h1 h2 h3).mono (fun e w' ⟨x,g1,g2,g3,g4⟩=>⟨val x,g1,x,rfl,g2,g3,h1.trans g4⟩))) hd
theorem Der.A2{R:World→Prop}{d:Nat}{T E:TypeId}{b:Nat}{parts:List (Nat×Operand)}{vs:List (Nat×Value)}{cs:Array Value}
  (ho:ops[j]?=some ⟨some d,.buildSlice T b parts.toArray,ty,pos,af,g⟩) (hw:want ops L ⟨some d,.buildSlice T b parts.toArray,ty,pos,af,g⟩=some true) (hg:gh.elem j=true) (hk:(Op.buildSlice T b parts.toArray).operands.toList.all (known L)=true)
  (he:(parts.map fun p=>(p.1,rho L p.2))=vs) (hrun:∀w:World,(Instr.buildSlice T b vs.toArray).run P w= .ok (.slice (some ⟨w.heap.size,0,none⟩) b b) {w with heap:=w.heap.push (.cells cs E)}) (hFs:bU [] F) (hRs:bU [] R)
  (h:∀bn,Der P S w0 ops gh K ord ((d,.slice (some ⟨bn,0,none⟩) b b)::L) (fun w=>F w∧(w0.heap.size≤bn∧Blk w bn (.cells cs E))) R):Der P S w0 ops gh K (j::ord) L F R:=by
 refine Der.mQ (X:=Nat) (fun bn=> .slice (some ⟨bn,0,none⟩) b b) (fun bn w=>w0.heap.size≤bn∧Blk w bn (.cells cs E)) (fun _=>R) ho hw hg hk (fun bn w w' hk h=>⟨h.1,h.2.kp0 hk⟩) (fun _=>hRs) (fun w hk1 hF hR=>?_) h
 unfold aR
 have e:(parts.toArray.map fun(p:Nat×Operand)=>(p.1,rho L p.2))=vs.toArray:=by simp[he]
 have:(execOp (rho L) ⟨some d,.buildSlice T b parts.toArray,ty,pos,af,g⟩).run P w= .ok (.value (.slice (some ⟨w.heap.size,0,none⟩) b b)) {w with heap:=w.heap.push (.cells cs E)}:=by
  simp only[execOp,e,Sem.run_bind,hrun w,Result.andThen,Sem.run_pure]
 rw[this]
 have hp:=Kp.push w (.cells cs E) rfl
 exact⟨w.heap.size,rfl,⟨hFs _ _ hp hF,hk1.size,Blk.push w _⟩,hRs _ _ hp hR,hk1.trans hp.any⟩
theorem qlF{d:Nat}{T:TypeId}{x:Operand}[c:cQ P T]{b off:Nat}{v:Value}(hx:ro L x=some (.pointer (some ⟨b,off,none⟩)))(hr:∀w,F w→Row w b off [v]):aJ P S w0 F L ⟨some d,.load T x,ty,pos,af,g⟩ v:=fun w _ hF=>
 qlc (S:=[]) (w0:=w) (F:=fun _=>True) hx (hr w hF) List.not_mem_nil w (Kp.refl _ _) trivial
end
end
section
def dof(f:Fb)(mk:Dg)(t:Tx):Fb:=if gl f t=0 then uf (lf f mk t) t else usf f t.frm t.non
def dot(a:Tl)(f:Fb)(h:Int)(mk:Dg)(t:Tx):Tl:=if gl f t=0 then rm a (lf f mk t) h t else a
def doa(es:List Int)(f:Fb)(mk:Dg)(t:Tx):List Int:=if gl f t=0 then es++[oJ (lf f mk t) t] else es
def Dos(w:World)(base:Nat)(T:TypeId)(ps:List Value)(bs bm:Nat)(f:Fb)(t:Tl)(v:Value)(es:List Int)(h:Int)(mk:Dg)(x:Tx)(tot:Int)(n:Nat)(e:Ending)(w':World):Prop:=
 ∃bk' bm' tb' v' m',e= .returned (.int .i64 (gl f x))∧fS w' T ps bs bk' bm' tb' m' (dot t f h mk x) v'∧BkI tot (n+6) m' (dof f mk x)∧w'.ownsRow base 36 1 v' (doa es f mk x).length (flt ziL (doa es f mk x))∧Kp (bs::bm::aU v) w w'∧(bm'=bm∨w.heap.size≤bm')∧(∀g,v'.ownBlock=some g→v.ownBlock=some g∨w.heap.size≤g)
theorem Jl(n:Int)(w:World):(Instr.buildSlice 114 1 #[(0,.int .i64 n)]).run Tryz.prog w= .ok (.slice (some ⟨w.heap.size,0,none⟩) 1 1) {w with heap:=w.heap.push (.cells #[.int .i64 n] 36)}:=by kernel_rfl
theorem jr{w:World}{base k sz:Nat}{T:TypeId}{v:Value}{xs:List Value}(h:w.ownsRow base T sz v k xs):∃a c,v= .slice a k c:=by
 rcases h.2 with⟨rfl,h0⟩|⟨g',cap,cur,rfl,_⟩
 ·have:k=0:=h0
  subst this
  exact⟨_,_,rfl⟩
 ·exact⟨_,_,rfl⟩
theorem ia{κ ν:Type}{enc:κ→Value}{V:ν→Value}{m:List (κ×ν)}{w:World}{base k sz b:Nat}{T:TypeId}{v:Value}{xs:List Value}(ho:w.ownsRow base T sz v k xs)(hm:av w b enc V m):∀g,v.ownBlock=some g→g∉[b]:=fun g hg=>nm1 (fun e=>by
 rcases ho.2 with⟨rfl,_⟩|⟨g',cap,cur,rfl,_,hg',_⟩
 ·cases hg
 ·simp only[Value.ownBlock,Option.some.injEq] at hg
  exact cE hg' hm (hg.trans e).symm)
theorem fS.kpO{w w':World}{bs bk bm tb base k sz:Nat}{m:Bk}{t:Tl}{v v':Value}{T:TypeId}{ps xs:List Value}(h:fS w T ps bs bk bm tb m t v)(ho:w.ownsRow base 36 sz v' k xs)(hT:T≠36)(hk:Kp (aU v') w w'):fS w' T ps bs bk bm tb m t v:=by
 have key:∀{b:Nat} {cs:Array Value} {T':TypeId},T'≠36→Blk w b (.cells cs T')→b∉aU v':=fun hT' hB hm=>(NoT.own ho (Nat.le_refl _) (fun e=>hT' e.symm) _ hm).2 _ _ hB
 exact⟨h.blk.kp hk (key hT h.blk),⟨h.book.blk.kp hk (key (by decide) h.book.blk),h.book.map.kp hk (fun hm=>ia ho h.book.map _ (aC hm) (List.mem_singleton.2 rfl))⟩,h.app.kp hk (key (by decide) h.app)⟩
theorem wN{w:World}{n0 bs bk bm tb:Nat}{m:Bk}{t:Tl}{v:Value}{T:TypeId}{ps:List Value}{f:Fb}{tot:Int}{n:Nat}(hs:fS w T ps bs bk bm tb m t v)(hb:BkI tot n m f)(ht:tot≤1000000000){x:Tm}(hx:x.In n0 w)(h:Int)(htn:t.n≤1000000):
  Calls Tryz.prog 121 #[.pointer (some ⟨bs,0,none⟩),.int .i64 h,txv x] w (fun e w'=>∃bk' bm' tb' m',e= .returned (.int .i64 (oJ f x.t))∧fS w' T ps bs bk' bm' tb' m' (rm t f h x.t) v∧BkI tot (n+2) m' (uf f x.t)∧Kp [bs,bm] w w'∧(bm'=bm∨w.heap.size≤bm')):=by
 have key:∀{e:Ending} {w':World},CF w T ps bs bk bm tb m t v h x.t e w'→∃bk' bm' tb' m',e= .returned (.int .i64 (oJ f x.t))∧fS w' T ps bs bk' bm' tb' m' (rm t f h x.t) v∧BkI tot (n+2) m' (uf f x.t)∧Kp [bs,bm] w w'∧(bm'=bm∨w.heap.size≤bm'):=fun{e w'} hh=>by
  obtain⟨bk',bm',tb',m1,hp,he,hs',hk,hc⟩:=hh
  have h1:=hb.perm hp
  refine⟨bk',bm',tb',_,by rw[he,Cw,h1.eq],by rw[←h1.eq,←Cx];exact hs',h1.ask h x.t,hk,?_⟩
  rcases hc with hc|hc
  ·exact Or.inl hc.2.1
  ·exact Or.inr hc.2.1
 by_cases hk:x.t.kind=0
 ·exact(oK hs (hb.zA ht) hx h hk).mono (fun _ _=>key)
 ·exact(nq hs (hb.zA ht) hx h hk htn).mono (fun _ _=>key)
theorem zX{f:Fb}{x:Tx}(h:usz f x.frm x.non≠0):gl f x=usz f x.frm x.non:=by unfold gl;rw[if_pos h]
theorem BX{f:Fb}{x:Tx}(h:usz f x.frm x.non=0):gl f x=mvz (usf f x.frm x.non) x.frm x.fee:=by unfold gl;rw[if_neg (fun g=>g h)]
theorem fS.kpb{w w':World}{bs bk bm tb:Nat}{m:Bk}{t:Tl}{v:Value}{T:TypeId}{ps:List Value}(h:fS w T ps bs bk bm tb m t v)(v':Value){ps':List Value}(hk:Kp [bs] w w')(hB:Blk w' bs (.cells (bhp bk tb v' ps').toArray T))(h1:T≠136)(h2:T≠76):fS w' T ps' bs bk bm tb m t v':=by
 have ne:∀{b:Nat} {cs:Array Value} {T':TypeId},T≠T'→Blk w b (.cells cs T')→b∉[bs]:=fun hT' hB'=>nm1 (fun e=>by
  subst e
  have:=h.blk.uniq hB'
  simp only[Obj.cells.injEq] at this
  exact hT' this.2.1)
 exact⟨hB,⟨h.book.blk.kp hk (ne h1 h.book.blk),h.book.map.kp hk (nm1 (fun e=>cE h.blk h.book.map e))⟩,h.app.kp hk (ne h2 h.app)⟩
attribute [local irreducible] CG NG SG aJ Der Row Blk av aA gl lf oJ uf rm usz usf mvz mvf usE usM mvE mvM
theorem tO{w:World}{n0 base bs bk bm tb:Nat}{m:Bk}{t:Tl}{v:Value}{T:TypeId}{ps:List Value}{f:Fb}{tot:Int}{n:Nat}{es:List Int}(hs:fS w T ps bs bk bm tb m t v)(hb:BkI tot n m f)(ht:tot≤1000000000)(ho:w.ownsRow base 36 1 v es.length (flt ziL es))(hbase:base≤w.heap.size)(hn0:n0≤bm)(hel:es.length≤1000000)(hT:T≠36)(hT1:T≠136)(hT2:T≠76){x:Tm}(hx:x.In n0 w)(h:Int)(mk:Dg)(htn:t.n≤1000000):
  Calls Tryz.prog 73 #[.pointer (some ⟨bs,0,none⟩),.int .i64 h,dv mk,txv x] w (Dos w base T ps bs bm f t v es h mk x.t tot n):=by
 refine iG Tryz.func73 rfl Tryz.ntmps73 rfl ?_
 have hlm:=hs.book.map.lt
 repeat apply gst
 refine SG.box rfl rfl rfl (ag rfl) (fun b6 w1 hk1 hb6 hB6=>?_)
 have hB6:Blk w1 b6 (.cells (dc mk).toArray 47):=hB6
 refine SG.box rfl rfl rfl (ag rfl) (fun b7 w2 hk2 hb7 hB7=>?_)
 have hB7:Blk w2 b7 (.cells (txc x).toArray 52):=hB7
 have k2:=hk1.trans hk2
 have q6:Row w2 b6 0 (dc mk):=Row.all (hB6.kp0 hk2) rfl
 obtain⟨q,q0,q1,q2,q3,q4,q5⟩:=aG hB7
 obtain⟨r0,-,r2⟩:=dA (hs.kp0 k2).blk
 repeat (first|apply gst|(apply gsv;rfl;apply qas<;>rfl))
 refine CG.tail mixed 8 [0,1,2,3,4,5,6,7] (by kernel_rfl) ?_
 repeat (apply gdv;rfl;rfl;(first|apply qmv|apply qlc|apply qla|apply qfa|apply qnc)<;>first|rfl|assumption|exact List.not_mem_nil|apply ah)
 refine Der.tl (fun w3 hk3 _ _=>?_)
 have k3:=k2.trans hk3
 have hs3:=hs.kp0 k3
 refine SG.call rfl rfl rfl (vs:=[.pointer (some ⟨bk,0,none⟩),dv x.t.frm,.int .i64 x.t.non]) (Evs.of rfl) ((tW hs3.book (hb.zA ht) x.t.frm x.t.non).mono (fun e w4 hh=>?_))
 obtain⟨he,hB4,hk4⟩:=hh
 have eu:usE m x.t.frm x.t.non=usz f x.t.frm x.t.non:=by rw[←hb.eq];unfold usE usz;rfl
 rw[eu] at he
 refine⟨_,he,?_⟩
 clear he q r0 q0 q1 q2 q3 q4 q5 r2 q6
 have hs4:fS w4 T ps bs bk bm tb (usM m x.t.frm x.t.non) t v:=hs3.ze hk4 hB4
 have hb4:BkI tot (n+2) (usM m x.t.frm x.t.non) (usf f x.t.frm x.t.non):=hb.use x.t.frm x.t.non
 have k4:Kp (bs::bm::aU v) w w4:=k3.any.trans (hk4.mono (fun z hz=>by rw[List.mem_singleton] at hz;rw[hz];simp))
 have hO4:=ia ho hs.book.map
 have ho4:=a8 (aI ho k3) hk4 hO4
 have hB7:=(hB7.kp0 hk3).kp hk4 (nm1 (by have:=hk1.size;omega))
 have q6:Row w4 b6 0 (dc mk):=Row.all (((hB6.kp0 hk2).kp0 hk3).kp hk4 (nm1 (by omega))) rfl
 by_cases hz:usz f x.t.frm x.t.non=0
 rotate_left
 ·have ep:=zX hz
  have e1:dof f mk x.t=usf f x.t.frm x.t.non:=by unfold dof;rw[if_neg (by rw[ep];exact hz)]
  have e2:dot t f h mk x.t=t:=by unfold dot;rw[if_neg (by rw[ep];exact hz)]
  have e3:doa es f mk x.t=es:=by unfold doa;rw[if_neg (by rw[ep];exact hz)]
  repeat (first|apply gst|(apply gsv;rfl;(first|apply qmv|apply qas|apply qni)<;>first|rfl|(apply dcf;first|assumption|omega)))
  refine gct rfl ?_
  repeat (first|apply gst|(apply gsv;rfl;(first|apply qmv|apply qas)<;>rfl))
  refine aN (Or.inl rfl) Tryz.results73 (aw.tmp rfl) ?_
  exact⟨bk,bm,tb,v,_,by rw[ep],by rw[e2];exact hs4,by rw[e1];exact hb4.mono (by omega),by rw[e3];exact ho4,k4,Or.inl rfl,fun _ hg=>Or.inl hg⟩
 have ep:=BX hz
 rw[hz]
 obtain⟨q,q0,q1,q2,q3,q4,q5⟩:=aG hB7
 obtain⟨r0,-,r2⟩:=dA hs4.blk
 repeat (first|apply gst|(apply gsv;rfl;(first|apply qmv|apply qas|apply qni)<;>first|rfl|(apply dct;first|assumption|omega)))
 refine gcf rfl ?_
 repeat apply gst
 refine CG.tail mixed 9 [0,1,2,3,4,5,6,7,8] (by kernel_rfl) ?_
 repeat (apply gdv;rfl;rfl;(first|apply qmv|apply qlc|apply qla|apply qfa|apply qnc)<;>first|rfl|assumption|exact List.not_mem_nil|apply ah)
 refine Der.tl (fun w5 hk5 _ _=>?_)
 have hs5:=hs4.kp0 hk5
 refine SG.call rfl rfl rfl (vs:=[.pointer (some ⟨bk,0,none⟩),dv x.t.frm,dv mk,.int .i64 x.t.fee]) (Evs.of rfl) ((iq hs5.book (hb4.zA ht) x.t.frm mk x.t.fee).mono (fun e w6 hh=>?_))
 obtain⟨he,hB6',hk6⟩:=hh
 have eu:mvE (usM m x.t.frm x.t.non) x.t.frm x.t.fee=gl f x.t:=by rw[ep,←hb4.eq];unfold mvE mvz;rfl
 rw[eu] at he
 refine⟨_,he,?_⟩
 clear he q r0 q0 q1 q2 q3 q4 q5 r2
 have hs6:fS w6 T ps bs bk bm tb (mvM (usM m x.t.frm x.t.non) x.t.frm mk x.t.fee) t v:=hs5.ze hk6 hB6'
 have ho6:=a8 (aI ho4 hk5) hk6 hO4
 have k6:Kp (bs::bm::aU v) w w6:=(k4.trans hk5.any).trans (hk6.mono (fun z hz=>by rw[List.mem_singleton] at hz;rw[hz];simp))
 have hb6:BkI tot (n+4) (mvM (usM m x.t.frm x.t.non) x.t.frm mk x.t.fee) (lf f mk x.t):=hb.pay mk x.t
 by_cases hz2:gl f x.t=0
 rotate_left
 ·have e0:mvM (usM m x.t.frm x.t.non) x.t.frm mk x.t.fee=usM m x.t.frm x.t.non:=by unfold mvM;rw[if_neg (fun g=>hz2 (eu.symm.trans g.1))]
  have e1:dof f mk x.t=usf f x.t.frm x.t.non:=by unfold dof;rw[if_neg hz2]
  have e2:dot t f h mk x.t=t:=by unfold dot;rw[if_neg hz2]
  have e3:doa es f mk x.t=es:=by unfold doa;rw[if_neg hz2]
  rw[e0] at hs6
  repeat (first|apply gst|(apply gsv;rfl;(first|apply qmv|apply qas|apply qni)<;>first|rfl|(apply dcf;first|assumption|omega)))
  refine gct rfl ?_
  repeat (first|apply gst|(apply gsv;rfl;(first|apply qmv|apply qas)<;>rfl))
  refine aN (Or.inl rfl) Tryz.results73 (aw.tmp rfl) ?_
  exact⟨bk,bm,tb,v,_,rfl,by rw[e2];exact hs6,by rw[e1];exact hb4.mono (by omega),by rw[e3];exact ho6,k6,Or.inl rfl,fun _ hg=>Or.inl hg⟩
 have e1:dof f mk x.t=uf (lf f mk x.t) x.t:=by unfold dof;rw[if_pos hz2]
 have e2:dot t f h mk x.t=rm t (lf f mk x.t) h x.t:=by unfold dot;rw[if_pos hz2]
 have e3:doa es f mk x.t=es++[oJ (lf f mk x.t) x.t]:=by unfold doa;rw[if_pos hz2]
 have hx6:x.In n0 w6:=(((hx.kp0 k3).kpO hk4 (hs3.book.map.Bv hn0)).kp0 hk5).kpO hk6 (hs5.book.map.Bv hn0)
 have hB7:=(hB7.kp0 hk5).kp hk6 (nm1 (by have:=hk1.size;omega))
 have q:=(aG hB7).1
 obtain⟨-,-,r2⟩:=dA hs6.blk
 rw[hz2]
 repeat (first|apply gst|(apply gsv;rfl;(first|apply qmv|apply qas|apply qni)<;>first|rfl|(apply dct;first|assumption|omega)))
 refine gcf rfl ?_
 repeat apply gst
 have s6:=k6.size
 have hSl:∀z∈bs::bm::aU v,z<w6.heap.size:=fun z hz=>by
  rcases List.mem_cons.1 hz with rfl|hz
  ·exact hs6.blk.lt
  rcases List.mem_cons.1 hz with rfl|hz
  ·exact hs6.book.map.lt
  ·exact cm ho6 z (aC hz)
 have nb7:b7∉bs::bm::aU v:=fun hm=>by
  rcases List.mem_cons.1 hm with e|hm
  ·have:=hs.blk.lt;have:=hk1.size;omega
  rcases List.mem_cons.1 hm with e|hm
  ·have:=hk1.size;omega
  ·have:=cm ho b7 (aC hm);have:=hk1.size;omega
 refine CG.BN mixed 11 [0,1,2,3,4,5,6,7,8,9,10] [8,9,10] (bs::bm::aU v) (fun w=>Row w bs 2 [v]) (fun w=>(fS w T ps bs bk bm tb (mvM (usM m x.t.frm x.t.non) x.t.frm mk x.t.fee) t v∧x.In n0 w)∧w.ownsRow base 36 1 v es.length (flt ziL es)) (by kernel_rfl) r2 (fun _ _ hk h=>h.kp0 hk) ⟨⟨hs6,hx6⟩,ho6⟩ (fun _ _ hk h=>⟨⟨h.1.1.kp0 hk,h.1.2.kp0 hk⟩,aI h.2 hk⟩) ?_
 clear r2
 iterate 4 (refine Der.val rfl rfl rfl (by first|((first|apply qmv|apply qfa|apply qnc)<;>(exact rfl))|fail) ?_)
 refine Der.val rfl rfl rfl (qlF rfl (fun _ hF=>hF)) ?_
 iterate 2 (refine Der.val rfl rfl rfl (by first|(apply qmv<;>(exact rfl))|fail) ?_)
 refine Der.val rfl rfl rfl (qla rfl q nb7 (aj _)) ?_
 refine Der.AZ (vs:=[.pointer (some ⟨bs,0,none⟩),.int .i64 h,txv x]) (X:=Nat×Nat×Nat×Bk) (fun _=> .int .i64 (oJ (lf f mk x.t) x.t)) (fun q _=>BkI tot (n+6) q.2.2.2 (uf (lf f mk x.t) x.t)∧(q.2.1=bm∨w.heap.size≤q.2.1)) (fun q W=>fS W T ps bs q.1 q.2.1 q.2.2.1 q.2.2.2 (rm t (lf f mk x.t) h x.t) v∧W.ownsRow base 36 1 v es.length (flt ziL es)) rfl rfl rfl rfl (Evs.of rfl) (fun _ _ _ _ h=>h) (fun _ _ _ hk h=>⟨h.1.kp0 hk,aI h.2 hk⟩) (fun W hk hF hR=>?_) (fun q=>?_)
 ·refine(wN hR.1.1 hb6 ht hR.1.2 h htn).mono (fun e W' hh=>?_)
  obtain⟨bk',bm',tb',m',he,hs',hb',hk',hc⟩:=hh
  have hbW:=hR.1.1.blk
  exact⟨(bk',bm',tb',m'),he,⟨(dA hs'.blk).2.2,hb',hc.elim Or.inl (fun g=>Or.inr (Nat.le_trans s6 (Nat.le_trans hk.size g)))⟩,⟨hs',a8 hR.2 hk' (fun g hg=>nm2 (fun e=>by subst e;exact(bQ hR.2 hT hbW g hg) (List.mem_singleton.2 rfl)) (fun e=>by subst e;exact ia hR.2 hR.1.1.book.map g hg (List.mem_singleton.2 rfl)))⟩,hk'.mono (fun z hz=>by rcases List.mem_cons.1 hz with rfl|hz;simp;rw[List.mem_singleton] at hz;rw[hz];simp)⟩
 obtain⟨bk',bm',tb',m'⟩:=q
 refine Der.A2 (cs:= #[.int .i64 (oJ (lf f mk x.t) x.t)]) (E:=36) rfl rfl rfl rfl rfl (fun W=>Jl _ W) (fun W W' hk h=>⟨h.1.kp0 hk,h.2⟩) (fun _ _ hk h=>⟨h.1.kp0 hk,aI h.2 hk⟩) (fun bn=>?_)
 apply Der.wP (P:=Tryz.prog) (t:=114) (base:=base) (e:=36) (i:=Tryz.t36) (f:=ty.i36) (v:=v) (nn:=es.length) (xs:=flt ziL es) (b:=bn) (off:=0) (m:=1) (c:=1) (news:=[.int .i64 (oJ (lf f mk x.t) x.t)])
 iterate 4 exact rfl
 iterate 2 exact ag rfl
 iterate 3 exact rfl
 ·exact fun W hk hF=>Row.all hF.2.2 rfl
 ·exact rfl
 ·exact rfl
 ·simp only[maxLen];omega
 ·show(es.length+1)*8≤_;omega
 ·omega
 ·exact fun _ h=>by simp[h]
 ·exact fun W W' hoW hk hR hF=>⟨⟨(dA (hR.kpO hoW hT hk).blk).2.2,hF.1.2⟩,hF.2.1,hF.2.2.kp hk (fun hm=>by have:=cm ho6 _ (aC hm);omega)⟩
 ·exact fun W W' hk h=>h.kp0 hk
 ·exact fun W W' hoW hk hR=>hR.kpO hoW hT hk
 intro v7
 refine Der.tl (fun w7 hk7 hF hR=>?_)
 obtain⟨⟨⟨-,hb7',hc7⟩,hbn,hBn⟩,hv7⟩:=hF
 obtain⟨hs7,ho7⟩:=hR
 have eel:(es++[oJ (lf f mk x.t) x.t]).length=es.length+1:=by rw[List.length_append];rfl
 have ho7:w7.ownsRow base 36 1 v7 (es++[oJ (lf f mk x.t) x.t]).length (flt ziL (es++[oJ (lf f mk x.t) x.t])):=by
  rw[eel,cu,ij]
  exact ho7
 obtain⟨a7,c7,rfl⟩:=jr ho7
 repeat (apply gsv;rfl;(first|apply qfa|apply qnc)<;>rfl)
 refine SG.bH [.pointer (some ⟨bk',0,none⟩),.iface 74 (.pointer (some ⟨tb',0,none⟩))] [v] ps rfl rfl (ag rfl) (ag rfl) hs7.blk rfl rfl rfl rfl rfl (fun w8 hk8 hB8=>?_)
 have hs8:=hs7.kpb _ hk8 hB8 hT1 hT2
 repeat (first|apply gst|(apply gsv;rfl;apply qas<;>rfl))
 refine aN (Or.inl rfl) Tryz.results73 (aw.tmp rfl) ?_
 refine⟨bk',bm',tb',_,m',by rw[hz2],by rw[e2];exact hs8,by rw[e1];exact hb7',by rw[e3];exact a8 ho7 hk8 (bQ ho7 hT hs7.blk),(k6.trans hk7).trans (hk8.mono (fun z hz=>by rw[List.mem_singleton] at hz;rw[hz];simp)),hc7,fun g hg=>?_⟩
 rcases hv7 g hg with e|e
 ·exact Or.inl e
 ·exact Or.inr (by omega)
end
section
structure Bd where
 fork:Int
 leave:Int
 sleep:Int
def bdL(b:Bd):List Value:=[.int .i64 b.fork,.int .i64 b.leave,.int .i64 b.sleep]
structure Nm where
 bk:Nat
 bm:Nat
 tb:Nat
 f:Fb
 t:Tl
 ae:Option Addr
 ce:Nat
 es:List Int
 x:Bm
 an:Option Addr
 cn:Nat
def Nm.nms(q:Nm):List Dg:=q.x.xs.map (fun x=>aK x.t)
def ndc(q:Nm):List Value:=bhp q.bk q.tb (.slice q.ae q.es.length q.ce) (bkc q.x++[.slice q.an q.x.xs.length q.cn])
def ndN(q:Nm):Nat:=1000+400*q.x.ht.toNat
structure ri(w:World)(n:Nat)(A:List Nat)(tot:Int)(b:Nat)(q:Nm):Prop where
 blk:Blk w b (.cells (ndc q).toArray 118)
 book:∃m,bf w q.bk q.bm m∧BkI tot (ndN q) m q.f
 nA:q.bm∉A
 nb:n≤q.bm
 app:j9 w q.tb q.t
 ans:Sl ziL 1 w q.ae q.es
 anT:Tg 36 n w q.ae q.es
 x:q.x.In n w
 nam:Sl dc 8 w q.an q.nms
 naT:Tg 47 n w q.an q.nms
 el:q.es.length=q.x.xs.length
def IM:List TypeId:=[118,136,76,36,47,5]
def CT:List TypeId:=[200,214,216]
theorem Tm.In.cnd{n:Nat}{Ts:List TypeId}{A S:List Nat}{w w':World}{x:Tm}(h:x.In n w)(hk:Kp S w w')(hS:Cnd n Ts A w S)(hT:5∉Ts):x.In n w':=h.kpO hk (hS.not hT)
theorem Bm.In.uR{n:Nat}{Ts:List TypeId}{A S:List Nat}{w w':World}{x:Bm}(h:x.In n w)(hk:Kp S w w')(hS:Cnd n Ts A w S)(hT:5∉Ts)(hT2:52∉Ts):x.In n w':=
 ⟨⟨(h.tx.sl.kpT h.tx.tg hk (hS.not hT2)).1,(h.tx.sl.kpT h.tx.tg hk (hS.not hT2)).2,fun y hy=>(h.tx.ins y hy).cnd hk hS hT⟩,h.len⟩
theorem ri.kp{w w':World}{n:Nat}{Ts:List TypeId}{A A' S:List Nat}{tot:Int}{b:Nat}{q:Nm}(h:ri w n A tot b q)(hk:Kp S w w')(hS:Cnd n Ts A' w S)(hA:∀z∈A',z∈A)(hT:∀T∈IM,T∉Ts)(hx:q.x.In n w'):ri w' n A tot b q:=by
 obtain⟨m,hb,hi⟩:=h.book
 have t:∀{T:TypeId},T∈IM→NoT T n w S:=fun hm=>hS.not (hT _ hm)
 exact⟨hS.blk hk h.blk (hT _ (by decide)),⟨m,⟨hS.blk hk hb.blk (hT _ (by decide)),hS.yz hk hb.map (fun g=>h.nA (hA _ g))⟩,hi⟩,h.nA,h.nb,hS.blk hk h.app (hT _ (by decide)),(h.ans.kpT h.anT hk (t (by decide))).1,(h.ans.kpT h.anT hk (t (by decide))).2,hx,(h.nam.kpT h.naT hk (t (by decide))).1,(h.nam.kpT h.naT hk (t (by decide))).2,h.el⟩
theorem ri.kp0{w w':World}{n:Nat}{A:List Nat}{tot:Int}{b:Nat}{q:Nm}(h:ri w n A tot b q)(hk:Kp [] w w'):ri w' n A tot b q:=h.kp (Ts:=[]) (A':=[]) hk Cnd.nil (fun _ h=>by cases h) (fun _ _ h=>by cases h) (h.x.kp0 hk)
theorem dh{w:World}{b:Nat}{q:Nm}{T:TypeId}(h:Blk w b (.cells (ndc q).toArray T)):Row w b 0 (bhc q.bk q.tb (.slice q.ae q.es.length q.ce))∧Row w b 2 [.slice q.ae q.es.length q.ce]∧Row w b 3 (bkc q.x)∧Row w b 11 [.int .i64 q.x.ht]∧Row w b 20 [.slice q.x.a q.x.xs.length q.x.c]∧Row w b 21 [.slice q.an q.x.xs.length q.cn]∧Row w b 0 [.pointer (some ⟨q.bk,0,none⟩)]∧Row w b 1 [.iface 74 (.pointer (some ⟨q.tb,0,none⟩))]:=by
 have e:ndc q=bhc q.bk q.tb (.slice q.ae q.es.length q.ce)++(bkc q.x++[.slice q.an q.x.xs.length q.cn]):=rfl
 have h1:=Row.of h [] (bkc q.x++[.slice q.an q.x.xs.length q.cn]) (by rw[e,List.nil_append]) rfl
 have h3:=Row.of h (bhc q.bk q.tb (.slice q.ae q.es.length q.ce)) [.slice q.an q.x.xs.length q.cn] (l:=bkc q.x) (by rw[e]) rfl
 have h6:=Row.of h (bhc q.bk q.tb (.slice q.ae q.es.length q.ce)++bkc q.x) [] (l:=[.slice q.an q.x.xs.length q.cn]) (by rw[e,List.append_assoc,List.append_nil]) (by rw[List.length_append,aD])
 obtain⟨-,h4,-,h5⟩:=jO h3
 obtain⟨g0,g1,g2⟩:=dA h
 exact⟨h1,g2,h3,h4,h5,h6,g0,g1⟩
structure Cm where
 cb:Nat
 tb:Nat
 tm:Nat
 pb:Nat
 nm:Nat
 vb:Nat
 pv:Value
 bd:Bd
 first:Dg
 tr:Tr
 ps:List Em
 ns:List (Dg×Nat×Nm)
def chc(c:Cm):List Value:=bdL c.bd++(.iface 40 (.pointer (some ⟨c.vb,0,none⟩))::(dc c.first++[.pointer (some ⟨c.tb,0,none⟩),.pointer (some ⟨c.pb,0,none⟩),.map (some c.nm)]))
abbrev ndP(q:Nat×Nm):Value:= .pointer (some ⟨q.1,0,none⟩)
structure dw(w:World)(n:Nat)(A:List Nat)(tot:Int)(c:Cm):Prop where
 blk:Blk w c.cb (.cells (chc c).toArray 127)
 tree:bE w c.tb c.tm c.tr
 pool:Pl w n c.pb c.pv 256 c.ps
 map:av w c.nm (dv (n:=8)) ndP c.ns
 nd:∀p∈c.ns,ri w n A tot p.2.1 p.2.2
 tA:c.tm∈A
 nA:c.nm∈A
 ne:c.tm≠c.nm
 tn:n≤c.tm
 nn:n≤c.nm
 bn:n≤c.tb
 w0:n≤w.heap.size
theorem dw.kp0{w w':World}{n:Nat}{A:List Nat}{tot:Int}{c:Cm}(h:dw w n A tot c)(hk:Kp [] w w'):dw w' n A tot c:=
 ⟨h.blk.kp0 hk,h.tree.kp0 hk,h.pool.kp0 hk,h.map.kp0 hk,fun p hp=>(h.nd p hp).kp0 hk,h.tA,h.nA,h.ne,h.tn,h.nn,h.bn,Nat.le_trans h.w0 hk.size⟩
theorem bZ{w:World}{n:Nat}{A:List Nat}{tot:Int}{c:Cm}(h:dw w n A tot c):Row w c.cb 0 (bdL c.bd)∧Row w c.cb 0 [.int .i64 c.bd.fork]∧Row w c.cb 3 [.iface 40 (.pointer (some ⟨c.vb,0,none⟩))]∧Row w c.cb 4 (dc c.first)∧Row w c.cb 12 [.pointer (some ⟨c.tb,0,none⟩)]∧Row w c.cb 13 [.pointer (some ⟨c.pb,0,none⟩)]∧Row w c.cb 14 [.map (some c.nm)]:=by
 have h:=h.blk
 have l8:(dc c.first).length=8:=ah _
 refine⟨Row.of h [] (.iface 40 (.pointer (some ⟨c.vb,0,none⟩))::(dc c.first++[.pointer (some ⟨c.tb,0,none⟩),.pointer (some ⟨c.pb,0,none⟩),.map (some c.nm)])) rfl rfl,Row.of h [] (.int .i64 c.bd.leave:: .int .i64 c.bd.sleep:: .iface 40 (.pointer (some ⟨c.vb,0,none⟩))::(dc c.first++[.pointer (some ⟨c.tb,0,none⟩),.pointer (some ⟨c.pb,0,none⟩),.map (some c.nm)])) rfl rfl,Row.of h (bdL c.bd) (dc c.first++[.pointer (some ⟨c.tb,0,none⟩),.pointer (some ⟨c.pb,0,none⟩),.map (some c.nm)]) rfl rfl,Row.of h (bdL c.bd++[.iface 40 (.pointer (some ⟨c.vb,0,none⟩))]) [.pointer (some ⟨c.tb,0,none⟩),.pointer (some ⟨c.pb,0,none⟩),.map (some c.nm)] rfl rfl,?_,?_,?_⟩
 ·exact Row.of h (bdL c.bd++(.iface 40 (.pointer (some ⟨c.vb,0,none⟩))::dc c.first)) [.pointer (some ⟨c.pb,0,none⟩),.map (some c.nm)] (by simp[chc]) (by simp[bdL,l8])
 ·exact Row.of h (bdL c.bd++(.iface 40 (.pointer (some ⟨c.vb,0,none⟩))::(dc c.first++[.pointer (some ⟨c.tb,0,none⟩)]))) [.map (some c.nm)] (by simp[chc]) (by simp[bdL,l8])
 ·exact Row.of h (bdL c.bd++(.iface 40 (.pointer (some ⟨c.vb,0,none⟩))::(dc c.first++[.pointer (some ⟨c.tb,0,none⟩),.pointer (some ⟨c.pb,0,none⟩)]))) [] (by simp[chc]) (by simp[bdL,l8])
end
section
def bdv(b:Bd):Value:= .agg (bdL b).toArray
def bdA(b:Bd)(j:Nat):Int:=[b.fork,b.leave,b.sleep].getD j 0
def bdB(z:Int):Prop:=z<0∨1024<z
instance(z:Int):Decidable (bdB z):=by unfold bdB;infer_instance
def bdz(b:Bd):Int:=if bdB b.fork∨bdB b.leave∨bdB b.sleep then 2 else 0
theorem A9(b:Bd){j:Nat}(h:j<3):(bdL b)[j]?=some (.int .i64 (bdA b j)):=by
 match j,h with
 |0,_=>rfl
 |1,_=>rfl
 |2,_=>rfl
theorem zk{b:Bd}{j:Nat}(h:j<3)(hb:bdB (bdA b j)):bdz b=2:=by
 unfold bdz
 match j,h with
 |0,_=>exact if_pos (Or.inl hb)
 |1,_=>exact if_pos (Or.inr (Or.inl hb))
 |2,_=>exact if_pos (Or.inr (Or.inr hb))
theorem A8{b:Bd}(h:∀j,j<3→¬bdB (bdA b j)):bdz b=0:=if_neg (fun g=>by
 rcases g with g|g|g
 ·exact h 0 (by omega) g
 ·exact h 1 (by omega) g
 ·exact h 2 (by omega) g)
theorem Jz(b:Bd)(w:World):(Instr.build 165 #[(0,.int .i64 b.fork),(1,.int .i64 b.leave),(2,.int .i64 b.sleep)]).run Tryz.prog w= .ok (.agg (bdL b).toArray) w:=by kernel_rfl
attribute [local irreducible] CG NG SG aJ Der Row Blk av aA
theorem kF(b:Bd)(w:World):Ret Tryz.prog 35 #[bdv b] w (.int .i64 (bdz b)):=by
 refine aM Tryz.func35 rfl Tryz.ntmps35 rfl ?_
 repeat apply gst
 refine SG.box rfl rfl rfl (ag rfl) (fun b1 w1 hk1 hb1 hB1=>?_)
 have hB1:Blk w1 b1 (.cells (bdL b).toArray 31):=hB1
 have r0:Row w1 b1 0 [.int .i64 b.fork]:=Row.of hB1 [] [.int .i64 b.leave,.int .i64 b.sleep] rfl rfl
 have r1:Row w1 b1 1 [.int .i64 b.leave]:=Row.of hB1 [.int .i64 b.fork] [.int .i64 b.sleep] rfl rfl
 have r2:Row w1 b1 2 [.int .i64 b.sleep]:=Row.of hB1 [.int .i64 b.fork,.int .i64 b.leave] [] rfl rfl
 repeat (first|apply gst|(apply gsv;rfl;(first|apply qas|apply qlc|apply qfa)<;>first|rfl|assumption|exact List.not_mem_nil))
 refine SG.val rfl rfl rfl rfl (ar rfl (Jz b)) ?_
 repeat (first|apply gst|(apply gsv;rfl;apply qmv<;>rfl))
 refine CG.loop (X:=Nat) (fun q=>[(11,.agg (bdL b).toArray),(12,.int .i64 (q:Int))])
  (fun q w'=>q≤3∧w'=w1∧∀j,j<q→¬bdB (bdA b j)) (fun q=>3-q) 0 ⟨by omega,rfl,fun j h=>by omega⟩ (aW.of rfl) ?_
 rintro i w3 ⟨hi,rfl,hok⟩
 refine CG.to [(11,.agg (bdL b).toArray),(12,.int .i64 (i:Int))] (aW.of rfl) ?_
 clear r0 r1 r2
 by_cases hlt:i<3
 ·have g1:(i:Int)<3:=by omega
  have hat:=A9 b hlt
  repeat (first|apply gst|(apply gsv;rfl;apply qls<;>first|rfl|(apply dct;first|assumption|omega)))
  refine gct rfl ?_
  by_cases hz:bdB (bdA b i)
  ·have hbad:=zk hlt hz
   unfold bdB at hz
   by_cases h1:bdA b i<0
   ·repeat (first|apply gst|(apply gsv;rfl;(first|apply qid|apply qmv|apply qas|apply qpk|apply qls)<;>first|rfl|(apply Ar.mk;omega)|assumption|(apply dct;first|assumption|omega))|refine SG.skip rfl rfl ?_)
    refine gct rfl ?_
    repeat (first|apply gst|(apply gsv;rfl;apply qas<;>rfl))
    refine aN (Or.inl rfl) Tryz.results35 (aw.tmp rfl) ?_
    exact⟨by rw[hbad],hk1⟩
   ·have h2:1024<bdA b i:=by omega
    repeat (first|apply gst|(apply gsv;rfl;(first|apply qid|apply qmv|apply qas|apply qpk|apply qls|apply qgt)<;>first|rfl|(apply Ar.mk;omega)|assumption|(apply dct;first|assumption|omega)|(apply dcf;first|assumption|omega)))
    refine gct rfl ?_
    repeat (first|apply gst|(apply gsv;rfl;apply qas<;>rfl))
    refine aN (Or.inl rfl) Tryz.results35 (aw.tmp rfl) ?_
    exact⟨by rw[hbad],hk1⟩
  ·have h1:¬bdA b i<0:=fun h=>hz (Or.inl h)
   have h2:¬1024<bdA b i:=fun h=>hz (Or.inr h)
   repeat (first|apply gst|(apply gsv;rfl;(first|apply qid|apply qmv|apply qas|apply qpk|apply qls|apply qgt)<;>first|rfl|(apply Ar.mk;omega)|assumption|(apply dcf;first|assumption|omega)))
   refine gcf rfl ?_
   repeat (first|apply gst|(apply gsv;rfl;(first|apply qmv|apply qad)<;>first|rfl|(apply Ar.mk;omega)))
   refine NG.round (i+1) (aW.of rfl) ⟨by omega,rfl,fun j hj=>?_⟩ (by omega)
   by_cases e:j=i
   ·rw[e];exact hz
   ·exact hok j (by omega)
 ·have g1:¬(i:Int)<3:=by omega
  repeat (first|apply gst|(apply gsv;rfl;apply qls<;>first|rfl|(apply dcf;first|assumption|omega)))
  refine gcf rfl ?_
  repeat (first|apply gst|(apply gsv;rfl;apply qas<;>rfl))
  refine aN (Or.inl rfl) Tryz.results35 (aw.tmp rfl) ?_
  exact⟨by rw[A8 (fun j hj=>hok j (by omega))],hk1⟩
theorem kO{w:World}{n:Nat}{A:List Nat}{tot:Int}{c:Cm}(h:dw w n A tot c){q:Nat×Nm}(hq:au c.ns c.tr.tip=some q):Ret Tryz.prog 53 #[.pointer (some ⟨c.cb,0,none⟩)] w (ndP q):=by
 refine aM Tryz.func53 rfl Tryz.ntmps53 rfl ?_
 obtain⟨-,-,-,-,r3,-,r5⟩:=bZ h
 have hM:=h.map
 repeat (first|apply gst|(apply gsv;rfl;apply qas<;>rfl))
 refine CG.tail mixed 9 [0,1,2,3,4,5,6,7,8] (by kernel_rfl) ?_
 repeat (apply gdv;rfl;rfl;(first|apply qmv|apply qlc|apply qfa|apply qnc)<;>first|rfl|assumption|exact List.not_mem_nil)
 refine Der.call rfl rfl rfl (vs:=[.pointer (some ⟨c.tb,0,none⟩)]) (Evs.of rfl) (fun W hk _=>gr (h.tree.kp0 hk)) ?_
 refine Der.tl (fun w1 hk1 _ _=>?_)
 have hM:=hM.kp0 hk1
 repeat (first|apply gst|(apply gsv;rfl;(first|apply qas|apply qlv)<;>first|rfl|assumption|exact List.not_mem_nil|exact lk1 (by assumption)|fail))
 refine aN (Or.inl rfl) Tryz.results53 (aw.tmp rfl) ?_
 exact⟨rfl,hk1⟩
end
section
theorem wR{κ ν:Type}[DecidableEq κ]{m:List (κ×ν)}{k:κ}{v:ν}(h:au m k=some v):(k,v)∈m:=by
 induction m with
 |nil=>simp[au] at h
 |cons p m ih=>
  obtain⟨a,y⟩:=p
  unfold au at h
  by_cases e:a=k
  ·rw[if_pos e] at h
   simp only[Option.some.injEq] at h
   rw[e,h]
   exact List.mem_cons_self
  ·rw[if_neg e] at h
   exact List.mem_cons_of_mem _ (ih h)
theorem dw.ndA{w:World}{n:Nat}{A:List Nat}{tot:Int}{c:Cm}(h:dw w n A tot c){d:Dg}{q:Nat×Nm}(hq:au c.ns d=some q):ri w n A tot q.1 q.2:=h.nd _ (wR hq)
def ixZ(l:List Dg)(d:Dg):Int:=if l.findIdx (fun x=>decide (x=d))<l.length then(l.findIdx (fun x=>decide (x=d)):Int) else-1
theorem vX{l:List Dg}{d:Dg}(h:∀j (hj:j<l.length),l[j]≠d):ixZ l d= -1:=if_neg (fun g=>by
 have:=List.findIdx_getElem (w:=g)
 simp only[decide_eq_true_eq] at this
 exact h _ g this)
theorem AD{l:List Dg}{d:Dg}{i:Nat}(hi:i<l.length)(he:l[i]=d)(h:∀j (hj:j<i),l[j]≠d):ixZ l d=(i:Int):=by
 have:l.findIdx (fun x=>decide (x=d))=i:=(List.findIdx_eq hi).2 ⟨by simp[he],fun j hj=>by simp[h j hj]⟩
 unfold ixZ
 rw[this,if_pos hi]
attribute [local irreducible] CG NG SG aJ Der Row Blk av aA aK
theorem tS{w:World}{n:Nat}{A:List Nat}{tot:Int}{c:Cm}(h:dw w n A tot c){q:Nat×Nm}(hq:au c.ns c.tr.tip=some q):Calls Tryz.prog 30 #[.pointer (some ⟨c.cb,0,none⟩)] w (fun e w'=>∃y:Bm,y.b=q.2.x.b∧e= .returned (bkv y)∧y.In 0 w'∧Kp [] w w'):=by
 refine aM Tryz.func30 rfl Tryz.ntmps30 rfl ?_
 repeat apply gst
 refine SG.alloc rfl rfl rfl (fun b2 w1 hk1 hb2 hB2=>?_)
 repeat (first|apply gst|(apply gsv;rfl;(first|apply qep|apply qmv)<;>rfl))
 refine gcf rfl ?_
 repeat (first|apply gst|(apply gsv;rfl;apply qmv<;>rfl))
 refine SG.ret rfl rfl rfl (vs:=[.pointer (some ⟨c.cb,0,none⟩)]) (Evs.of rfl) (kO (h.kp0 hk1) hq) (fun w2 hk2=>?_)
 have k2:=hk1.trans hk2
 obtain⟨-,-,r,-⟩:=dh ((h.ndA hq).kp0 k2).blk
 repeat (apply gsv;rfl;(first|apply qla|apply qfa|apply qnc)<;>first|rfl|assumption|exact List.not_mem_nil|apply aD)
 refine SG.call rfl rfl rfl (vs:=[bkv q.2.x]) (Evs.of rfl) ((gH ((h.ndA hq).kp0 k2).x).mono (fun e w3 hh=>?_))
 obtain⟨y,hy,rfl,hY,hk3,-⟩:=hh
 refine⟨_,rfl,?_⟩
 refine SG.aB (l:=bkc y) rfl rfl (ag rfl) (ag rfl) ((hB2.kp0 hk2).kp0 hk3) (aD _) rfl (dD _) (fun w4 hk4 hB4=>?_)
 have hr:Row w4 b2 0 (bkc y):=Row.all hB4 rfl
 have hO:Oth 0 w3 [b2]:=xq ((hB2.kp0 hk2).kp0 hk3) (by decide)
 repeat apply gst
 refine aN (Or.inl rfl) Tryz.results30 (aw.agg rfl rfl hr (aD _)) ?_
 exact⟨y,hy,rfl,⟨hY.tx.kp hk4 hO (NoT.cons (Nat.zero_le _) (NoT.cells ((hB2.kp0 hk2).kp0 hk3) (by decide)) NoT.nil),hY.len⟩,(k2.trans hk3).ai hk4 (aV hb2)⟩
theorem oE{w:World}{n:Nat}{A:List Nat}{tot:Int}{c:Cm}(h:dw w n A tot c){q:Nat×Nm}(hq:au c.ns c.tr.tip=some q):Calls Tryz.prog 15 #[.pointer (some ⟨c.cb,0,none⟩)] w (fun e w'=>∃bt bm m,e= .returned (.pointer (some ⟨bt,0,none⟩))∧bf w' bt bm m∧BkI tot (ndN q.2) m q.2.f∧w.heap.size≤bt∧w.heap.size≤bm∧Kp [] w w'):=by
 refine aM Tryz.func15 rfl Tryz.ntmps15 rfl ?_
 repeat (first|apply gst|(apply gsv;rfl;(first|apply qep|apply qmv|apply qas)<;>rfl))
 refine gcf rfl ?_
 repeat (first|apply gst|(apply gsv;rfl;apply qmv<;>rfl))
 refine SG.ret rfl rfl rfl (vs:=[.pointer (some ⟨c.cb,0,none⟩)]) (Evs.of rfl) (kO h hq) (fun w1 hk1=>?_)
 have hN:=(h.ndA hq).kp0 hk1
 obtain⟨-,-,-,-,-,-,r,-⟩:=dh hN.blk
 obtain⟨m,hm,hi⟩:=hN.book
 repeat (apply gsv;rfl;(first|apply qlc|apply qfa|apply qnc)<;>first|rfl|assumption|exact List.not_mem_nil)
 refine SG.call rfl rfl rfl (vs:=[.pointer (some ⟨q.2.bk,0,none⟩)]) (Evs.of rfl) ((eQ hm).mono (fun e w3 hh=>?_))
 obtain⟨bt',bm',m',rfl,hB,hp,g1,g2,hk3⟩:=hh
 refine⟨_,rfl,?_⟩
 have s1:=hk1.size
 repeat (first|apply gst|(apply gsv;rfl;apply qas<;>rfl))
 refine aN (Or.inl rfl) Tryz.results15 (aw.tmp rfl) ?_
 exact⟨bt',bm',m',rfl,hB,hi.perm hp,by omega,by omega,hk1.trans hk3⟩
theorem qH{w:World}{a:Option Addr}{cc:Nat}{l:List Dg}(hS:Sl dc 8 w a l)(hl:l.length≤1000000)(d:Dg):Ret Tryz.prog 58 #[.slice a l.length cc,dv d] w (.int .i64 (ixZ l d)):=by
 refine aT Tryz.func58 rfl Tryz.ntmps58 rfl ?_
 repeat apply gst
 refine SG.box rfl rfl rfl (ag rfl) (fun b3 w1 hk1 hb3 hB3=>?_)
 have hB3:Blk w1 b3 (.cells (dc d).toArray 47):=hB3
 have r3:Row w1 b3 0 (dc d):=Row.all hB3 rfl
 repeat (first|apply gst|(apply gsv;rfl;(first|apply qmv|apply qas|apply qln)<;>rfl))
 refine CG.loop (X:=Nat) (fun q=>[(0,.slice a l.length cc),(3,.pointer (some ⟨b3,0,none⟩)),(7,.int .i64 (l.length:Int)),(8,.int .i64 (q:Int))])
  (fun q w'=>q≤l.length∧Kp [] w1 w'∧∀j (hj:j<l.length),j<q→l[j]≠d) (fun q=>l.length-q) 0 ⟨Nat.zero_le _,Kp.refl _ _,fun j _ h=>by omega⟩ (aW.of rfl) ?_
 rintro i w3 ⟨hi,hk3,hok⟩
 refine CG.to [(0,.slice a l.length cc),(3,.pointer (some ⟨b3,0,none⟩)),(7,.int .i64 (l.length:Int)),(8,.int .i64 (i:Int))] (aW.of rfl) ?_
 have r3:=r3.kp0 hk3
 have k3:=hk1.trans hk3
 by_cases hlt:i<l.length
 ·have g1:(i:Int)<(l.length:Int):=by omega
  obtain⟨ba,off,rfl,hrow⟩:=(hS.kp0 k3).at hlt
  repeat (first|apply gst|(apply gsv;rfl;apply qls<;>first|rfl|(apply dct;first|assumption|omega)))
  refine gct rfl ?_
  by_cases he:l[i]=d
  ·have he':d=l[i]:=he.symm
   repeat (first|apply gst|(apply gsv;rfl;(first|apply qmv|apply qas)<;>rfl))
   refine CG.tail mixed 5 [0,1,2,3,4] (by kernel_rfl) ?_
   repeat (apply gdv;rfl;rfl;(first|apply qmv|apply qla|apply qix)<;>first|rfl|(apply Ar.mk;omega)|assumption|exact List.not_mem_nil|apply ah)
   refine Der.tl (fun w4 hk4 _ _=>?_)
   repeat (first|apply gst|(apply gsv;rfl;apply qed<;>first|rfl|(apply dct;first|assumption|omega)))
   refine gct rfl ?_
   repeat (first|apply gst|(apply gsv;rfl;(first|apply qmv|apply qas)<;>rfl))
   refine aN (Or.inl rfl) Tryz.results58 (aw.tmp rfl) ?_
   exact⟨by rw[AD hlt he (fun j hj=>hok j (by omega) hj)],k3.trans hk4⟩
  ·have he':¬d=l[i]:=fun e=>he e.symm
   repeat (first|apply gst|(apply gsv;rfl;(first|apply qmv|apply qas)<;>rfl))
   refine CG.tail mixed 5 [0,1,2,3,4] (by kernel_rfl) ?_
   repeat (apply gdv;rfl;rfl;(first|apply qmv|apply qla|apply qix)<;>first|rfl|(apply Ar.mk;omega)|assumption|exact List.not_mem_nil|apply ah)
   refine Der.tl (fun w4 hk4 _ _=>?_)
   repeat (first|apply gst|(apply gsv;rfl;apply qed<;>first|rfl|(apply dcf;first|assumption|omega)))
   refine gcf rfl ?_
   repeat (first|apply gst|(apply gsv;rfl;(first|apply qmv|apply qad)<;>first|rfl|(apply Ar.mk;omega)))
   refine NG.round (i+1) (aW.of rfl) ⟨hlt,hk3.trans hk4,fun j hj hlt'=>?_⟩ (by omega)
   by_cases e:j=i
   ·subst e;exact he
   ·exact hok j hj (by omega)
 ·have g1:¬(i:Int)<(l.length:Int):=by omega
  repeat (first|apply gst|(apply gsv;rfl;apply qls<;>first|rfl|(apply dcf;first|assumption|omega)))
  refine gcf rfl ?_
  repeat (first|apply gst|(apply gsv;rfl;apply qas<;>rfl))
  refine aN (Or.inl rfl) Tryz.results58 (aw.tmp rfl) ?_
  exact⟨by rw[vX (fun j hj=>hok j hj (by omega))],k3⟩
end
section
def iJ(ns:List (Dg×Nat×Nm))(d:Dg):List Dg→Option (Int×Int)
 |[]=>none
 |i::l=>match au ns i with
  |some q=>if 0≤ixZ q.2.nms d then some (q.2.x.ht,q.2.es.getD (ixZ q.2.nms d).toNat 0) else iJ ns d l
  |none=>iJ ns d l
def dnc(p:Int×Int):List Value:=[.int .i64 p.1,.int .i64 p.2]
theorem bdn(a b:Int)(w:World):(Instr.build 54 #[(0,.int .i64 a),(1,.int .i64 b)]).run Tryz.prog w= .ok (.agg (dnc (a,b)).toArray) w:=by kernel_rfl
theorem DE(w:World):(Instr.build 54 #[]).run Tryz.prog w= .ok (.agg (dnc (0,0)).toArray) w:=by kernel_rfl
theorem AB{l:List Dg}{d:Dg}(h:0≤ixZ l d):(ixZ l d).toNat<l.length∧ixZ l d=((ixZ l d).toNat:Int):=by
 unfold ixZ at*
 split at h
 ·rename_i g
  rw[if_pos g]
  exact⟨by simpa using g,rfl⟩
 ·omega
attribute [local irreducible] CG NG SG aJ Der Row Blk av aA aK ixZ
theorem qT{w:World}{n:Nat}{A:List Nat}{tot:Int}{c:Cm}(h:dw w n A tot c)(wf:c.tr.WF)(hl:(c.tr.line c.tr.tip).length≤100000)(hq:∀d∈c.tr.line c.tr.tip,∃q,au c.ns d=some q)(d:Dg):Ret Tryz.prog 17 #[.pointer (some ⟨c.cb,0,none⟩),dv d] w
  (match iJ c.ns d (c.tr.line c.tr.tip) with|some p=> .tuple #[.agg (dnc p).toArray,.bool true]|none=> .tuple #[.agg (dnc (0,0)).toArray,.bool false]):=by
 refine aT Tryz.func17 rfl Tryz.ntmps17 rfl ?_
 repeat apply gst
 refine SG.box rfl rfl rfl (ag rfl) (fun b3 w1 hk1 hb3 hB3=>?_)
 have hB3:Blk w1 b3 (.cells (dc d).toArray 47):=hB3
 have r3:Row w1 b3 0 (dc d):=Row.all hB3 rfl
 refine SG.alloc rfl rfl rfl (fun b4 w2 hk2 hb4 hB4=>?_)
 have k2:=hk1.trans hk2
 have r3:=r3.kp0 hk2
 have h2:=h.kp0 k2
 obtain⟨-,-,-,-,r5,-,r7⟩:=bZ h2
 repeat (first|apply gst|(apply gsv;rfl;(first|apply qep|apply qmv|apply qas)<;>rfl))
 refine gcf rfl ?_
 repeat apply gst
 refine CG.draw mixed [0,1,2,3,4,5,6,7,8,11,9,10] [9] [] [] (fun _=>True) (by kernel_rfl) (by simp) (by simp) trivial (fun _ _ _ _=>trivial) (Or.inl rfl) ?_
 repeat (apply gdv;rfl;rfl;(first|apply qmv|apply qlc|apply qfa|apply qnc)<;>first|rfl|assumption|exact List.not_mem_nil)
 refine Der.call rfl rfl rfl (vs:=[.pointer (some ⟨c.tb,0,none⟩)]) (Evs.of rfl) (fun W hk _=>gr (h2.tree.kp0 hk)) ?_
 repeat (apply gdv;rfl;rfl;apply qmv<;>rfl)
 refine Der.y8 (c.tr.line c.tr.tip) rfl rfl rfl rfl (vs:=[.pointer (some ⟨c.tb,0,none⟩),dv c.tr.tip]) (Evs.of rfl) BO (fun W hk _=>qG (h2.tree.kp0 hk) wf c.tr.tip) (fun a cc=>?_)
 repeat (apply gdv;rfl;rfl;apply qln<;>rfl)
 refine Der.fin (fun w3 hk3 hF _=>?_)
 obtain⟨-,hSF⟩:=hF
 have k3:=k2.trans hk3
 have hS:=hSF.sl
 clear r5 r7 hSF
 obtain⟨l,hle⟩:∃l,l=c.tr.line c.tr.tip:=⟨_,rfl⟩
 rw[←hle] at hl hq hS⊢
 repeat apply gst
 refine CG.loop (X:=Nat) (fun q=>[(0,.pointer (some ⟨c.cb,0,none⟩)),(3,.pointer (some ⟨b3,0,none⟩)),(4,.pointer (some ⟨b4,0,none⟩)),(22,.slice a l.length cc),(23,.int .i64 (l.length:Int)),(24,.int .i64 (q:Int))])
  (fun q w'=>q≤l.length∧Kp [] w2 w'∧Sl dc 8 w' a l∧iJ c.ns d l=iJ c.ns d (l.drop q)) (fun q=>l.length-q) 0 ⟨Nat.zero_le _,hk3,hS,rfl⟩ (by rw[hle];(repeat' (first|exact True.intro|exact rfl|refine And.intro ?_ ?_))) ?_
 rintro i w4 ⟨hi,k4,hS4,hok⟩
 refine CG.to [(0,.pointer (some ⟨c.cb,0,none⟩)),(3,.pointer (some ⟨b3,0,none⟩)),(4,.pointer (some ⟨b4,0,none⟩)),(22,.slice a l.length cc),(23,.int .i64 (l.length:Int)),(24,.int .i64 (i:Int))] (aW.of rfl) ?_
 have k24:=k2.trans k4
 have hB44:=hB4.kp0 k4
 by_cases hlt:i<l.length
 ·have g1:(i:Int)<(l.length:Int):=by omega
  obtain⟨ba,off,rfl,hrow⟩:=hS4.at hlt
  obtain⟨q,hqa⟩:=hq _ (List.getElem_mem hlt)
  rw[List.drop_eq_getElem_cons hlt] at hok
  have hok:iJ c.ns d l=if 0≤ixZ q.2.nms d then some (q.2.x.ht,q.2.es.getD (ixZ q.2.nms d).toNat 0) else iJ c.ns d (l.drop (i+1)):=by
   rw[hok]
   simp only[iJ,hqa]
  repeat (first|apply gst|(apply gsv;rfl;apply qls<;>first|rfl|(apply dct;first|assumption|omega)))
  refine gct rfl ?_
  repeat (first|apply gst|(apply gsv;rfl;(first|apply qla|apply qix)<;>first|rfl|(apply Ar.mk;omega)|assumption|exact List.not_mem_nil|apply ah))
  refine SG.alloc rfl rfl rfl (fun b5 w5 hk5 hb5 hB5=>?_)
  refine SG.aB (l:=dc l[i]) rfl rfl (ag rfl) (ag rfl) hB5 (ah _) rfl (aO _) (fun w6 hk6 hB6=>?_)
  have k46:=hk5.ai hk6 (aV hb5)
  have k6:=k24.trans k46
  have h6:=h.kp0 k6
  have r3:Row w6 b3 0 (dc d):=r3.kp0 (k4.trans k46)
  have q6:Row w6 b5 0 (dc l[i]):=Row.all hB6 rfl
  obtain⟨-,-,-,-,-,-,r7⟩:=bZ h6
  have hM:=h6.map
  clear hrow
  repeat apply gst
  refine CG.tail mixed 5 [0,1,2,3,4] (by kernel_rfl) ?_
  repeat (apply gdv;rfl;rfl;(first|apply qmv|apply qlc|apply qla|apply qfa|apply qnc)<;>first|rfl|assumption|exact List.not_mem_nil|apply ah)
  refine Der.tl (fun w7 hk7 _ _=>?_)
  have hM:=hM.kp0 hk7
  repeat (first|apply gst|(apply gsv;rfl;(first|apply qas|apply qlv)<;>first|rfl|assumption|exact List.not_mem_nil|exact lk1 (by assumption)|fail))
  have hN:=(h6.ndA hqa).kp0 hk7
  have r3:=r3.kp0 hk7
  obtain⟨-,t2,-,t4,-,t6,-⟩:=dh hN.blk
  clear r7 q6
  skip
  refine CG.tail mixed 5 [0,1,2,3,4] (by kernel_rfl) ?_
  repeat (apply gdv;rfl;rfl;(first|apply qmv|apply qlc|apply qla|apply qfa|apply qnc)<;>first|rfl|assumption|exact List.not_mem_nil|apply ah)
  refine Der.tl (fun w8 hk8 _ _=>?_)
  have hN8:=hN.kp0 hk8
  have k8:=(k46.trans hk7).trans hk8
  have enl:q.2.x.xs.length=q.2.nms.length:=(List.length_map _).symm
  have hll:=hN.x.len
  refine SG.ret rfl rfl rfl (vs:=[.slice q.2.an q.2.x.xs.length q.2.cn,dv d]) (Evs.of rfl) (by rw[enl];exact qH hN8.nam (by omega) d) (fun w9 hk9=>?_)
  have k9:=k8.trans hk9
  clear r3 t6
  by_cases h0:0≤ixZ q.2.nms d
  ·rw[if_pos h0] at hok
   rw[hok]
   obtain⟨j1,j2⟩:=AB h0
   generalize (ixZ q.2.nms d).toNat=j at*
   generalize ixZ q.2.nms d=z at*
   subst j2
   have hje:j<q.2.es.length:=by rw[hN.el];omega
   obtain⟨ba,oa,hae,hrow⟩:=(hN8.ans.kp0 hk9).at hje
   have hge:q.2.es.getD j 0=q.2.es[j]:=by simp[List.getD_eq_getElem?_getD,hje]
   rw[hge]
   rw[hae] at t2
   have t2:=(t2.kp0 hk8).kp0 hk9
   have t4:=(t4.kp0 hk8).kp0 hk9
   have hrow:Row w9 ba (oa+j*1) [.int .i64 q.2.es[j]]:=hrow
   repeat (first|apply gst|(apply gsv;rfl;(first|apply qmv|apply qas|apply qge)<;>first|rfl|(apply dct;first|assumption|omega)))
   refine gct rfl ?_
   repeat apply gst
   refine CG.tail mixed 13 [0,1,2,3,4,5,6,7,8,9,10,11,12] (by kernel_rfl) ?_
   repeat (apply gdv;rfl;rfl;(first|apply qmv|apply qlc|apply qfa|apply qnc|apply qix)<;>first|rfl|(apply Ar.mk;omega)|assumption|exact List.not_mem_nil)
   refine Der.tl (fun w10 hk10 _ _=>?_)
   refine SG.val rfl rfl rfl rfl (ar rfl (bdn q.2.x.ht q.2.es[j])) ?_
   refine SG.aB (l:=dnc (q.2.x.ht,q.2.es[j])) rfl rfl (ag rfl) (ag rfl) ((hB44.kp0 k9).kp0 hk10) rfl rfl rfl (fun w11 hk11 hB11=>?_)
   have hr:Row w11 b4 0 (dnc (q.2.x.ht,q.2.es[j])):=Row.all hB11 rfl
   clear t2 t4 hrow
   repeat (first|apply gst|(apply gsv;rfl;apply qas<;>rfl))
   refine dC (Or.inl rfl) Tryz.results17 (aw.agg rfl rfl hr rfl) (aw.tmp rfl) ?_
   exact⟨rfl,((k24.trans k9).trans hk10).ai hk11 (aV (by have:=hk1.size;omega))⟩
  ·rw[if_neg h0] at hok
   repeat (first|apply gst|(apply gsv;rfl;(first|apply qmv|apply qas|apply qge)<;>first|rfl|(apply dcf;first|assumption|omega)))
   refine gcf rfl ?_
   repeat (first|apply gst|(apply gsv;rfl;(first|apply qmv|apply qad)<;>first|rfl|(apply Ar.mk;omega)))
   refine NG.round (i+1) (aW.of rfl) ⟨hlt,k4.trans k9,hS4.kp0 k9,hok⟩ (by omega)
 ·have g1:¬(i:Int)<(l.length:Int):=by omega
  rw[List.drop_eq_nil_of_le (by omega)] at hok
  rw[hok]
  repeat (first|apply gst|(apply gsv;rfl;apply qls<;>first|rfl|(apply dcf;first|assumption|omega)))
  refine gcf rfl ?_
  repeat apply gst
  refine SG.val rfl rfl rfl rfl (ar rfl DE) ?_
  refine SG.aB (l:=dnc (0,0)) rfl rfl (ag rfl) (ag rfl) hB44 rfl rfl rfl (fun w5 hk5 hB5=>?_)
  have hr:Row w5 b4 0 (dnc (0,0)):=Row.all hB5 rfl
  repeat (first|apply gst|(apply gsv;rfl;apply qas<;>rfl))
  refine dC (Or.inl rfl) Tryz.results17 (aw.agg rfl rfl hr rfl) (aw.tmp rfl) ?_
  exact⟨rfl,k24.ai hk5 (aV (by have:=hk1.size;omega))⟩
end
section
theorem Cnd.cons{n:Nat}{Ts:List TypeId}{A:List Nat}{w:World}{b:Nat}{S:List Nat}(h:Cnd n Ts A w [b])(h':Cnd n Ts A w S):Cnd n Ts A w (b::S):=h.app h'
theorem dw.nodes{w w':World}{n:Nat}{A:List Nat}{tot:Int}{c:Cm}{S:List Nat}(h:dw w n A tot c)(hk:Kp S w w')(hS:Cnd n CT A w S):∀p∈c.ns,ri w' n A tot p.2.1 p.2.2:=fun p hp=>
 (h.nd p hp).kp hk hS (fun _ hz=>hz) (by decide) ((h.nd p hp).x.uR hk hS (by decide) (by decide))
theorem Pl.cnd{w:World}{n p:Nat}{v:Value}{room:Int}{ms:List Em}{A:List Nat}(h:Pl w n p v room ms):Cnd n CT A w (p::aU v):=(Cnd.cells h.bp h.blk (by decide)).cons (Cnd.own h.own (Nat.le_refl _) (by decide))
theorem Pl.CN{κ ν:Type}{enc:κ→Value}{V:ν→Value}{m:List (κ×ν)}{w:World}{n p b:Nat}{v:Value}{room:Int}{ms:List Em}(h:Pl w n p v room ms)(hm:av w b enc V m):b∉p::aU v:=fun hz=>by
 rcases List.mem_cons.1 hz with e|hz
 ·exact cE h.blk hm e
 ·exact ia h.own hm _ (aC hz) (List.mem_singleton.2 rfl)
theorem Pl.CO{w:World}{n p b:Nat}{v:Value}{room:Int}{ms:List Em}{cs:Array Value}{T:TypeId}(h:Pl w n p v room ms)(hB:Blk w b (.cells cs T))(h1:T≠214)(h2:T≠216):b∉p::aU v:=fun hz=>(h.noT (fun e=>h1 e.symm) (fun e=>h2 e.symm) _ hz).2 _ _ hB
theorem dw.zW{w w':World}{n:Nat}{A:List Nat}{tot:Int}{c:Cm}{pv':Value}{ps':List Em}(h:dw w n A tot c)(hk:Kp (c.pb::aU c.pv) w w')(hP:Pl w' n c.pb pv' 256 ps'):dw w' n A tot {c with pv:=pv',ps:=ps'}:=by
 have hS:Cnd n CT A w (c.pb::aU c.pv):=h.pool.cnd
 exact⟨h.blk.kp hk (h.pool.CO h.blk (by decide) (by decide)),h.tree.kp hk (h.pool.CO h.tree.blk (by decide) (by decide)) (h.pool.CN h.tree.map),hP,h.map.kp hk (h.pool.CN h.map),h.nodes hk hS,h.tA,h.nA,h.ne,h.tn,h.nn,h.bn,Nat.le_trans h.w0 hk.size⟩
theorem cZ{w:World}{base k sz n:Nat}{T:TypeId}{v:Value}{xs:List Value}{S:List Nat}(ho:w.ownsRow base T sz v k xs)(hS:NoT T n w S):∀g,v.ownBlock=some g→g∉S:=fun g hg hm=>by
 rcases ho.2 with⟨rfl,_⟩|⟨g',cap,cur,rfl,_,hb,_⟩
 ·cases hg
 ·simp only[Value.ownBlock,Option.some.injEq] at hg
  subst hg
  exact(hS _ hm).2 _ _ hb
def LM:List TypeId:=127::(CT++IM)
theorem dw.kpA{w w':World}{n:Nat}{A A':List Nat}{tot:Int}{c:Cm}{S:List Nat}{Ts:List TypeId}(h:dw w n A tot c)(hk:Kp S w w')(hS:Cnd n Ts A' w S)(hA:∀z∈A',z∈A∧z≠c.tm∧z≠c.nm)(hT:∀T∈LM,T∉Ts)(hx:∀p∈c.ns,p.2.2.x.In n w'):dw w' n A tot c:=by
 have t:∀{T:TypeId},T∈LM→NoT T n w S:=fun hm=>hS.not (hT _ hm)
 exact⟨hS.blk hk h.blk (hT _ (by decide)),⟨hS.blk hk h.tree.blk (hT _ (by decide)),hS.yz hk h.tree.map (fun g=>(hA _ g).2.1 rfl)⟩,h.pool.kp hk (hS.no h.pool.blk (hT _ (by decide))) (cZ h.pool.own (t (by decide))) (t (by decide)),hS.yz hk h.map (fun g=>(hA _ g).2.2 rfl),fun p hp=>(h.nd p hp).kp hk hS (fun z hz=>(hA z hz).1) (fun T hm=>hT T (List.mem_cons_of_mem _ (List.mem_append_right _ hm))) (hx p hp),h.tA,h.nA,h.ne,h.tn,h.nn,h.bn,Nat.le_trans h.w0 hk.size⟩
theorem dw.kpL{w w':World}{n:Nat}{A:List Nat}{tot:Int}{c:Cm}{S:List Nat}{Ts:List TypeId}(h:dw w n A tot c)(hk:Kp S w w')(hS:Cnd n Ts [] w S)(hT:∀T∈LM,T∉Ts)(hx:∀p∈c.ns,p.2.2.x.In n w'):dw w' n A tot c:=h.kpA hk hS (fun _ hz=>by cases hz) hT hx
open Classical in
noncomputable def nQ(nb:Nbk)(q:Nm)(ps:List En)(t:Tx):Int:=if gQ nb t≠0 then gQ nb t else if t.non<(q.f t.frm).nonce then 17 else fu 256 ps q.x.ht t
open Classical in
noncomputable def uV(nb:Nbk)(q:Nm)(ps:List En)(t:Tx):List En:=if nQ nb q ps t=0 then rn 256 ps q.x.ht t else ps
theorem CX{w:World}{L:Env}{d:Option Nat}{ty:TypeId}{pos:String}{af:Array Edge}{g:Option (Nat×Bool)}{S:List Nat}{F:World→Prop}{x:Operand}{k:Dg}{p:Pu}(hx:rho L x=acv (rf k p)):aJ Tryz.prog S w F L ⟨d,.field 59 x 2,ty,pos,af,g⟩ (.int .i64 p.nonce):=
 dd (dc k++[.int .i64 p.money]) [] hx rfl (by simp[acl,rf]) (by simp[ah])
attribute [local irreducible] CG NG SG aJ Der Row Blk av aA aK gQ fu rn
theorem nP{w:World}{n:Nat}{A:List Nat}{tot:Int}{c:Cm}(h:dw w n A tot c){base pm:Nat}{v:Value}{nb:Nbk}(hN:dQ w base c.vb pm v nb)(hI:eB 256 (c.ps.map Em.en)){x:Tm}(hx:x.In n w){q:Nat×Nm}(hq:au c.ns c.tr.tip=some q):
  Calls Tryz.prog 38 #[.pointer (some ⟨c.cb,0,none⟩),txv x] w (fun e w'=>e= .returned (.int .i64 (nQ nb q.2 (c.ps.map Em.en) x.t))∧∃pv' ps',dw w' n A tot {c with pv:=pv',ps:=ps'}∧ps'.map Em.en=uV nb q.2 (c.ps.map Em.en) x.t∧Kp (c.pb::aU c.pv) w w'∧∀g,pv'.ownBlock=some g→c.pv.ownBlock=some g∨w.heap.size≤g):=by
 refine aT Tryz.func38 rfl Tryz.ntmps38 rfl ?_
 have hno:∀{W:World} {z:Int},Kp [] w W→nQ nb q.2 (c.ps.map Em.en) x.t=z→z≠0→(Ending.returned (.int .i64 z)= .returned (.int .i64 (nQ nb q.2 (c.ps.map Em.en) x.t))∧∃pv' ps',dw W n A tot {c with pv:=pv',ps:=ps'}∧ps'.map Em.en=uV nb q.2 (c.ps.map Em.en) x.t∧Kp (c.pb::aU c.pv) w W∧∀g,pv'.ownBlock=some g→c.pv.ownBlock=some g∨w.heap.size≤g):=fun hk hz h0=>by
  refine⟨by rw[hz],c.pv,c.ps,h.kp0 hk,?_,hk.any,fun g hg=>Or.inl hg⟩
  unfold uV
  rw[hz,if_neg h0]
 repeat apply gst
 refine SG.box rfl rfl rfl (ag rfl) (fun b3 w1 hk1 hb3 hB3=>?_)
 have hB3:Blk w1 b3 (.cells (txc x).toArray 52):=hB3
 obtain⟨r,-⟩:=aG hB3
 obtain⟨-,-,t3,-⟩:=bZ (h.kp0 hk1)
 repeat (first|apply gst|(apply gsv;rfl;(first|apply qep|apply qmv|apply qas)<;>rfl))
 refine gcf rfl ?_
 repeat apply gst
 refine CG.tail mixed 5 [0,1,2,3,4] (by kernel_rfl) ?_
 repeat (apply gdv;rfl;rfl;(first|apply qmv|apply qlc|apply qla|apply qfa|apply qnc)<;>first|rfl|assumption|exact List.not_mem_nil|apply aj)
 refine Der.tl (fun w2 hk2 _ _=>?_)
 have k2:=hk1.trans hk2
 refine SG.ret rfl rfl rfl (vs:=[txv x,.iface 40 (.pointer (some ⟨c.vb,0,none⟩))]) (Evs.of rfl) (iy (hN.kp0 k2) (hx.kp0 k2)) (fun w3 hk3=>?_)
 have k3:=k2.trans hk3
 have hB3:=(hB3.kp0 hk2).kp0 hk3
 clear r t3
 by_cases hv:gQ nb x.t=0
 rotate_left
 ·have ez:nQ nb q.2 (c.ps.map Em.en) x.t=gQ nb x.t:=by unfold nQ;rw[if_pos hv]
  repeat (first|apply gst|(apply gsv;rfl;(first|apply qmv|apply qas|apply qni)<;>first|rfl|(apply dcf;first|assumption|omega)))
  refine gct rfl ?_
  repeat (first|apply gst|(apply gsv;rfl;(first|apply qmv|apply qas)<;>rfl))
  refine aN (Or.inl rfl) Tryz.results38 (aw.tmp rfl) ?_
  exact hno k3 ez hv
 rw[hv]
 repeat (first|apply gst|(apply gsv;rfl;(first|apply qmv|apply qas|apply qni)<;>first|rfl|(apply dct;first|assumption|omega)))
 refine gcf rfl ?_
 repeat (first|apply gst|(apply gsv;rfl;apply qmv<;>rfl))
 refine SG.ret rfl rfl rfl (vs:=[.pointer (some ⟨c.cb,0,none⟩)]) (Evs.of rfl) (kO (h.kp0 k3) hq) (fun w4 hk4=>?_)
 have k4:=k3.trans hk4
 have hB3:=hB3.kp0 hk4
 have hQ:=(h.ndA hq).kp0 k4
 obtain⟨m,hm,hi⟩:=hQ.book
 obtain⟨-,q0,q1,-⟩:=aG hB3
 obtain⟨-,-,-,-,-,-,t0,-⟩:=dh hQ.blk
 repeat (first|apply gst|(apply gsv;rfl;apply qas<;>rfl))
 have hbo:∀W,Kp [] w4 W→Ret Tryz.prog 19 #[.pointer (some ⟨q.2.bk,0,none⟩),dv x.t.frm] W (acv (rf x.t.frm (q.2.f x.t.frm))):=fun W hk=>by
  rw[←hi.eq]
  exact iY (hm.kp0 hk) x.t.frm
 by_cases hn:x.t.non<(q.2.f x.t.frm).nonce
 ·have ez:nQ nb q.2 (c.ps.map Em.en) x.t=17:=by unfold nQ;rw[if_neg (fun g=>g hv),if_pos hn]
  refine CG.tail mixed 11 [0,1,2,3,4,5,6,7,8,9,10] (by kernel_rfl) ?_
  repeat (apply gdv;rfl;rfl;(first|apply qmv|apply qlc|apply qla|apply qfa|apply qnc)<;>first|rfl|assumption|exact List.not_mem_nil|apply ah)
  refine Der.call rfl rfl rfl (vs:=[.pointer (some ⟨q.2.bk,0,none⟩),dv x.t.frm]) (Evs.of rfl) (fun W hk _=>hbo W hk) ?_
  refine Der.val rfl rfl rfl (CX rfl) ?_
  refine Der.tl (fun w5 hk5 _ _=>?_)
  repeat (first|apply gst|(apply gsv;rfl;apply qls<;>first|rfl|(apply dct;first|assumption|omega)))
  refine gct rfl ?_
  repeat (first|apply gst|(apply gsv;rfl;apply qas<;>rfl))
  refine aN (Or.inl rfl) Tryz.results38 (aw.tmp rfl) ?_
  exact hno (k4.trans hk5) ez (by decide)
 have ez:nQ nb q.2 (c.ps.map Em.en) x.t=fu 256 (c.ps.map Em.en) q.2.x.ht x.t:=by unfold nQ;rw[if_neg (fun g=>g hv),if_neg hn]
 refine CG.tail mixed 11 [0,1,2,3,4,5,6,7,8,9,10] (by kernel_rfl) ?_
 repeat (apply gdv;rfl;rfl;(first|apply qmv|apply qlc|apply qla|apply qfa|apply qnc)<;>first|rfl|assumption|exact List.not_mem_nil|apply ah)
 refine Der.call rfl rfl rfl (vs:=[.pointer (some ⟨q.2.bk,0,none⟩),dv x.t.frm]) (Evs.of rfl) (fun W hk _=>hbo W hk) ?_
 refine Der.val rfl rfl rfl (CX rfl) ?_
 refine Der.tl (fun w5 hk5 _ _=>?_)
 clear q0 q1 t0
 have k5:=k4.trans hk5
 repeat (first|apply gst|(apply gsv;rfl;apply qls<;>first|rfl|(apply dcf;first|assumption|omega)))
 refine gcf rfl ?_
 obtain⟨r,-⟩:=aG (hB3.kp0 hk5)
 obtain⟨-,-,-,t1,-⟩:=dh (hQ.kp0 hk5).blk
 obtain⟨-,-,-,-,-,t4,-⟩:=bZ (h.kp0 k5)
 repeat apply gst
 refine CG.tail mixed 10 [0,1,2,3,4,5,6,7,8,9] (by kernel_rfl) ?_
 repeat (apply gdv;rfl;rfl;(first|apply qmv|apply qlc|apply qla|apply qfa|apply qnc)<;>first|rfl|assumption|exact List.not_mem_nil|apply aj)
 refine Der.tl (fun w6 hk6 _ _=>?_)
 have k6:=k5.trans hk6
 refine SG.call rfl rfl rfl (vs:=[.pointer (some ⟨c.pb,0,none⟩),.int .i64 q.2.x.ht,txv x]) (Evs.of rfl) ((pH (h.kp0 k6).pool (hx.kp0 k6) hI (by omega)).mono (fun e w7 hh=>?_))
 obtain⟨rfl,pv',ps',hP',hps,hk7,hg⟩:=hh
 refine⟨_,rfl,?_⟩
 clear r t1 t4
 repeat (first|apply gst|(apply gsv;rfl;apply qas<;>rfl))
 refine aN (Or.inl rfl) Tryz.results38 (aw.tmp rfl) ?_
 refine⟨by rw[ez],pv',ps',(h.kp0 k6).zW hk7 hP',?_,k6.any.trans hk7,fun g hg'=>(hg g hg').elim Or.inl (fun e=>Or.inr (Nat.le_trans k6.size e))⟩
 rw[hps]
 unfold uV
 split
 ·rfl
 ·rename_i g
  unfold rn
  rw[if_neg (by rw[←ez];exact g)]
end
section
def jP(f:Fb)(t:Tx):Bool:=decide ((f t.frm).nonce=t.non)&&decide (t.fee≤(f t.frm).money)
def mkL(mk:Dg):Fb→List Tx→List Tx→List Tx
 |_,acc,[]=>acc
 |f,acc,x::l=>if 64≤acc.length then acc else if jP f x then mkL mk (dof f mk x) (if gl f x=0 then acc++[x] else acc) l else mkL mk f acc l
noncomputable def tkL(ps:List En)(ns:List Dg):List Tx:=(((sF ps).filter (fun e=> !exB (mw ps ns) e)).take 1024).map (·.t)
theorem zL(ps:List En)(ns:List Dg):(((sF ps).filter (fun e=> !exB (mw ps ns) e)).take (Int.toNat 1024)).map (·.t)=tkL ps ns:=rfl
theorem vI{mk:Dg}{f:Fb}{acc:List Tx}(h:64≤acc.length)(l:List Tx):mkL mk f acc l=acc:=by
 cases l with
 |nil=>rfl
 |cons x l=>exact if_pos h
theorem Ag{mk:Dg}{f:Fb}{acc l:List Tx}{x:Tx}(h:¬64≤acc.length)(hb:jP f x=false):mkL mk f acc (x::l)=mkL mk f acc l:=by
 show(if 64≤acc.length then acc else if jP f x then _ else mkL mk f acc l)=_
 rw[if_neg h,hb]
 rfl
theorem lp{mk:Dg}{f:Fb}{acc l:List Tx}{x:Tx}(h:¬64≤acc.length)(hb:jP f x=true):mkL mk f acc (x::l)=mkL mk (dof f mk x) (if gl f x=0 then acc++[x] else acc) l:=by
 show(if 64≤acc.length then acc else if jP f x then mkL mk (dof f mk x) (if gl f x=0 then acc++[x] else acc) l else _)=_
 rw[if_neg h,hb]
 rfl
theorem av.noT{κ ν:Type}{enc:κ→Value}{V:ν→Value}{m:List (κ×ν)}{w:World}{b:Nat}(h:av w b enc V m)(T:TypeId):∀cs f,w.heap[b]?≠some (.cells cs T f):=fun cs f e=>by
 obtain⟨es,c,hb⟩:=h.blk
 have:=hb.symm.trans e
 cases this
def bkp(p:Dg)(h:Int)(mk:Dg)(v:Value):List Value:=dc p++(.int .i64 h::(dc mk++[v]))
theorem pB{w:World}{b:Nat}{p mk:Dg}{h:Int}{v:Value}{T:TypeId}(hB:Blk w b (.cells (bkp p h mk v).toArray T)):Row w b 0 (bkp p h mk v)∧Row w b 8 [.int .i64 h]∧Row w b 17 [v]:=
 ⟨Row.all hB rfl,Row.of hB (dc p) (dc mk++[v]) (by simp[bkp]) (ah _),Row.of hB (dc p++(.int .i64 h::dc mk)) [] (by simp[bkp]) (by simp[ah])⟩
theorem Jq(w:World)(a0 a1 a2 a3 a4 a5 a6 a7 b0 b1 b2 b3 b4 b5 b6 b7:UInt8)(h:Int):(Instr.build 50 #[(0,.agg #[bv a0,bv a1,bv a2,bv a3,bv a4,bv a5,bv a6,bv a7]),(1,.int .i64 h),(2,.agg #[bv b0,bv b1,bv b2,bv b3,bv b4,bv b5,bv b6,bv b7])]).run Tryz.prog w=
  .ok (.agg #[bv a0,bv a1,bv a2,bv a3,bv a4,bv a5,bv a6,bv a7,.int .i64 h,bv b0,bv b1,bv b2,bv b3,bv b4,bv b5,bv b6,bv b7,.slice none 0 0]) w:=by kernel_rfl
theorem bmk(p mk:Dg)(h:Int)(w:World):(Instr.build 50 #[(0,dv p),(1,.int .i64 h),(2,dv mk)]).run Tryz.prog w= .ok (.agg (bkp p h mk (.slice none 0 0)).toArray) w:=by
 obtain⟨la,ha⟩:=p
 obtain⟨lb,hb⟩:=mk
 match la,ha,lb,hb with
 |[a0,a1,a2,a3,a4,a5,a6,a7],_,[b0,b1,b2,b3,b4,b5,b6,b7],_=>exact Jq w a0 a1 a2 a3 a4 a5 a6 a7 b0 b1 b2 b3 b4 b5 b6 b7 h
theorem A5(w:World):(Instr.build 50 #[]).run Tryz.prog w= .ok (bkv bm0) w:=by kernel_rfl
theorem A7(m:Bk)(t:Tx):zj m t=jP (bal m) t:=rfl
theorem yX(es:List Int)(f:Fb)(mk:Dg)(x:Tx):(doa es f mk x).length≤es.length+1:=by
 unfold doa
 split
 ·rw[List.length_append];exact Nat.le_refl _
 ·omega
theorem yW(t:Tl)(f:Fb)(h:Int)(mk:Dg)(x:Tx):(dot t f h mk x).n≤t.n+1:=by
 unfold dot
 split
 ·exact Ba _ _ _ _
 ·omega
theorem fO(p mk:Dg)(h:Int)(v:Value):(bkp p h mk v).length=18:=by simp[bkp,ah]
theorem oG(p mk:Dg)(h:Int)(v:Value)(hv:mB v=true):aS (bkp p h mk v)=true:=by simp[bkp,aS,dc,mB] at*;exact hv
attribute [local irreducible] CG NG SG aJ Der Row Blk av aA aK gQ dof gl jP sF
end
section
structure MkJ(wT:World)(b12 b13 bm0:Nat)(p mk:Dg)(ht:Int)(tot:Int)(N:Nat)(i:Nat)(xs:List Tm)(bk bm tb:Nat)(m:Bk)(f:Fb)(t:Tl)(va:Value)(es:List Int)(vt:Value)(acc:List Tm)(W:World):Prop where
 kp:Kp [b13,bm0,b12] wT W
 st:fS W 116 [] b13 bk bm tb m t va
 bm:bm=bm0∨wT.heap.size≤bm
 bi:BkI tot (N+6*i) m f
 tn:t.n≤N+i
 oa:W.ownsRow wT.heap.size 36 1 va es.length (flt ziL es)
 el:es.length≤i
 ot:W.ownsRow wT.heap.size 52 13 vt acc.length (flt txc acc)
 al:acc.length≤i
 sub:∀x∈acc,x∈xs
 blk:Blk W b12 (.cells (bkp p ht mk vt).toArray 50)
theorem MkJ.kp0{wT:World}{b12 b13 bm0:Nat}{p mk:Dg}{ht:Int}{tot:Int}{N i:Nat}{xs:List Tm}{bk bm tb:Nat}{m:Bk}{f:Fb}{t:Tl}{va:Value}{es:List Int}{vt:Value}{acc:List Tm}{W W':World}(J:MkJ wT b12 b13 bm0 p mk ht tot N i xs bk bm tb m f t va es vt acc W)(hk:Kp [] W W'):MkJ wT b12 b13 bm0 p mk ht tot N i xs bk bm tb m f t va es vt acc W':=
 ⟨J.kp.trans hk.any,J.st.kp0 hk,J.bm,J.bi,J.tn,aI J.oa hk,J.el,aI J.ot hk,J.al,J.sub,J.blk.kp0 hk⟩
theorem MkJ.next{wT:World}{b12 b13 bm0:Nat}{p mk:Dg}{ht:Int}{tot:Int}{N i:Nat}{xs:List Tm}{bk bm tb:Nat}{m:Bk}{f:Fb}{t:Tl}{va:Value}{es:List Int}{vt:Value}{acc:List Tm}{W W':World}(J:MkJ wT b12 b13 bm0 p mk ht tot N i xs bk bm tb m f t va es vt acc W)(hk:Kp [] W W'):MkJ wT b12 b13 bm0 p mk ht tot N (i+1) xs bk bm tb m f t va es vt acc W':=
 ⟨J.kp.trans hk.any,J.st.kp0 hk,J.bm,J.bi.mono (by omega),by have:=J.tn;omega,aI J.oa hk,by have:=J.el;omega,aI J.ot hk,by have:=J.al;omega,J.sub,J.blk.kp0 hk⟩
theorem MkJ.did{wT:World}{b12 b13 bm0:Nat}{p mk:Dg}{ht:Int}{tot:Int}{N i:Nat}{xs:List Tm}{bk bm tb:Nat}{m:Bk}{f:Fb}{t:Tl}{va:Value}{es:List Int}{vt:Value}{acc:List Tm}{W W':World}(J:MkJ wT b12 b13 bm0 p mk ht tot N i xs bk bm tb m f t va es vt acc W)(x:Tx){bk' bm' tb':Nat}{m':Bk}{va':Value}
  (hst:fS W' 116 [] b13 bk' bm' tb' m' (dot t f ht mk x) va') (hbi:BkI tot (N+6*i+6) m' (dof f mk x)) (hoa:W'.ownsRow wT.heap.size 36 1 va' (doa es f mk x).length (flt ziL (doa es f mk x))) (hk:Kp (b13::bm::aU va) W W') (hbm:bm'=bm∨W.heap.size≤bm'):MkJ wT b12 b13 bm0 p mk ht tot N (i+1) xs bk' bm' tb' m' (dof f mk x) (dot t f ht mk x) va' (doa es f mk x) vt acc W':=by
 have no:∀{T:TypeId},116≠T→36≠T→NoT T 0 W (b13::bm::aU va):=fun h1 h2=>NoT.cons (Nat.zero_le _) (NoT.cells J.st.blk h1) (NoT.cons (Nat.zero_le _) (J.st.book.map.noT _) (NoT.own J.oa (Nat.zero_le _) h2))
 refine⟨J.kp.st hk (fun z hz=>?_),hst,?_,hbi.mono (by omega),by have:=J.tn;have:=yW t f ht mk x;omega,hoa,by have:=J.el;have:=yX es f mk x;omega,a8 J.ot hk (cZ J.ot (no (by decide) (by decide))),by have:=J.al;omega,J.sub,J.blk.kp hk (fun hm=>(no (by decide) (by decide) b12 hm).2 _ _ J.blk)⟩
 ·rcases List.mem_cons.1 hz with rfl|hz
  ·exact Or.inl (by simp)
  rcases List.mem_cons.1 hz with rfl|hz
  ·exact J.bm.elim (fun e=>Or.inl (by simp[e])) Or.inr
  ·exact Or.inr (bF J.oa z (aC hz))
 ·rcases hbm with rfl|g
  ·exact J.bm
  ·exact Or.inr (Nat.le_trans J.kp.size g)
theorem MkJ.app{wT:World}{b12 b13 bm0:Nat}{p mk:Dg}{ht:Int}{tot:Int}{N i:Nat}{xs:List Tm}{bk bm tb:Nat}{m:Bk}{f:Fb}{t:Tl}{va:Value}{es:List Int}{vt vt':Value}{acc acc':List Tm}{W W':World}(J:MkJ wT b12 b13 bm0 p mk ht tot N i xs bk bm tb m f t va es vt acc W)(hk:Kp (b12::aU vt) W W')
  (ho:W'.ownsRow wT.heap.size 52 13 vt' acc'.length (flt txc acc')) (hl:acc'.length≤i) (hs:∀x∈acc',x∈xs) (hB:Blk W' b12 (.cells (bkp p ht mk vt').toArray 50)):MkJ wT b12 b13 bm0 p mk ht tot N i xs bk bm tb m f t va es vt' acc' W':=by
 have no:∀{T:TypeId},50≠T→52≠T→NoT T 0 W (b12::aU vt):=fun h1 h2=>NoT.cons (Nat.zero_le _) (NoT.cells J.blk h1) (NoT.own J.ot (Nat.zero_le _) h2)
 have nb:∀{T:TypeId} {b:Nat} {cs:Array Value},50≠T→52≠T→Blk W b (.cells cs T)→b∉b12::aU vt:=fun h1 h2 hb hm=>(no h1 h2 _ hm).2 _ _ hb
 refine⟨J.kp.st hk (fun z hz=>?_),⟨J.st.blk.kp hk (nb (by decide) (by decide) J.st.blk),⟨J.st.book.blk.kp hk (nb (by decide) (by decide) J.st.book.blk),J.st.book.map.kp hk (fun hm=>?_)⟩,J.st.app.kp hk (nb (by decide) (by decide) J.st.app)⟩,J.bm,J.bi,J.tn,a8 J.oa hk (cZ J.oa (no (by decide) (by decide))),J.el,ho,hl,hs,hB⟩
 ·rcases List.mem_cons.1 hz with rfl|hz
  ·exact Or.inl (by simp)
  ·exact Or.inr (bF J.ot z (aC hz))
 ·rcases List.mem_cons.1 hm with e|hm
  ·exact cE J.blk J.st.book.map e
  ·exact ia J.ot J.st.book.map _ (aC hm) (List.mem_singleton.2 rfl)
theorem zh(p mk:Dg)(h:Int)(v:Value):(bkp p h mk v).toArray.toList=(dc p++(.int .i64 h::dc mk))++([v]++[]):=by simp[bkp]
theorem wK(p mk:Dg)(h:Int)(v:Value):(dc p++(.int .i64 h::dc mk))++([v]++[])=bkp p h mk v:=by simp[bkp]
theorem zg(p mk:Dg)(h:Int):(dc p++(.int .i64 h::dc mk)).length=17:=by simp[ah]
attribute [local irreducible] CG NG SG aJ Der Row Blk av aA aK gQ dof dot doa gl jP sF tkL
theorem sQ{w:World}{n:Nat}{A:List Nat}{tot:Int}{c:Cm}(h:dw w n A tot c)(ht:tot≤1000000000)(hI:eB 256 (c.ps.map Em.en))(p mk:Dg){q:Nat×Nm}(hp:au c.ns p=some q)(hqh:0≤q.2.x.ht∧q.2.x.ht≤1000)(hqn:q.2.t.n≤100000){a0:Option Addr}{c0:Nat}{ls:List Dg}(hL:Sl dc 8 w a0 ls)(hll:ls.length≤10000000):
  Calls Tryz.prog 36 #[.pointer (some ⟨c.cb,0,none⟩),dv p,dv mk,.slice a0 ls.length c0] w (fun e w'=>∃y:Bm,e= .returned (.tuple #[bkv y,.int .i64 0])∧y.b=⟨p,q.2.x.ht+1,mk,mkL mk q.2.f [] (tkL (c.ps.map Em.en) ls)⟩∧y.In 0 w'∧(∀b off,y.a=some ⟨b,off,none⟩→w.heap.size≤b)∧Kp [] w w'):=by
 refine iG Tryz.func36 rfl Tryz.ntmps36 rfl ?_
 repeat apply gst
 refine SG.box rfl rfl rfl (ag rfl) (fun b5 w1 hk1 hb5 hB5=>?_)
 have hB5:Blk w1 b5 (.cells (dc p).toArray 47):=hB5
 refine SG.box rfl rfl rfl (ag rfl) (fun b6 w2 hk2 hb6 hB6=>?_)
 have hB6:Blk w2 b6 (.cells (dc mk).toArray 47):=hB6
 refine SG.alloc rfl rfl rfl (fun b8 w3 hk3 hb8 hB8=>?_)
 have k3:=(hk1.trans hk2).trans hk3
 have q5:Row w3 b5 0 (dc p):=Row.all ((hB5.kp0 hk2).kp0 hk3) rfl
 have h3:=h.kp0 k3
 obtain⟨-,-,-,-,-,-,r6⟩:=bZ h3
 have hM:=h3.map
 repeat (first|apply gst|(apply gsv;rfl;(first|apply qep|apply qmv|apply qas)<;>rfl))
 refine gcf rfl ?_
 repeat apply gst
 refine CG.fN mixed [0,1,2,3,4,5,6,7,8,9,10] [] (by kernel_rfl) ?_
 repeat (apply gdv;rfl;rfl;(first|apply qmv|apply qas|apply qlc|apply qla|apply qfa|apply qnc|apply qlk|apply qxt)<;>first|rfl|assumption|exact List.not_mem_nil|apply ah|exact lk1 (by assumption)|fail)
 refine Der.fin (fun w4 hk4 _ _=>?_)
 repeat (first|apply gst|(apply gsv;rfl;(first|apply qmv|apply qnt)<;>rfl))
 refine gcf rfl ?_
 have k4:=k3.trans hk4
 have hN4:=(h.ndA hp).kp0 k4
 have q5:=q5.kp0 hk4
 have q6:Row w4 b6 0 (dc mk):=Row.all ((hB6.kp0 hk3).kp0 hk4) rfl
 obtain⟨-,-,-,t11,-⟩:=dh hN4.blk
 clear hM r6
 repeat apply gst
 refine CG.iK mixed [0,1,2,3,4,5,6,7,8] [(9,10,12,.tmp 39)] (by kernel_rfl) (by kernel_rfl) ?_
 repeat (apply gdv;rfl;rfl;(first|apply qmv|apply qlc|apply qla|apply qfa|apply qnc|apply qad)<;>first|rfl|(apply Ar.mk;omega)|assumption|exact List.not_mem_nil|apply ah)
 refine Der.val rfl rfl rfl (ar rfl (bmk p mk (q.2.x.ht+1))) ?_
 refine Der.one (iN.of (by rfl) rfl rfl rfl (ag rfl) (by exact fO _ _ _ _) (by rfl) (by exact oG _ _ _ _ rfl)) (fun b12 w5 hk5 hb12 hB12=>?_)
 have hB12:Blk w5 b12 (.cells (bkp p (q.2.x.ht+1) mk (.slice none 0 0)).toArray 50):=hB12
 have k5:=k4.trans hk5
 have hN5:=(h.ndA hp).kp0 k5
 obtain⟨m,hm,hi⟩:=hN5.book
 obtain⟨t0,-⟩:=dh hN5.blk
 clear t11 q5 q6
 repeat (first|apply gst|(apply gsv;rfl;(first|apply qmv|apply qla|apply qfa|apply qnc)<;>first|rfl|assumption|exact List.not_mem_nil))
 refine SG.call rfl rfl rfl (vs:=[bhv q.2.bk q.2.tb (.slice q.2.ae q.2.es.length q.2.ce)]) (Evs.of rfl) ((mJ hm hN5.app).mono (fun e w6 hh=>?_))
 obtain⟨bk',bm',tb',m',rfl,hB',hpm,hT',g1,g2,g3,hk6⟩:=hh
 refine⟨_,rfl,?_⟩
 refine SG.alloc rfl rfl rfl (fun b13 w7 hk7 hb13 hB13=>?_)
 refine SG.aB (l:=bhc bk' tb' (.slice none 0 0)) rfl rfl (ag rfl) (ag rfl) hB13 rfl rfl rfl (fun w8 hk8 hB13=>?_)
 have k78:=hk7.ai hk8 (aV hb13)
 have k8:=(k5.trans hk6).trans k78
 obtain⟨-,-,-,-,-,r5,-⟩:=bZ (h.kp0 k8)
 clear t0
 repeat (first|apply gst|(apply gsv;rfl;(first|apply qmv|apply qlc|apply qfa|apply qnc)<;>first|rfl|assumption|exact List.not_mem_nil))
 refine SG.call rfl rfl rfl (vs:=[.pointer (some ⟨c.pb,0,none⟩),.int .i64 1024,.slice a0 ls.length c0]) (Evs.of rfl) ((qi (h.kp0 k8).pool hI (by omega) (most:=1024) (by unfold wo;omega) (hL.kp0 k8) hll).mono (fun e wT hh=>?_))
 obtain⟨vx,xs,rfl,hkT,hX,hxe⟩:=hh
 obtain⟨ax,cx,rfl,hcx,hS⟩:=hX.sl
 refine⟨_,rfl,?_⟩
 clear r5
 have s1:=hk1.size
 have s2:=hk2.size
 have s4:=k4.size
 have s5:=hk5.size
 have s6:=hk6.size
 have s78:=k78.size
 have sT:=hkT.size
 have l12:=hB12.lt
 have l6:=hB6.lt
 have l8:=hB8.lt
 have s3:=hk3.size
 have s44:=hk4.size
 have lm:=hB'.map.lt
 have l13:=hB13.lt
 have hBT:bf wT bk' bm' m':=(hB'.kp0 k78).kp0 hkT
 have hTT:=(hT'.kp0 k78).kp0 hkT
 have h13T:=hB13.kp0 hkT
 have h12T:=((hB12.kp0 hk6).kp0 k78).kp0 hkT
 have kT:=k8.trans hkT
 have hxl:xs.length≤256:=by
  have e1:=congrArg List.length hxe
  have e2:=hI.len
  rw[List.length_map,List.length_map,List.length_take] at e1
  have e3:=List.length_filter_le (fun e=> !exB (mw (c.ps.map Em.en) ls) e) (sF (c.ps.map Em.en))
  rw[n9] at e3
  omega
 have hxe:xs.map (·.t)=tkL (c.ps.map Em.en) ls:=hxe.trans (zL _ _)
 have hO:Oth 0 wT [b13,bm',b12]:=Oth.cons (Nat.zero_le _) (Oth.cells h13T (by decide)) (Oth.cons (Nat.zero_le _) (hBT.map.Bv (Nat.zero_le _) bm' (List.mem_singleton.2 rfl)).2 (Oth.cons (Nat.zero_le _) (Oth.cells h12T (by decide)) Oth.nil))
 have hax:∀b off,ax=some ⟨b,off,none⟩→b∉[b13,bm',b12]:=fun b off e hm=>by
  have:=fG hX.own b off e
  simp only[List.mem_cons,List.mem_nil_iff,or_false] at hm
  omega
 have n6:b6∉[b13,bm',b12]:=fun hm=>by
  simp only[List.mem_cons,List.mem_nil_iff,or_false] at hm
  omega
 have n8:b8∉[b13,bm',b12]:=fun hm=>by
  simp only[List.mem_cons,List.mem_nil_iff,or_false] at hm
  omega
 have hB6T:Blk wT b6 (.cells (dc mk).toArray 47):=((((hB6.kp0 hk3).kp0 hk4).kp0 hk5).kp0 hk6).kp0 (k78.trans hkT)
 have hB8T:=(((hB8.kp0 hk4).kp0 hk5).kp0 hk6).kp0 (k78.trans hkT)
 have hNT:=(h.ndA hp).kp0 kT
 have hb0:BkI tot (ndN q.2) m' q.2.f:=hi.perm hpm
 have hN0:ndN q.2≤500000:=by unfold ndN;omega
 have J0:MkJ wT b12 b13 bm' p mk (q.2.x.ht+1) tot (ndN q.2+100000) 0 xs bk' bm' tb' m' q.2.f q.2.t (.slice none 0 0) [] (.slice none 0 0) [] wT:=
  ⟨Kp.refl _ _,⟨h13T,hBT,hTT⟩,Or.inl rfl,hb0.mono (by omega),by omega,cC,Nat.zero_le _,cC,Nat.zero_le _,fun _ h=>(by cases h),h12T⟩
 have hlp:=k8.size
 generalize hN:ndN q.2+100000=N at*
 have hN1:N≤600000:=by omega
 have hXin:=hX.ins
 clear hB' hT' hB13 hB12 hB6 hB8
 repeat (first|apply gst|(apply gsv;rfl;(first|apply qmv|apply qln)<;>rfl))
 refine CG.loop (X:=Nat×(Nat×Nat×Nat×Bk)×(Fb×Tl×List Int)×(Value×Value)×List Tm) (fun z=>[(6,.pointer (some ⟨b6,0,none⟩)),(8,.pointer (some ⟨b8,0,none⟩)),(12,.pointer (some ⟨b12,0,none⟩)),(13,.pointer (some ⟨b13,0,none⟩)),(50,.slice ax xs.length cx),(51,.int .i64 (xs.length:Int)),(52,.int .i64 (z.1:Int))])
  (fun z W=>z.1≤xs.length∧MkJ wT b12 b13 bm' p mk (q.2.x.ht+1) tot N z.1 xs z.2.1.1 z.2.1.2.1 z.2.1.2.2.1 z.2.1.2.2.2 z.2.2.1.1 z.2.2.1.2.1 z.2.2.2.1.1 z.2.2.1.2.2 z.2.2.2.1.2 z.2.2.2.2 W∧mkL mk q.2.f [] (xs.map (·.t))=mkL mk z.2.2.1.1 (z.2.2.2.2.map (·.t)) ((xs.drop z.1).map (·.t)))
  (fun z=>xs.length-z.1) (0,(bk',bm',tb',m'),(q.2.f,q.2.t,[]),(.slice none 0 0,.slice none 0 0),[]) ⟨Nat.zero_le _,J0,rfl⟩ (aW.of rfl) ?_
 rintro⟨i,⟨bk,bm,tb,mm⟩,⟨f,t,es⟩,⟨va,vt⟩,acc⟩ W ⟨hi,J,hmk⟩
 simp only at hi J hmk
 refine CG.to [(6,.pointer (some ⟨b6,0,none⟩)),(8,.pointer (some ⟨b8,0,none⟩)),(12,.pointer (some ⟨b12,0,none⟩)),(13,.pointer (some ⟨b13,0,none⟩)),(50,.slice ax xs.length cx),(51,.int .i64 (xs.length:Int)),(52,.int .i64 (i:Int))] (aW.of rfl) ?_
 have sW:=J.kp.size
 have hSW:Sl txc 13 W ax xs:=hS.kp J.kp hax
 have hXW:∀x∈xs,x.In 0 W:=fun x hx=>(hXin x hx).kpO J.kp hO
 have hB6W:Blk W b6 (.cells (dc mk).toArray 47):=hB6T.kp J.kp n6
 have hB8W:=hB8T.kp J.kp n8
 obtain⟨at_,ct_,rfl⟩:=jr J.ot
 obtain⟨u0,u8,u17⟩:=pB J.blk
 have hal:=J.al
 have hend:∀{W':World} (hk':Kp [] W W') (hac:acc.map (·.t)=mkL mk q.2.f [] (tkL (c.ps.map Em.en) ls)) {W2:World} (hk2:Kp [b8] W' W2),∃y:Bm,(Ending.returned (.tuple #[.agg (bkp p (q.2.x.ht+1) mk (.slice at_ acc.length ct_)).toArray,.int .i64 0]):Ending)= .returned (.tuple #[bkv y,.int .i64 0])∧y.b=⟨p,q.2.x.ht+1,mk,mkL mk q.2.f [] (tkL (c.ps.map Em.en) ls)⟩∧y.In 0 W2∧(∀b off,y.a=some ⟨b,off,none⟩→w.heap.size≤b)∧Kp [] w W2:=by
  intro W' hk' hac W2 hk2
  have hB8':=hB8W.kp0 hk'
  have hO2:Oth 0 W' [b8]:=xq hB8' (by decide)
  have hI':rh W' 0 at_ acc:=⟨(Sl.own aj (aI J.ot hk') rfl).elim (fun a=>by
   rintro⟨c,e,-,hs⟩
   cases e
   exact hs),Or.inl (Ty.own (aI J.ot hk')),fun x hx=>(hXW x (J.sub x hx)).kp0 hk'⟩
  refine⟨⟨p,q.2.x.ht+1,mk,at_,ct_,acc⟩,rfl,by rw[←hac];rfl,⟨hI'.kp hk2 hO2 (NoT.cons (Nat.zero_le _) (NoT.cells hB8' (by decide)) NoT.nil),by show acc.length≤_;omega⟩,fun b off e=>?_,?_⟩
  ·have:=fG J.ot b off e
   omega
  ·refine((kT.ai J.kp (fun z hz=>?_)).trans hk').ai hk2 (aV (by omega))
   simp only[List.mem_cons,List.mem_nil_iff,or_false] at hz
   exact Or.inr (by omega)
 by_cases hlt:i<xs.length
 rotate_left
 ·have g1:¬(i:Int)<(xs.length:Int):=by omega
  have hac:acc.map (·.t)=mkL mk q.2.f [] (tkL (c.ps.map Em.en) ls):=by
   rw[←hxe,hmk,List.drop_eq_nil_of_le (by omega)]
   rfl
  repeat (first|apply gst|(apply gsv;rfl;apply qls<;>first|rfl|(apply dcf;first|assumption|omega)))
  refine gcf rfl ?_
  repeat (first|apply gst|(apply gsv;rfl;apply qla<;>first|rfl|assumption|exact List.not_mem_nil|apply fO))
  refine SG.aB (l:=bkp p (q.2.x.ht+1) mk (.slice at_ acc.length ct_)) rfl rfl (ag rfl) (ag rfl) hB8W (fO _ _ _ _) rfl (oG _ _ _ _ rfl) (fun W2 hk2 hB82=>?_)
  have hr:Row W2 b8 0 (bkp p (q.2.x.ht+1) mk (.slice at_ acc.length ct_)):=Row.all hB82 rfl
  repeat (first|apply gst|(apply gsv;rfl;apply qas<;>rfl))
  refine dC (Or.inl rfl) Tryz.results36 (aw.agg rfl rfl hr (fO _ _ _ _)) (aw.tmp rfl) ?_
  exact hend (Kp.refl _ _) hac hk2
 have g1:(i:Int)<(xs.length:Int):=by omega
 obtain⟨ba,off,rfl,hrow⟩:=hSW.at hlt
 rw[List.drop_eq_getElem_cons hlt,List.map_cons] at hmk
 repeat (first|apply gst|(apply gsv;rfl;apply qls<;>first|rfl|(apply dct;first|assumption|omega)))
 refine gct rfl ?_
 repeat (first|apply gst|(apply gsv;rfl;(first|apply qla|apply qix)<;>first|rfl|(apply Ar.mk;omega)|assumption|exact List.not_mem_nil|apply aj))
 refine SG.alloc rfl rfl rfl (fun b15 W1 hk1' hb15 hB15=>?_)
 refine SG.aB (l:=txc xs[i]) rfl rfl (ag rfl) (ag rfl) hB15 (aj _) rfl (bJ _) (fun W2 hk2' hB15=>?_)
 have kW2:=hk1'.ai hk2' (aV hb15)
 have u17:=u17.kp0 kW2
 clear hrow
 by_cases hfull:64≤acc.length
 ·have g2:(64:Int)≤(acc.length:Int):=by omega
  have hac:acc.map (·.t)=mkL mk q.2.f [] (tkL (c.ps.map Em.en) ls):=by
   rw[←hxe,hmk,vI (by rw[List.length_map];exact hfull)]
  have u0:=u0.kp0 kW2
  clear u8
  repeat (first|apply gst|(apply gsv;rfl;(first|apply qlc|apply qfa|apply qln|apply qge)<;>first|rfl|assumption|(apply dct;first|assumption|omega)|exact List.not_mem_nil))
  refine gct rfl ?_
  clear u17
  repeat (first|apply gst|refine NG.kC rfl ?_|(apply gsv;rfl;apply qla<;>first|rfl|assumption|exact List.not_mem_nil|apply fO))
  refine SG.aB (l:=bkp p (q.2.x.ht+1) mk (.slice at_ acc.length ct_)) rfl rfl (ag rfl) (ag rfl) (hB8W.kp0 kW2) (fO _ _ _ _) rfl (oG _ _ _ _ rfl) (fun W3 hk3' hB82=>?_)
  have hr:Row W3 b8 0 (bkp p (q.2.x.ht+1) mk (.slice at_ acc.length ct_)):=Row.all hB82 rfl
  repeat (first|apply gst|(apply gsv;rfl;apply qas<;>rfl))
  refine dC (Or.inl rfl) Tryz.results36 (aw.agg rfl rfl hr (fO _ _ _ _)) (aw.tmp rfl) ?_
  exact hend kW2 hac hk3'
 have g2:¬(64:Int)≤(acc.length:Int):=by omega
 have hfull':¬64≤(acc.map (·.t)).length:=by rw[List.length_map];exact hfull
 repeat (first|apply gst|(apply gsv;rfl;(first|apply qlc|apply qfa|apply qln|apply qge)<;>first|rfl|assumption|(apply dcf;first|assumption|omega)|exact List.not_mem_nil))
 refine gcf rfl ?_
 have q15:Row W2 b15 0 (txc xs[i]):=Row.all hB15 rfl
 have hst2:=J.st.kp0 kW2
 repeat (first|apply gst|(apply gsv;rfl;apply qla<;>first|rfl|assumption|exact List.not_mem_nil|apply aj))
 refine SG.ret rfl rfl rfl (vs:=[.pointer (some ⟨b13,0,none⟩),txv xs[i]]) (Evs.of rfl) (qX hst2.blk hst2.book xs[i]) (fun W3 hk3'=>?_)
 have kW3:=kW2.trans hk3'
 rw[A7,J.bi.eq]
 clear u17 u0
 cases hbr:jP f xs[i].t with
 |false=>
  clear u8 q15
  repeat (first|apply gst|(apply gsv;rfl;(first|apply qmv|apply qpk)<;>rfl)|refine SG.skip rfl rfl ?_)
  refine gcf rfl ?_
  repeat (first|apply gst|(apply gsv;rfl;(first|apply qmv|apply qad)<;>first|rfl|(apply Ar.mk;omega)))
  refine NG.round (i+1,(bk,bm,tb,mm),(f,t,es),(va,.slice at_ acc.length ct_),acc) (aW.of rfl) ⟨hlt,?_,?_⟩ (by simp only;omega)
  ·exact J.next kW3
  ·rw[hmk,Ag hfull' hbr]
 |true=>
  have u8:=u8.kp0 kW3
  have q15:=q15.kp0 hk3'
  have q6:Row W3 b6 0 (dc mk):=Row.all (hB6W.kp0 kW3) rfl
  have hst3:=J.st.kp0 kW3
  repeat (apply gsv;rfl;(first|apply qmv|apply qlc|apply qla|apply qfa)<;>first|rfl|assumption|exact List.not_mem_nil|apply ah|apply aj)
  refine SG.call rfl rfl rfl (vs:=[.pointer (some ⟨b13,0,none⟩),.int .i64 (q.2.x.ht+1),dv mk,txv xs[i]]) (Evs.of rfl) ((tO (n0:=0) hst3 J.bi ht (aI J.oa kW3) (Nat.le_trans sW kW3.size) (Nat.zero_le _) (by have:=J.el;omega) (by decide) (by decide) (by decide) ((hXW _ (List.getElem_mem hlt)).kp0 kW3) (q.2.x.ht+1) mk (by have:=J.tn;omega)).mono (fun e W4 hh=>?_))
  obtain⟨bk2,bm2,tb2,va2,m2,rfl,hst4,hbi4,hoa4,hk4',hbm4,hva4⟩:=hh
  refine⟨_,rfl,?_⟩
  have J3:=J.kp0 kW3
  have J4:=J3.did xs[i].t hst4 hbi4 hoa4 hk4' hbm4
  clear u8 q15 q6
  by_cases hz:gl f xs[i].t=0
  rotate_left
  ·repeat (first|apply gst|(apply gsv;rfl;(first|apply qpk|apply qei)<;>first|rfl|(apply dcf;first|assumption|omega)))
   refine gcf rfl ?_
   repeat (first|apply gst|(apply gsv;rfl;(first|apply qmv|apply qad)<;>first|rfl|(apply Ar.mk;omega)))
   refine NG.round (i+1,(bk2,bm2,tb2,m2),(dof f mk xs[i].t,dot t f (q.2.x.ht+1) mk xs[i].t,doa es f mk xs[i].t),(va2,.slice at_ acc.length ct_),acc) (aW.of rfl) ⟨hlt,J4,?_⟩ (by simp only;omega)
   rw[hmk,lp hfull' hbr,if_neg hz]
  ·rw[hz]
   have hB15:Blk W4 b15 (.cells (txc xs[i]).toArray 52):=(hB15.kp0 hk3').kp hk4' (fun hm=>by
    rcases List.mem_cons.1 hm with e|hm
    ·omega
    rcases List.mem_cons.1 hm with e|hm
    ·have:=hst3.book.map.lt;have:=J.st.book.map.lt;omega
    ·have:=cm J.oa b15 (aC hm);omega)
   have q15:Row W4 b15 0 (txc xs[i]):=Row.all hB15 rfl
   obtain⟨-,-,u17⟩:=pB J4.blk
   repeat (first|apply gst|(apply gsv;rfl;(first|apply qpk|apply qei)<;>first|rfl|(apply dct;first|assumption|omega)))
   refine gct rfl ?_
   repeat (first|apply gst|(apply gsv;rfl;(first|apply qlc|apply qla|apply qfa)<;>first|rfl|assumption|exact List.not_mem_nil|apply aj))
   refine SG.buildSlice rfl rfl rfl rfl (BB _) (fun b18 W5 hk5' hb18 hB18=>?_)
   have ho5:=aI J4.ot hk5'
   have sT4:=J4.kp.size
   have s5':=hk5'.size
   clear q15 u17
   refine SG.pE (enc:=txc) (xs:=acc) (ys:=[xs[i]]) (base:=wT.heap.size) rfl rfl rfl (ag rfl) (ag rfl) rfl rfl rfl rfl aj bJ ho5 (jk (enc:=txc) (sz:=13) (x:=xs[i]) aj hB18) (by simp only[maxLen,List.length_singleton];omega) (by show(acc.length+1)*80≤_;omega) (by omega) (fun v6 W6 hk6' ho6 hv6=>?_)
   obtain⟨a6,c6,rfl⟩:=jr ho6
   have hB12:=(J4.blk.kp0 hk5').kp hk6' (fun hm=>by have:=bF ho5 b12 (aC hm);omega)
   repeat (apply gsv;rfl;apply qfa<;>rfl)
   refine SG.bH (dc p++(.int .i64 (q.2.x.ht+1)::dc mk)) [.slice at_ acc.length ct_] [] rfl rfl (ag rfl) (ag rfl) hB12 (zh _ _ _ _) rfl rfl (zg _ _ _) rfl (fun W7 hk7' hB7=>?_)
   have hB7:Blk W7 b12 (.cells (bkp p (q.2.x.ht+1) mk (.slice a6 (acc++[xs[i]]).length c6)).toArray 50):=by
    have e:=wK p mk (q.2.x.ht+1) (.slice a6 (acc++[xs[i]]).length c6)
    rw[←e]
    exact hB7
   have hl1:(acc++[xs[i]]).length=acc.length+1:=by rw[List.length_append];rfl
   have J7:=(J4.kp0 hk5').app (vt':= .slice a6 (acc++[xs[i]]).length c6) (acc':=acc++[xs[i]]) ((hk6'.mono (fun z hz=>List.mem_cons_of_mem _ hz)).trans (hk7'.mono (fun z hz=>by rw[List.mem_singleton] at hz;rw[hz];exact List.mem_cons_self))) (a8 ho6 hk7' (bQ ho6 (by decide) hB12)) (by rw[hl1];omega) (fun x hx=>(List.mem_append.1 hx).elim (J.sub x) (fun e=>by rw[List.mem_singleton] at e;rw[e];exact List.getElem_mem hlt)) hB7
   repeat (first|apply gst|(apply gsv;rfl;(first|apply qmv|apply qad)<;>first|rfl|(apply Ar.mk;omega)))
   refine NG.round (i+1,(bk2,bm2,tb2,m2),(dof f mk xs[i].t,dot t f (q.2.x.ht+1) mk xs[i].t,doa es f mk xs[i].t),(va2,.slice a6 (acc++[xs[i]]).length c6),acc++[xs[i]]) (aW.of rfl) ⟨hlt,J7,?_⟩ (by simp only;omega)
   rw[hmk,lp hfull' hbr,if_pos hz,List.map_append]
   rfl
end
section
def Wf(F:Fence):Prop:=F=Fence.wide∨∃l,F=Fence.wide.inRound l
theorem Wf.wide:Wf Fence.wide:=Or.inl rfl
theorem Wf.round(l:Nat):Wf (Fence.wide.inRound l):=Or.inr ⟨l,rfl⟩
theorem Wf.fn{F:Fence}(h:Wf F)(f:FuncId):F.fn f:=by
 rcases h with rfl|⟨l,rfl⟩<;>exact trivial
theorem Wf.depth{F:Fence}(h:Wf F):¬F.depth.isSome=true:=by
 rcases h with rfl|⟨l,rfl⟩<;>exact fun h=>by cases h
theorem Wf.calls{F:Fence}(h:Wf F){n:Nat}{P:Program}{f:FuncId}{args:Array Value}{w:World}{R:Ending→World→Prop}(hc:Calls P f args w R):CallsIn F n P f args w R:=by
 rcases h with rfl|⟨l,rfl⟩
 ·exact callsIn_wide.2 hc
 ·exact(callsIn_wide (n:=n)).2 hc
theorem Wf.rows{F:Fence}(h:Wf F){n:Nat}{P:Program}{row:String}{args:Array Value}{w:World}{R:Value→World→Prop}(hc:Rows P row args w R):RowsIn F n P row args w R:=by
 have h1:RowsIn Fence.wide n P row args w R:=fun c cs _=>by
  obtain⟨v,w',r,s⟩:=hc c cs
  exact⟨v,w',r,stepsIn_wide.2 s⟩
 rcases h with rfl|⟨l,rfl⟩<;>exact h1
def dV:Op→Bool
 | .defer .. =>true
 |_=>false
theorem gp{o:Op}(h:dV o=false):∀c,o≠.defer c:=fun c e=>by
 rw[e] at h
 cases h
section
variable {P:Program} {n:Nat} {Q:Exit→Act→World→Prop} {L:Env} {w:World}
theorem lW{F:Fence}{m:Nat}(hF:Wf F)(hQ:¬LetsOut Q){ops:Array Oper}:∀{rest:List Oper} {a:Act} {w:World},rest.all (fun o=> !dV o.op)=true→wpList P ops Q rest a w→wpListIn F m P ops Q rest a w
 |[],a,w,_,h=>h
 |o::rest,a,w,hd,h=>by
  simp only[List.all_cons,Bool.and_eq_true,Bool.not_eq_true'] at hd
  obtain⟨hd1,hd2⟩:=hd
  have ih:∀{a:Act} {w:World},wpList P ops Q rest a w→wpListIn F m P ops Q rest a w:=fun h=>lW hF hQ hd2 h
  simp only[wpList] at h
  simp only[wpListIn]
  split
  ·rename_i hw
   rw[if_pos hw] at h
   rcases h with h|h
   ·refine⟨fun f _=>hF.fn f,?_⟩
    rw[Oper.semAt_eq _ _ _ (gp hd1)]
    unfold Oper.wp at h
    generalize (execOp a.eval o).run P w=r at*
    cases r with
    |ok x w'=>
     cases x<;>simp only[Oper.upon,Oper.uponIn] at h⊢<;>try exact h.elim
     case value v=>exact ih h
     case skip=>exact ih h
     case defer d=>exact ih h
     case enter f args=>exact⟨fun hh=>absurd hh hF.depth,hF.calls (Calls.mono h (fun e w'' hh=>by cases e<;>first|exact ih hh|exact hh))⟩
     case row row args=>exact⟨fun hh=>absurd hh hF.depth,hF.rows (Rows.mono h (fun v w'' hh=>ih hh))⟩
    |halt x w'=>cases x<;>exact h
   ·exact absurd h.2 hQ
  ·rename_i hw
   rw[if_neg hw] at h
   exact⟨fun f _=>hF.fn f,ih h⟩
def SY(P:Program)(n:Nat)(ops:List Oper)(Q:Exit→Act→World→Prop)(rest:List Oper)(L:Env)(w:World):Prop:=∀a,Fits n a L→wpListIn Fence.wide 0 P ops.toArray Q rest a w
theorem CG.ye{id:Nat}{ops:List Oper}(h:SY P n ops Q ops L w):CG P n (.region id ops.toArray false) Q L w:=fun a ha=>wpIn_wide.1 (wpIn_region_lit (h a ha))
theorem SY.nil{ops:List Oper}(h:NG n .normal Q L w):SY P n ops Q [] L w:=fun a ha=>h a ha
theorem SY.op{ops:List Oper}{o:Oper}{rest:List Oper}{R:Value→World→Prop}(hd:o.dst.all (fun d=>Nat.blt d n)=true)(hw:want ops L o=some true)(hk:o.op.operands.toList.all (known L)=true)
  (hr:∀a:Act,(∀x∈o.op.operands,rho L x=a.eval x)→∀K:Act→World→Prop,(∀v w',R v w'→K (a.put o.dst v) w')→o.wpIn Fence.wide 0 P a w K Q)
  (hn:∀v w',R v w'→SY P n ops Q rest (iM o.dst v L) w'):SY P n ops Q (o::rest) L w:=by
 intro a ha
 have hlk:∀t∈lks ops o,∀v,look L t=some v→a.tmps[t]?=some v:=fun t _ v hv=>ha.slot t v hv
 have hwn:=bG hlk hw
 simp only[wpListIn]
 rw[if_pos hwn]
 refine hr a (dp hlk hk) _ (fun v w' hR=>hn v w' hR _ ?_)
 cases hdd:o.dst with
 |none=>exact ha
 |some d=>
  rw[hdd] at hd
  exact ha.put d v (by simpa[Nat.blt_eq] using hd)
theorem SY.val{ops:List Oper}{rest:List Oper}{d:Nat}{op:Op}{ty:TypeId}{pos:String}{af:Array Edge}{g:Option (Nat×Bool)}{v:Value}
  (hd:Nat.blt d n=true) (hs:cF op=false) (hdf:dV op=false) (hw:want ops L ⟨some d,op,ty,pos,af,g⟩=some true) (hk:op.operands.toList.all (known L)=true) (hv:aJ P [] w (fun _=>True) L ⟨some d,op,ty,pos,af,g⟩ v)
  (hr:SY P n ops Q rest ((d,v)::L) w):SY P n ops Q (⟨some d,op,ty,pos,af,g⟩::rest) L w:=by
 refine SY.op (R:=fun v' w'=>v'=v∧w'=w) (by simpa using hd) hw hk (fun a he K hK=>?_) (fun v' w' h=>by obtain⟨rfl,rfl⟩:=h;exact hr)
 refine⟨fun f _=>trivial,?_⟩
 rw[Oper.semAt_eq _ _ _ (gp hdf),←execOp_congr ⟨some d,op,ty,pos,af,g⟩ (fun cs b e=>by simp only at e;rw[e] at hs;cases hs) he,hv w (Kp.refl _ _) trivial]
 exact hK _ _ ⟨rfl,rfl⟩
end
end
open Go.RowKit
section
section
variable {P:Program} {n:Nat} {Q:Exit→Act→World→Prop} {L:Env} {w:World}
theorem AH{f:FuncId}{fn:Func}{c:Code}{args:List Value}{R:Ending→World→Prop}(hf:P.funcs[f]?=some fn)(hb:fn.body=some c)(hn:fn.ntmps=n)(hm:Nat.ble args.length n=true)
  (h:CG P n c (bodyPostM Fence.wide 0 P fn R) (jS 0 args) w):Calls P f args.toArray w R:=by
 refine callsIn_wide.1 (callsIn_of_wp_marks (n:=0) hf hb trivial (wpIn_wide.2 (h _ ⟨fun t v hv=>?_,?_,rfl⟩)))
 ·have:=(fJ args 0 t v hv).2
  have hlt:t<args.toArray.size:=by
   have h2:=(List.getElem?_eq_some_iff.1 this).1
   simpa using h2
  simp only[Array.getElem?_append_left hlt]
  simpa using this
 ·have:=hm
  rw[Nat.ble_eq] at this
  simp[hn]
  omega
def qy(a:Act)(fn:FuncId)(ps:Array Tmp)(assign body:Code)(D:Nat)(st:LoopState)(pe:Option Code):Loop:={state:=st,pending:=pe,fn:=fn,tmps:=a.tmps,params:=ps,assign:=assign,body:=body,defers:=D}
theorem CG.rangeFunc{g:Operand}{ps:Array Tmp}{assign body:Code}{gf:FuncId}[F:Fnc P gf]{lb:Array Value}(hk:known L g=true)(hg:rho L g= .func (.func gf) #[] lb)
  (h:∀a,Fits n a L→∀(fn:FuncId) (rc:LoopState→Loop) (W1:World),rc=(fun st=>qy a fn ps assign body w.heap.size st none)→Kp [] w W1→W1.heap.size=w.heap.size+2→Blk W1 w.heap.size (.deferred (some []))→Blk W1 (w.heap.size+1) (.loop (rc .ready))→
   Calls P gf (#[.func (.yield (w.heap.size+1)) #[] #[]]++lb) W1 (fun e w3=>(∃v,e= .returned v)∧Blk w3 (w.heap.size+1) (.loop (rc .ready))∧
    Q .normal {a with defers:=[{target:= .collected w.heap.size,args:= #[]}]} (w3.putObj (w.heap.size+1) (.loop (rc .exhausted))))):CG P n (.rangeFunc g ps assign body) Q L w:=by
 intro a ha
 refine(wpIn_wide (n:=0)).1 (wpIn_rangeFunc (fun fn hfn=>?_))
 have hev:a.eval g= .func (.func gf) #[] lb:=by rw[ha.eval hk,hg]
 obtain⟨W1,hW1⟩:∃W1,(w.alloc (.deferred (some []))).alloc (.loop (qy a fn ps assign body w.heap.size .ready none))=W1:=⟨_,rfl⟩
 have hk1:Kp [] w W1:=by
  rw[←hW1]
  exact(Kp.push w (.deferred (some [])) rfl).trans (Kp.push (w.alloc (.deferred (some []))) (.loop (qy a fn ps assign body w.heap.size .ready none)) rfl)
 have hs1:W1.heap.size=w.heap.size+2:=by rw[←hW1];simp
 have hD1:Blk W1 w.heap.size (.deferred (some [])):=by
  rw[←hW1]
  exact(Below.heap_alloc _ _ _ (by simp)).trans (World.alloc_heap_new w _)
 have hL1:Blk W1 (w.heap.size+1) (.loop (qy a fn ps assign body w.heap.size .ready none)):=by
  rw[←hW1]
  have:=World.alloc_heap_new (w.alloc (.deferred (some []))) (.loop (qy a fn ps assign body w.heap.size .ready none))
  rwa [World.size_alloc] at this
 refine⟨w.heap.size+1,[{target:= .collected w.heap.size,args:= #[]}],W1,{target:= .fn (.func gf) lb,args:= #[.func (.yield (w.heap.size+1)) #[] #[]]},W1,gf,#[.func (.yield (w.heap.size+1)) #[] #[]]++lb,W1,?_,?_,fun f' hf'=>trivial,?_,fun hh=>absurd hh Wf.wide.depth,?_⟩
 ·rw[←hW1]
  exact run_enterLoop_outer _ _ _ _ _
 ·simp only[resolve,hev]
  simp[go_sem]
 ·simp[invoke,go_sem,F.run]
 ·have h0:a.defers=[]:=ha.defers
  rw[h0]
  refine callsIn_wide.2 ((h a ha fn _ W1 rfl hk1 hs1 hD1 hL1).mono (fun e w3 hh=>?_))
  obtain⟨⟨v,rfl⟩,hL3,hQ⟩:=hh
  exact⟨none,_,run_endLoop (P:=P) hL3 (by simp[qy]),hQ⟩
theorem NG.uT{K:Act→World→Prop}(h:∀a,Fits n a L→K a w):NG n .normal (Exit.then K Q) L w:=fun a ha=>h a ha
structure lU(n:Nat)(ds:List Deferred)(a:Act)(L:Env):Prop where
 fit:Fits n {a with defers:=[]} L
 defers:a.defers=ds
theorem lU.mark{a:Act}{ds:List Deferred}(h:Fits n a L):lU n ds {a with defers:=ds} L:=⟨⟨h.slot,h.size,rfl⟩,rfl⟩
def CD(P:Program)(n:Nat)(ds:List Deferred)(c:Code)(Q:Exit→Act→World→Prop)(L:Env)(w:World):Prop:=∀a,lU n ds a L→c.wp P Q a w
def SD(P:Program)(n:Nat)(ds:List Deferred)(ops:List Oper)(Q:Exit→Act→World→Prop)(rest:List Oper)(L:Env)(w:World):Prop:=∀a,lU n ds a L→wpList P ops.toArray Q rest a w
end
end
end Go.Proofs.YtpnjgjddabeapaaGreatDoor
