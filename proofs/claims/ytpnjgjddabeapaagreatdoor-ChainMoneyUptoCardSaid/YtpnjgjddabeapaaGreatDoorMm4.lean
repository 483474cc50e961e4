import Derived.Test.YtpnjgjddabeapaaGreatDoorMm3
namespace Go.Proofs.YtpnjgjddabeapaaGreatDoor
set_option linter.all false
set_option maxHeartbeats 400000000
section
open Go.Proofs
abbrev bcv(b:Bool):Value:= .bool b
def exB(L:List (Dg×Int))(e:En):Bool:=L.any (fun p=>decide (p.1=e.key∧p.2≤e.non))
theorem Ap{m L:List (Dg×Int)}{e:En}(h:qJ m L):exB L e=true↔∃n,ar m e.key=some n∧n≤e.non:=by
 rw[h e.key e.non]
 unfold exB
 rw[List.any_eq_true]
 constructor
 ·rintro⟨p,h1,h2⟩;exact⟨p,h1,of_decide_eq_true h2⟩
 ·rintro⟨p,h1,h2⟩;exact⟨p,h1,decide_eq_true h2⟩
def nh(l:List En)(ns:List Dg):List (Dg×Int):=(l.filter (fun e=>decide (aN e.t∈ns))).map zD
theorem tV{l:List En}{ns:List Dg}{i:Nat}(hi:i<l.length):nh (l.take (i+1)) ns=if aN l[i].t∈ns then nh (l.take i) ns++[zD l[i]] else nh (l.take i) ns:=by
 unfold nh
 rw[List.take_succ_eq_append_getElem hi,List.filter_append,List.map_append]
 by_cases g:aN l[i].t∈ns
 ·rw[if_pos g,List.filter_cons_of_pos (p:=fun e:En=>decide (aN e.t∈ns)) (decide_eq_true g)]
  rfl
 ·rw[if_neg g,List.filter_cons_of_neg (p:=fun e:En=>decide (aN e.t∈ns)) (by simpa using g)]
  simp
def gj(most:Int)(c:Nat):Int:=if most≤c then(if most≤0 then most else 0) else most-c
theorem zW(most:Int):gj most 0=most:=by unfold gj;split<;>(try split)<;>omega
theorem xB{most:Int}{c:Nat}:1≤gj most c↔(c:Int)<most:=by unfold gj;split<;>(try split)<;>omega
theorem rJ{most:Int}{c:Nat}:gj most (c+1)=if(c:Int)<most then gj most c-1 else gj most c:=by
 unfold gj
 split<;>split<;>(try split)<;>(try split)<;>omega
def kr(q:Nat→Bool)(pre:List Nat):Nat:=(pre.filter q).length
def lH(q:Nat→Bool)(most:Int)(pre:List Nat)(j:Nat):Bool:=q j&&decide ((kr q pre:Int)<most)
theorem qw(q:Nat→Bool)(pre:List Nat)(j:Nat):kr q (pre++[j])=if q j then kr q pre+1 else kr q pre:=by
 unfold kr
 rw[List.filter_append,List.length_append]
 by_cases h:q j=true
 ·rw[if_pos h,List.filter_cons_of_pos h];rfl
 ·rw[if_neg h,List.filter_cons_of_neg h];rfl
theorem kR(q:Nat→Bool)(most:Int):∀(l pre:List Nat),eB (lH q most) pre l=(l.filter q).take (most-(kr q pre:Int)).toNat
 |[],pre=>by simp[eB]
 |j::l,pre=>by
  simp only[eB]
  rw[kR q most l (pre++[j]),qw]
  by_cases h:q j=true
  ·rw[List.filter_cons_of_pos h,if_pos h]
   by_cases h2:(kr q pre:Int)<most
   ·have e:(most-(kr q pre:Int)).toNat=(most-((kr q pre+1:Nat):Int)).toNat+1:=by omega
    rw[if_pos (by unfold lH;rw[h,decide_eq_true h2];rfl),e,List.take_succ_cons]
   ·have e:(most-(kr q pre:Int)).toNat=0:=by omega
    have e2:(most-((kr q pre+1:Nat):Int)).toNat=0:=by omega
    rw[if_neg (by unfold lH;rw[decide_eq_false h2,Bool.and_false];decide),e,e2,List.take_zero,List.take_zero]
  ·rw[List.filter_cons_of_neg h,if_neg h,if_neg (by unfold lH;simp[h])]
attribute [local irreducible] CG NG SG aO Der Row Blk az aH aN aP
theorem qU{w:World}{b10 b15 bm:Nat}{m L:List (Dg×Int)}{z:Int}(e:Em)(h10:Row w b10 0 [.map (some bm)])(hm:az w bm (dv (n:=8)) zcv m)(hM:qJ m L)(h15:Blk w b15 (.cells #[.int .i64 z] 3))(hz:xN z):
  Calls Tryz.prog 125 #[ev e,.pointer (some ⟨b10,0,none⟩),.pointer (some ⟨b15,0,none⟩)] w (fun e' w'=>e'= .returned (.bool (!exB L e.en&&decide (1≤z)))∧Kp [b15] w w'∧Blk w' b15 (.cells #[.int .i64 (if !exB L e.en&&decide (1≤z) then z-1 else z)] 3)):=by
 refine eH (args:=[ev e,.pointer (some ⟨b10,0,none⟩),.pointer (some ⟨b15,0,none⟩)]) Tryz.func125 rfl Tryz.ntmps125 rfl ?_
 obtain⟨z1,z2⟩:=hz
 repeat apply gst
 refine SG.box rfl rfl rfl (ag rfl) (fun b1 w1 hk1 hb1 hB1=>?_)
 have hB1:Blk w1 b1 (.cells (ec e).toArray 216):=hB1
 obtain⟨-,q0,q1,-⟩:=dK (Row.all hB1 rfl)
 simp only[Nat.zero_add] at q1
 have h10:=h10.kp0 hk1
 have hm:=hm.kp0 hk1
 have h15:=h15.kp0 hk1
 have r15:Row w1 b15 0 [.int .i64 z]:=Row.all h15 rfl
 have hup:=Ap (e:=e.en) hM
 have fin:exB L e.en=false→∀{x:Int},1≤z→x=z-1→True:=fun _ _ _ _=>trivial
 by_cases hex:∃n,ar m e.x.t.frm=some n∧n≤e.x.t.non
 ·obtain⟨n,hl,g⟩:=hex
  have e1:exB L e.en=true:=hup.2 ⟨n,hl,g⟩
  have e2:(!exB L e.en&&decide (1≤z))=false:=by rw[e1];rfl
  rw[e2]
  by_cases gz:z<1
  ·repeat (first|apply gst|(apply gsv;rfl;(first|apply qmv|apply qas|apply qlc|apply qla|apply qfa|apply qpk|apply qls|apply qlk|apply qxt)<;>first|rfl|assumption|(apply dct;first|assumption|omega)|exact List.not_mem_nil|apply ah|exact lk1 (by assumption)|fail)|refine SG.skip rfl rfl ?_)
   refine gct rfl ?_
   repeat (first|apply gst|(apply gsv;rfl;apply qas<;>rfl))
   refine aS (Or.inl rfl) Tryz.results125 (aC.tmp rfl) ?_
   exact⟨rfl,hk1.any,h15⟩
  ·repeat (first|apply gst|(apply gsv;rfl;(first|apply qmv|apply qas|apply qlc|apply qla|apply qfa|apply qpk|apply qls|apply qge|apply qlk|apply qxt)<;>first|rfl|assumption|(apply dct;first|assumption|omega)|(apply dcf;first|assumption|omega)|exact List.not_mem_nil|apply ah|exact lk1 (by assumption)|fail))
   refine gct rfl ?_
   repeat (first|apply gst|(apply gsv;rfl;apply qas<;>rfl))
   refine aS (Or.inl rfl) Tryz.results125 (aC.tmp rfl) ?_
   exact⟨rfl,hk1.any,h15⟩
 ·have e1:exB L e.en=false:=by
   cases hb:exB L e.en with
   |false=>rfl
   |true=>exact absurd (hup.1 hb) hex
  by_cases gz:z<1
  ·have e2:(!exB L e.en&&decide (1≤z))=false:=by rw[decide_eq_false (by omega),Bool.and_false]
   rw[e2]
   cases hl:ar m e.x.t.frm with
   |none=>
    repeat (first|apply gst|(apply gsv;rfl;(first|apply qmv|apply qas|apply qlc|apply qla|apply qfa|apply qpk|apply qls|apply qlk|apply qxt)<;>first|rfl|assumption|(apply dct;first|assumption|omega)|exact List.not_mem_nil|apply ah|exact lk0 (by assumption)|fail)|refine SG.skip rfl rfl ?_)
    refine gct rfl ?_
    repeat (first|apply gst|(apply gsv;rfl;apply qas<;>rfl))
    refine aS (Or.inl rfl) Tryz.results125 (aC.tmp rfl) ?_
    exact⟨rfl,hk1.any,h15⟩
   |some n=>
    repeat (first|apply gst|(apply gsv;rfl;(first|apply qmv|apply qas|apply qlc|apply qla|apply qfa|apply qpk|apply qls|apply qlk|apply qxt)<;>first|rfl|assumption|(apply dct;first|assumption|omega)|exact List.not_mem_nil|apply ah|exact lk1 (by assumption)|fail)|refine SG.skip rfl rfl ?_)
    refine gct rfl ?_
    repeat (first|apply gst|(apply gsv;rfl;apply qas<;>rfl))
    refine aS (Or.inl rfl) Tryz.results125 (aC.tmp rfl) ?_
    exact⟨rfl,hk1.any,h15⟩
  ·have e2:(!exB L e.en&&decide (1≤z))=true:=by rw[e1,decide_eq_true (by omega)];rfl
   rw[e2]
   cases hl:ar m e.x.t.frm with
   |none=>
    repeat (first|apply gst|(apply gsv;rfl;(first|apply qmv|apply qas|apply qlc|apply qla|apply qfa|apply qpk|apply qls|apply qlk|apply qxt)<;>first|rfl|assumption|(apply dcf;first|assumption|omega)|exact List.not_mem_nil|apply ah|exact lk0 (by assumption)|fail)|refine SG.skip rfl rfl ?_)
    refine gcf rfl ?_
    repeat (first|apply gst|(apply gsv;rfl;(first|apply qlc|apply qsb)<;>first|rfl|(apply Ar.mk;omega)|assumption|exact List.not_mem_nil))
    refine SG.iq rfl rfl (ag rfl) (ag rfl) h15 rfl rfl (fun w2 hk2 hB2=>?_)
    repeat (first|apply gst|(apply gsv;rfl;apply qas<;>rfl))
    refine aS (Or.inl rfl) Tryz.results125 (aC.tmp rfl) ?_
    exact⟨rfl,hk1.any.trans hk2,hB2⟩
   |some n=>
    have g:¬n≤e.x.t.non:=fun g=>hex ⟨n,hl,g⟩
    repeat (first|apply gst|(apply gsv;rfl;(first|apply qmv|apply qas|apply qlc|apply qla|apply qfa|apply qpk|apply qls|apply qge|apply qlk|apply qxt)<;>first|rfl|assumption|(apply dcf;first|assumption|omega)|exact List.not_mem_nil|apply ah|exact lk1 (by assumption)|fail))
    refine gcf rfl ?_
    repeat (first|apply gst|(apply gsv;rfl;(first|apply qlc|apply qsb)<;>first|rfl|(apply Ar.mk;omega)|assumption|exact List.not_mem_nil))
    refine SG.iq rfl rfl (ag rfl) (ag rfl) h15 rfl rfl (fun w2 hk2 hB2=>?_)
    repeat (first|apply gst|(apply gsv;rfl;apply qas<;>rfl))
    refine aS (Or.inl rfl) Tryz.results125 (aC.tmp rfl) ?_
    exact⟨rfl,hk1.any.trans hk2,hB2⟩
theorem rj{w:World}{base p:Nat}{v:Value}{room:Int}{ms:List Em}(hP:Pl w base p v room ms)(hI:dY room (ms.map Em.en))(hr:room≤1024){most:Int}(hmost:xN most){a0:Option Addr}{c0:Nat}{ns:List Dg}(hN:Sl dc 8 w a0 ns)(hnl:ns.length≤10000000):
  Calls Tryz.prog 80 #[.pointer (some ⟨p,0,none⟩),.int .i64 most,.slice a0 ns.length c0] w (fun e w'=>∃v' xs,e= .returned v'∧Kp [] w w'∧mG w' w.heap.size v' xs∧xs.map (·.t)=(((nq (ms.map Em.en)).filter (fun e=> !exB (nh (ms.map Em.en) ns) e)).take most.toNat).map (·.t)):=by
 refine c9 Tryz.func80 rfl Tryz.ntmps80 rfl ?_
 have hll:ms.length≤1024:=by have:=hI.len;rw[List.length_map] at this;omega
 have hlp:=hP.blk.lt
 have hvp:∀b,v.ownBlock=some b→b<w.heap.size:=bR hP.own
 repeat (first|apply gst|(apply gsv;rfl;(first|apply qep|apply qmv|apply qas)<;>rfl))
 refine gcf rfl ?_
 repeat apply gst
 refine SG.makeMap (dv (n:=8)) bcv rfl rfl (fun bo w1 hk1 hbo hmo=>?_)
 have s1:=hk1.size
 have lto:=hmo.lt
 have hN1:=hN.kp0 hk1
 repeat (first|apply gst|(apply gsv;rfl;(first|apply qmv|apply qas|apply qln)<;>rfl))
 refine CG.loop (X:=Nat×List (Dg×Bool)) (fun x=>[(0,.pointer (some ⟨p,0,none⟩)),(1,.int .i64 most),(7,.map (some bo)),(19,.slice a0 ns.length c0),(20,.int .i64 (ns.length:Int)),(21,.int .i64 (x.1:Int))])
  (fun x w'=>x.1≤ns.length∧Kp [bo] w1 w'∧az w' bo (dv (n:=8)) bcv x.2∧∀d,ar x.2 d=if d∈ns.take x.1 then some true else none) (fun x=>ns.length-x.1) (0,[]) ⟨Nat.zero_le _,Kp.refl _ _,hmo,fun d=>(by simp;rfl)⟩ (aZ.of rfl) ?_
 rintro⟨i,mo⟩ w2 ⟨hi,hk2,hmo2,hout⟩
 simp only at hi hmo2 hout
 refine CG.to [(0,.pointer (some ⟨p,0,none⟩)),(1,.int .i64 most),(7,.map (some bo)),(19,.slice a0 ns.length c0),(20,.int .i64 (ns.length:Int)),(21,.int .i64 (i:Int))] (aZ.of rfl) ?_
 have k2:Kp [] w w2:=hk1.ai hk2 (bf (by omega))
 have s2:=k2.size
 by_cases hlt:i<ns.length
 ·have g1:(i:Int)<(ns.length:Int):=by omega
  have hN2:Sl dc 8 w2 a0 ns:=hN1.kpN hk2 (fun hn b off e=>nm1 (by have:=hN.ltN hn b off e;omega))
  obtain⟨g,o1,rfl,hri⟩:=hN2.at hlt
  repeat (first|apply gst|(apply gsv;rfl;apply qls<;>first|rfl|(apply dct;first|assumption|omega)))
  refine gct rfl ?_
  repeat (first|apply gst|(apply gsv;rfl;(first|apply qla|apply qix)<;>first|rfl|(apply Ar.mk;omega)|assumption|exact List.not_mem_nil|apply ah))
  refine SG.alloc rfl rfl rfl (fun b9 w3 hk3 hb9 hB9=>?_)
  refine SG.aG (l:=dc ns[i]) rfl rfl (ag rfl) (ag rfl) hB9 (ah _) rfl (aR _) (fun w4 hk4 hB9=>?_)
  have k24:Kp [] w2 w4:=hk3.ai hk4 (bf (by omega))
  have r9:Row w4 b9 0 (dc ns[i]):=Row.all hB9 rfl
  have hmo4:=hmo2.kp0 k24
  clear hri
  repeat (first|apply gst|(apply gsv;rfl;(first|apply qmv|apply qla)<;>first|rfl|assumption|exact List.not_mem_nil|apply ah))
  refine SG.mapUpdate (enc:=dv (n:=8)) (V:=bcv) (kx:=ns[i]) (vy:=true) rfl rfl (ag rfl) (ag rfl) (ag rfl) hmo4 ku.key (fun w5 hk5 hm5=>?_)
  repeat (first|apply gst|(apply gsv;rfl;(first|apply qmv|apply qad)<;>first|rfl|(apply Ar.mk;omega)))
  refine NG.round (i+1,cy mo ns[i] true) (aZ.of rfl) ⟨by simp only;omega,(hk2.trans k24.any).trans hk5,hm5,fun d=>?_⟩ (by simp only;omega)
  simp only
  rw[bu,hout d,List.take_succ_eq_append_getElem hlt]
  by_cases e:ns[i]=d
  ·rw[if_pos e,if_pos (by simp[e])]
  ·rw[if_neg e]
   have:d∈ns.take i++[ns[i]]↔d∈ns.take i:=by
    rw[List.mem_append,List.mem_singleton]
    exact⟨fun h=>h.elim id (fun h=>absurd h.symm e),Or.inl⟩
   by_cases h2:d∈ns.take i
   ·rw[if_pos h2,if_pos (this.2 h2)]
   ·rw[if_neg h2,if_neg (fun h=>h2 (this.1 h))]
 have g1:¬(i:Int)<(ns.length:Int):=by omega
 rw[List.take_of_length_le (by omega)] at hout
 repeat (first|apply gst|(apply gsv;rfl;apply qls<;>first|rfl|(apply dcf;first|assumption|omega)))
 refine gcf rfl ?_
 repeat apply gst
 refine SG.makeMap (dv (n:=8)) zcv rfl rfl (fun bm w3 hk3 hbm hm=>?_)
 refine SG.alloc rfl rfl rfl (fun b7 w4 hk4 hb7 hB7=>?_)
 have s3:=hk3.size
 have s23:=hk2.size
 have ltm:=hm.lt
 have hm:=hm.kp0 hk4
 refine SG.iq rfl rfl (ag rfl) (ag rfl) hB7 rfl rfl (fun w5 hk5 hB7=>?_)
 have k25:Kp [] w2 w5:=(hk3.trans hk4).ai hk5 (bf (by omega))
 have hm5:az w5 bm (dv (n:=8)) zcv []:=hm.kp hk5 (nm1 (by omega))
 have hmo5:=hmo2.kp0 k25
 have r7:Row w5 b7 0 [.map (some bm)]:=Row.all hB7 rfl
 have lt7:=hB7.lt
 have k5:=k2.trans k25
 have hP5:=hP.kp0 k5
 obtain⟨a,c,rfl,hc,hS⟩:=hP5.sl
 obtain⟨-,q1⟩:=hP5.rows
 have s5:=k5.size
 have lto2:=hmo2.lt
 clear hB7 hm g1
 repeat (first|apply gst|(apply gsv;rfl;(first|apply qmv|apply qlc|apply qfa|apply qnc|apply qln)<;>first|rfl|assumption|exact List.not_mem_nil))
 refine CG.loop (X:=Nat×List (Dg×Int)) (fun x=>[(0,.pointer (some ⟨p,0,none⟩)),(1,.int .i64 most),(7,.map (some bo)),(10,.pointer (some ⟨b7,0,none⟩)),(32,.slice a ms.length c),(33,.int .i64 (ms.length:Int)),(34,.int .i64 (x.1:Int))])
  (fun x w'=>x.1≤ms.length∧Kp [bm] w5 w'∧az w' bm (dv (n:=8)) zcv x.2∧qJ x.2 (nh ((ms.map Em.en).take x.1) ns)) (fun x=>ms.length-x.1) (0,[]) ⟨Nat.zero_le _,Kp.refl _ _,hm5,qJ.nil⟩ (aZ.of rfl) ?_
 clear q1
 rintro⟨i,m⟩ w6 ⟨hi,hk6,hm6,hM⟩
 simp only at hi hm6 hM
 refine CG.to [(0,.pointer (some ⟨p,0,none⟩)),(1,.int .i64 most),(7,.map (some bo)),(10,.pointer (some ⟨b7,0,none⟩)),(32,.slice a ms.length c),(33,.int .i64 (ms.length:Int)),(34,.int .i64 (i:Int))] (aZ.of rfl) ?_
 have k6:Kp [] w w6:=k5.ai hk6 (bf (by omega))
 have hP6:=hP.kp0 k6
 have r7':Row w6 b7 0 [.map (some bm)]:=r7.kp hk6 (nm1 (by omega))
 have hmo6:az w6 bo (dv (n:=8)) bcv mo:=hmo5.kp hk6 (nm1 (by omega))
 have s6:=hk6.size
 by_cases hlt:i<ms.length
 rotate_left
 ·have g1:¬(i:Int)<(ms.length:Int):=by omega
  rw[List.take_of_length_le (by rw[List.length_map];omega)] at hM
  clear hmo6
  repeat (first|apply gst|(apply gsv;rfl;apply qls<;>first|rfl|(apply dcf;first|assumption|omega)))
  refine gcf rfl ?_
  repeat (first|apply gst|(apply gsv;rfl;apply qmv<;>rfl))
  refine SG.alloc rfl rfl rfl (fun b15 w7 hk7 hb15 hB15=>?_)
  refine SG.iq rfl rfl (ag rfl) (ag rfl) hB15 rfl rfl (fun w8 hk8 hB15=>?_)
  have k68:Kp [] w6 w8:=hk7.ai hk8 (bf (by omega))
  have k8:=k6.trans k68
  have hP8:=hP.kp0 k8
  have r8:=r7'.kp0 k68
  have hm8:=hm6.kp0 k68
  have lt15:=hB15.lt
  have hltm:=hm6.lt
  have hbl:=hP.iH
  obtain⟨q,hq⟩:∃q:Nat→Bool,q=fun j=> !exB (nh (ms.map Em.en) ns) (enA (ms.map Em.en) j):=⟨_,rfl⟩
  repeat (first|apply gst|(apply gsv;rfl;apply qmv<;>rfl))
  refine SG.val rfl rfl rfl rfl (qmf (vs:=[.pointer (some ⟨b7,0,none⟩),.pointer (some ⟨b15,0,none⟩)]) rfl) ?_
  refine SG.call rfl rfl rfl (vs:=[.pointer (some ⟨p,0,none⟩),fnv 125 [.pointer (some ⟨b7,0,none⟩),.pointer (some ⟨b15,0,none⟩)]]) (Evs.of rfl) ((mW (Fn:=by infer_instance) (g:=lH q most) (S:=[b15]) hP8 hI hr (fun pre W=>Blk W b15 (.cells #[.int .i64 (gj most (kr q pre))] 3)∧∃T,(∀b∈T,w8.heap.size≤b)∧Kp (b15::T) w8 W)
   ⟨by
    have e:gj most (kr q [])=most:=zW most
    rw[e]
    exact hB15,[],fun b hb=>(by cases hb),Kp.refl _ _⟩
   (fun pre W W' T hT hk ⟨h1,T2,h2,h3⟩=>⟨h1.kp hk (fun hm=>by have:=hT _ hm;omega),T2++T,fun b hb=>(by rcases List.mem_append.1 hb with h|h;exact h2 b h;exact hT b h),(h3.mono (fun b hb=>by
    rcases List.mem_cons.1 hb with h|h
    ·exact List.mem_cons.2 (Or.inl h)
    ·exact List.mem_cons.2 (Or.inr (List.mem_append_left _ h)))).trans (hk.mono (fun b hb=>List.mem_cons.2 (Or.inr (List.mem_append_right _ hb))))⟩)
   (fun W hk=>hP8.kp hk (nm1 (by omega)) (fun b hb=>nm1 (by have:=hvp b hb;omega)) (Oth.cons (by omega) (Oth.cells hB15 (by decide)) Oth.nil))
   (fun b hb=>by rw[List.mem_singleton] at hb;rw[hb];exact lt15)
   (fun pre W hJ=>Oth.cons (Nat.zero_le _) (Oth.cells hJ.1 (by decide)) Oth.nil)
   (fun pre j hj W hsp hk ⟨h1,T,h2,h3⟩=>?_)).mono (fun e w9 hh=>?_))
  rotate_left
  ·obtain⟨v',xs,he,hk9,hX,hxs,-⟩:=hh
   refine⟨_,he,?_⟩
   repeat (first|apply gst|(apply gsv;rfl;apply qas<;>rfl))
   refine aS (Or.inl rfl) Tryz.results80 (aC.tmp rfl) ?_
   refine⟨v',xs,rfl,k8.ai hk9 (bf (by omega)),⟨bW hX.own k8.size,hX.ins⟩,?_⟩
   rw[hxs,kR]
   have e0:(most-((kr q []:Nat):Int)).toNat=most.toNat:=by
    have:kr q []=0:=rfl
    omega
   rw[e0,hq,←kZ,←List.map_take,List.map_map]
   rfl
  ·have hnT:∀b,b<w8.heap.size→b≠b15→b∉b15::T:=fun b hb hne hm=>by
    rcases List.mem_cons.1 hm with h|h
    ·exact hne h
    ·have:=h2 b h
     omega
   have s8:=k68.size
   refine(qU ms[j] (r8.kp h3 (hnT _ (by omega) (by omega))) (hm8.kp h3 (hnT _ (by omega) (by omega))) hM h1 (by
    obtain⟨g3,g4⟩:=hmost
    unfold xN gj
    split
    ·split<;>omega
    ·omega)).mono (fun e' w' hh=>?_)
   obtain⟨he,hk',hB'⟩:=hh
   have hqj:q j= !exB (nh (ms.map Em.en) ns) ms[j].en:=by
    rw[hq]
    simp only
    rw[qu (by simpa using hj),List.getElem_map]
   have hlz:=xB (most:=most) (c:=kr q pre)
   have hg:(!exB (nh (ms.map Em.en) ns) ms[j].en&&decide (1≤gj most (kr q pre)))=lH q most pre j:=by
    unfold lH
    rw[hqj]
    congr 1
    by_cases h:(kr q pre:Int)<most
    ·rw[decide_eq_true h,decide_eq_true (hlz.2 h)]
    ·rw[decide_eq_false h,decide_eq_false (fun hh=>h (hlz.1 hh))]
   rw[hg] at he hB'
   refine⟨he,hk',?_,T,h2,h3.trans (hk'.mono (fun b hb=>by rw[List.mem_singleton] at hb;rw[hb];exact List.mem_cons_self))⟩
   have e4:gj most (kr q (pre++[j]))=if lH q most pre j then gj most (kr q pre)-1 else gj most (kr q pre):=by
    rw[qw]
    unfold lH
    cases hqq:q j with
    |false=>rw[Bool.false_and];rfl
    |true=>
     rw[Bool.true_and,if_pos rfl,rJ]
     by_cases h:(kr q pre:Int)<most
     ·rw[if_pos h,decide_eq_true h,if_pos rfl]
     ·rw[if_neg h,decide_eq_false h,if_neg (by decide)]
   rw[e4]
   exact hB'
 have g1:(i:Int)<(ms.length:Int):=by omega
 obtain⟨a',c',e',-,hS6⟩:=hP6.sl
 cases e'
 obtain⟨g,o1,rfl,hri⟩:=hS6.at hlt
 have hsu:=tV (l:=ms.map Em.en) (ns:=ns) (i:=i) (by simpa using hlt)
 rw[List.getElem_map] at hsu
 have hsu:nh ((ms.map Em.en).take (i+1)) ns=if aN ms[i].x.t∈ns then nh ((ms.map Em.en).take i) ns++[(ms[i].x.t.frm,ms[i].x.t.non)] else nh ((ms.map Em.en).take i) ns:=hsu
 have ho:=hout (aN ms[i].x.t)
 repeat (first|apply gst|(apply gsv;rfl;apply qls<;>first|rfl|(apply dct;first|assumption|omega)))
 refine gct rfl ?_
 repeat (first|apply gst|(apply gsv;rfl;(first|apply qla|apply qix)<;>first|rfl|(apply Ar.mk;omega)|assumption|exact List.not_mem_nil|apply aD))
 refine SG.alloc rfl rfl rfl (fun b9 w7 hk7 hb9 hB9=>?_)
 refine SG.aG (l:=ec ms[i]) rfl rfl (ag rfl) (ag rfl) hB9 (aD _) rfl (jZ _) (fun w8 hk8 hB9=>?_)
 have k68:Kp [] w6 w8:=hk7.ai hk8 (bf (by omega))
 have r9:Row w8 b9 0 (ec ms[i]):=Row.all hB9 rfl
 obtain⟨-,q0,q1,-,q4,-⟩:=dK r9
 simp only[Nat.zero_add] at q0 q1 q4
 have r7':=r7'.kp0 k68
 have hm8:=hm6.kp0 k68
 have hmo8:=hmo6.kp0 k68
 clear hri r9 hmo6 hm6 hmo5 hmo2 hm5
 by_cases hin:aN ms[i].x.t∈ns
 rotate_left
 ·rw[if_neg hin] at ho hsu
  repeat (first|apply gst|(apply gsv;rfl;(first|apply qmv|apply qla|apply qfa|apply qlv)<;>first|rfl|assumption|exact List.not_mem_nil|apply ah|exact lk0 (by assumption)|fail))
  refine gcf rfl ?_
  repeat (first|apply gst|(apply gsv;rfl;(first|apply qmv|apply qad)<;>first|rfl|(apply Ar.mk;omega)))
  refine NG.round (i+1,m) (aZ.of rfl) ⟨by simp only;omega,hk6.trans k68.any,hm8,by simp only;rw[hsu];exact hM⟩ (by simp only;omega)
 rw[if_pos hin] at ho hsu
 have put:(∀n,ar m ms[i].x.t.frm=some n→ms[i].x.t.non<n)→qJ (cy m ms[i].x.t.frm ms[i].x.t.non) (nh ((ms.map Em.en).take (i+1)) ns):=fun hn=>by rw[hsu];exact hM.put hn
 repeat (first|apply gst|(apply gsv;rfl;(first|apply qmv|apply qla|apply qfa|apply qlv)<;>first|rfl|assumption|exact List.not_mem_nil|apply ah|exact lk1 (by assumption)|fail))
 refine gct rfl ?_
 clear hmo8
 cases hlk:ar m ms[i].x.t.frm with
 |none=>
  have hput:=put (fun n hn=>by rw[hlk] at hn;cases hn)
  repeat (first|apply gst|(apply gsv;rfl;(first|apply qmv|apply qas|apply qlc|apply qla|apply qfa|apply qpk|apply qlk|apply qxt|apply qnt)<;>first|rfl|assumption|exact List.not_mem_nil|apply ah|exact lk0 (by assumption)|fail)|refine SG.skip rfl rfl ?_)
  refine gct rfl ?_
  repeat (first|apply gst|(apply gsv;rfl;(first|apply qlc|apply qla|apply qfa)<;>first|rfl|assumption|exact List.not_mem_nil|apply ah))
  refine SG.mapUpdate (enc:=dv (n:=8)) (V:=zcv) (kx:=ms[i].x.t.frm) (vy:=ms[i].x.t.non) rfl rfl (ag rfl) (ag rfl) (ag rfl) hm8 ku.key (fun w9 hk9 hm9=>?_)
  repeat (first|apply gst|(apply gsv;rfl;(first|apply qmv|apply qad)<;>first|rfl|(apply Ar.mk;omega)))
  refine NG.round (i+1,_) (aZ.of rfl) ⟨by simp only;omega,(hk6.trans k68.any).trans hk9,hm9,hput⟩ (by simp only;omega)
 |some n=>
  by_cases hlt2:ms[i].x.t.non<n
  ·have hput:=put (fun n' hn=>by rw[hlk] at hn;cases hn;exact hlt2)
   repeat (first|apply gst|(apply gsv;rfl;(first|apply qmv|apply qas|apply qlc|apply qla|apply qfa|apply qpk|apply qgt|apply qlk|apply qxt|apply qnt)<;>first|rfl|assumption|(apply dct;first|assumption|omega)|exact List.not_mem_nil|apply ah|exact lk1 (by assumption)|fail))
   refine gct rfl ?_
   repeat (first|apply gst|(apply gsv;rfl;(first|apply qlc|apply qla|apply qfa)<;>first|rfl|assumption|exact List.not_mem_nil|apply ah))
   refine SG.mapUpdate (enc:=dv (n:=8)) (V:=zcv) (kx:=ms[i].x.t.frm) (vy:=ms[i].x.t.non) rfl rfl (ag rfl) (ag rfl) (ag rfl) hm8 ku.key (fun w9 hk9 hm9=>?_)
   repeat (first|apply gst|(apply gsv;rfl;(first|apply qmv|apply qad)<;>first|rfl|(apply Ar.mk;omega)))
   refine NG.round (i+1,_) (aZ.of rfl) ⟨by simp only;omega,(hk6.trans k68.any).trans hk9,hm9,hput⟩ (by simp only;omega)
  ·have hkeep:qJ m (nh ((ms.map Em.en).take (i+1)) ns):=by rw[hsu];exact hM.zY hlk hlt2
   repeat (first|apply gst|(apply gsv;rfl;(first|apply qmv|apply qas|apply qlc|apply qla|apply qfa|apply qpk|apply qgt|apply qlk|apply qxt|apply qnt)<;>first|rfl|assumption|(apply dcf;first|assumption|omega)|exact List.not_mem_nil|apply ah|exact lk1 (by assumption)|fail))
   refine gcf rfl ?_
   repeat (first|apply gst|(apply gsv;rfl;(first|apply qmv|apply qad)<;>first|rfl|(apply Ar.mk;omega)))
   refine NG.round (i+1,m) (aZ.of rfl) ⟨by simp only;omega,hk6.trans k68.any,hm8,hkeep⟩ (by simp only;omega)
end
section
noncomputable def fT:List Tx→List (Dg×Int)→Int
 |[],_=>0
 |t::l,seen=>if aP t≠0 then aP t else if(t.frm,t.non)∈seen then 7 else fT l ((t.frm,t.non)::seen)
noncomputable def aU(b:Bl):Int:=if b.ht<0∨1099511627776<b.ht then 2 else if 64<b.txs.length then 8 else if fT b.txs []≠0 then fT b.txs [] else if(qV (b.txs.map (·.fee)) 0).isSome then 0 else 2
def tkx(t:Tx)(h:aP t=0):Dg×Nn:=(t.frm,⟨t.non,(oG h).n0,(oG h).n1⟩)
theorem KU(w:World)(a0 a1 a2 a3 a4 a5 a6 a7:UInt8)(n:Int):(Instr.build 242 #[(0,.agg #[bv a0,bv a1,bv a2,bv a3,bv a4,bv a5,bv a6,bv a7]),(1,.int .i64 n)]).run Tryz.prog w= .ok (.agg #[bv a0,bv a1,bv a2,bv a3,bv a4,bv a5,bv a6,bv a7,.int .i64 n]) w:=by kernel_rfl
theorem btk(w:World)(d:Dg)(n:Int):(Instr.build 242 #[(0,dv d),(1,.int .i64 n)]).run Tryz.prog w= .ok (.agg (dc d++[Value.int .i64 n]).toArray) w:=by
 obtain⟨l,h⟩:=d
 match l,h with
 |[a0,a1,a2,a3,a4,a5,a6,a7],_=>exact KU w a0 a1 a2 a3 a4 a5 a6 a7 n
attribute [local irreducible] CG NG SG aO Der Row Blk az aH num cz cm bQ bH orJ cM aP cL ofI dd bz dp aN rgt
theorem wG{w:World}{a:Option Addr}{l:List Int}(c:Nat)(hS:Sl ziL 1 w a l)(hl:l.length≤1000000):
  Ret Tryz.prog 139 #[.slice a l.length c] w (match qV l 0 with|some s=> .tuple #[.int .i64 s,.int .i64 0]|none=> .tuple #[.int .i64 0,.int .i64 2]):=by
 refine aQ Tryz.func139 rfl Tryz.ntmps139 rfl ?_
 repeat (first|apply gst|(apply gsv;rfl;(first|apply qmv|apply qas|apply qln)<;>rfl))
 refine CG.loop (X:=Nat×Int) (fun q=>[(4,.int .i64 q.2),(9,.slice a l.length c),(10,.int .i64 (l.length:Int)),(11,.int .i64 (q.1:Int))])
  (fun q w'=>q.1≤l.length∧Kp [] w w'∧qV (l.drop q.1) q.2=qV l 0)
  (fun q=>l.length-q.1) (0,0) ⟨Nat.zero_le _,Kp.refl _ _,rfl⟩ (aZ.of rfl) ?_
 rintro⟨i,s⟩ w1 ⟨hi,k1,hs⟩
 simp only at hi hs
 refine CG.to [(4,.int .i64 s),(9,.slice a l.length c),(10,.int .i64 (l.length:Int)),(11,.int .i64 (i:Int))] (aZ.of rfl) ?_
 by_cases hlt:i<l.length
 ·have g1:(i:Int)<(l.length:Int):=by omega
  obtain⟨ba,off,rfl,hrow⟩:=(hS.kp0 k1).at hlt
  rw[List.drop_eq_getElem_cons hlt] at hs
  generalize l[i]=n at hs hrow
  repeat (first|apply gst|(apply gsv;rfl;apply qls<;>first|rfl|(apply dct;first|assumption|omega)))
  refine gct rfl ?_
  repeat (first|apply gst|(apply gsv;rfl;(first|apply qmv|apply qas|apply qlc|apply qix)<;>first|rfl|(apply Ar.mk;omega)|assumption|exact List.not_mem_nil))
  refine SG.ret rfl rfl rfl (vs:=[.int .i64 s,.int .i64 n]) (Evs.of rfl) (rX s n w1) (fun w2 hk2=>?_)
  have k2:=k1.trans hk2
  clear hrow
  by_cases hr:rgt s∧rgt n∧rgt (s+n)
  ·rw[if_pos hr]
   rw[qV,if_pos hr] at hs
   repeat (first|apply gst|(apply gsv;rfl;(first|apply qmv|apply qas|apply qni|apply qxt)<;>first|rfl|(apply dct;first|assumption|omega)))
   refine gcf rfl ?_
   repeat (first|apply gst|(apply gsv;rfl;(first|apply qmv|apply qas|apply qad)<;>first|rfl|(apply Ar.mk;omega)))
   refine NG.round (i+1,s+n) (aZ.of rfl) ⟨hlt,k2,hs⟩ (by simp only;omega)
  ·rw[if_neg hr]
   rw[qV,if_neg hr] at hs
   rw[←hs]
   repeat (first|apply gst|(apply gsv;rfl;(first|apply qmv|apply qas|apply qni|apply qxt)<;>first|rfl|(apply dcf;first|assumption|omega)))
   refine gct rfl ?_
   repeat (first|apply gst|(apply gsv;rfl;(first|apply qmv|apply qas)<;>rfl))
   refine dX (Or.inl rfl) Tryz.results139 (aC.tmp rfl) (aC.tmp rfl) ?_
   exact⟨rfl,k2⟩
 ·have g1:¬(i:Int)<(l.length:Int):=by omega
  have e8:i=l.length:=by omega
  subst e8
  rw[List.drop_length,qV] at hs
  rw[←hs]
  repeat (first|apply gst|(apply gsv;rfl;apply qls<;>first|rfl|(apply dcf;first|assumption|omega)))
  refine gcf rfl ?_
  repeat (first|apply gst|(apply gsv;rfl;(first|apply qmv|apply qas)<;>rfl))
  refine dX (Or.inl rfl) Tryz.results139 (aC.tmp rfl) (aC.tmp rfl) ?_
  exact⟨rfl,k1⟩
theorem j6{w:World}{n0:Nat}{x:Bm}(hx:x.In n0 w):Ret Tryz.prog 98 #[bkv x] w (.int .i64 (aU x.b)):=by
 refine aQ Tryz.func98 rfl Tryz.ntmps98 rfl ?_
 have hl:=hx.len
 repeat apply gst
 refine SG.box rfl rfl rfl (ag rfl) (fun b1 w1 hk1 hb1 hB1=>?_)
 have hB1:Blk w1 b1 (.cells (bkc x).toArray 50):=hB1
 have lb1:=hB1.lt
 obtain⟨-,-,r1,-,r3⟩:=bC hB1
 have el:x.b.txs.length=x.xs.length:=List.length_map _
 have fin:∀{L:Env} {w':World} {z:Int},aU x.b=z→Kp [] w w'→look L 2=some (.int .i64 z)→NG 54 .ret (bodyPost Tryz.prog Tryz.f98 (fun e w'=>e= .returned (.int .i64 (aU x.b))∧Kp [] w w')) L w':=
  fun hb hk' hL=>aS (Or.inl rfl) Tryz.results98 (aC.tmp hL) ⟨by rw[hb],hk'⟩
 by_cases h1:x.ht<0
 ·have e0:aU x.b=2:=by unfold aU;rw[if_pos (show x.b.ht<0∨_ from Or.inl h1)]
  repeat (first|apply gst|(apply gsv;rfl;(first|apply qmv|apply qas|apply qlc|apply qfa|apply qpk|apply qls)<;>first|rfl|assumption|(apply dct;first|assumption|omega)|exact List.not_mem_nil)|refine SG.skip rfl rfl ?_)
  refine gct rfl ?_
  repeat (first|apply gst|(apply gsv;rfl;apply qas<;>rfl))
  exact fin e0 hk1 rfl
 by_cases h2:1099511627776<x.ht
 ·have e0:aU x.b=2:=by unfold aU;rw[if_pos (show _∨1099511627776<x.b.ht from Or.inr h2)]
  repeat (first|apply gst|(apply gsv;rfl;(first|apply qmv|apply qas|apply qlc|apply qfa|apply qpk|apply qls|apply qgt)<;>first|rfl|assumption|(apply dct;first|assumption|omega)|(apply dcf;first|assumption|omega)|exact List.not_mem_nil))
  refine gct rfl ?_
  repeat (first|apply gst|(apply gsv;rfl;apply qas<;>rfl))
  exact fin e0 hk1 rfl
 have e1:aU x.b=if 64<x.b.txs.length then 8 else if fT x.b.txs []≠0 then fT x.b.txs [] else if(qV (x.b.txs.map (·.fee)) 0).isSome then 0 else 2:=by
  unfold aU
  rw[if_neg (show ¬(x.b.ht<0∨1099511627776<x.b.ht) from fun h=>h.elim h1 h2)]
 repeat (first|apply gst|(apply gsv;rfl;(first|apply qmv|apply qas|apply qlc|apply qfa|apply qpk|apply qls|apply qgt)<;>first|rfl|assumption|(apply dcf;first|assumption|omega)|exact List.not_mem_nil))
 refine gcf rfl ?_
 by_cases h3:(64:Int)<(x.xs.length:Int)
 ·rw[if_pos (by omega)] at e1
  repeat (first|apply gst|(apply gsv;rfl;(first|apply qlc|apply qfa|apply qln|apply qgt)<;>first|rfl|assumption|(apply dct;first|assumption|omega)|exact List.not_mem_nil))
  refine gct rfl ?_
  repeat (first|apply gst|(apply gsv;rfl;apply qas<;>rfl))
  exact fin e1 hk1 rfl
 rw[if_neg (by omega)] at e1
 repeat (first|apply gst|(apply gsv;rfl;(first|apply qlc|apply qfa|apply qln|apply qgt)<;>first|rfl|assumption|(apply dcf;first|assumption|omega)|exact List.not_mem_nil))
 refine gcf rfl ?_
 repeat apply gst
 refine SG.makeMap tkv bcv rfl rfl (fun bm w2 hk2 hbm hm=>?_)
 have k2:=hk1.trans hk2
 have r3:=r3.kp0 hk2
 have hB1:=hB1.kp0 hk2
 have hIn:=hx
 clear r1 h1 h2
 have hS:=hIn.tx.sl
 have hI:=hIn.tx.ins
 have hx0:=hx
 have ltm:=hm.lt
 have lb2:=hB1.lt
 clear hx hIn
 generalize hsc:fT x.b.txs []=sc at e1
 have hsc:fT (x.xs.map (·.t)) []=sc:=hsc
 generalize hsu:qV (x.b.txs.map (·.fee)) 0=su at e1
 have hsu:qV ((x.xs.map (·.t)).map (·.fee)) 0=su:=hsu
 repeat (first|apply gst|(apply gsv;rfl;(first|apply qmv|apply qas|apply qlc|apply qfa|apply qln)<;>first|rfl|assumption|exact List.not_mem_nil))
 refine CG.loop (X:=Nat×List (Dg×Int)×List ((Dg×Nn)×Bool)) (fun q=>[(1,.pointer (some ⟨b1,0,none⟩)),(3,.map (some bm)),(24,.slice x.a x.xs.length x.c),(25,.int .i64 (x.xs.length:Int)),(26,.int .i64 (q.1:Int))])
  (fun q w'=>q.1≤x.xs.length∧Kp [] w w'∧Blk w' b1 (.cells (bkc x).toArray 50)∧az w' bm tkv bcv q.2.2∧fT ((x.xs.map (·.t)).drop q.1) q.2.1=sc∧∀k:Dg×Nn,ar q.2.2 k=if(k.1,k.2.1)∈q.2.1 then some true else none)
  (fun q=>x.xs.length-q.1) (0,[],[]) ⟨Nat.zero_le _,k2,hB1,hm,hsc,fun k=>rfl⟩ (aZ.of rfl) ?_
 rintro⟨i,seen,m⟩ w3 ⟨hi,k3,hB3,hm3,hsc,hmm⟩
 simp only at hi hm3 hsc hmm
 refine CG.to [(1,.pointer (some ⟨b1,0,none⟩)),(3,.map (some bm)),(24,.slice x.a x.xs.length x.c),(25,.int .i64 (x.xs.length:Int)),(26,.int .i64 (i:Int))] (aZ.of rfl) ?_
 have ltm:=hm3.lt
 have lb3:=hB3.lt
 by_cases hlt:i<x.xs.length
 ·have g1:(i:Int)<(x.xs.length:Int):=by omega
  obtain⟨ba,off,hxa,hrow⟩:=(hS.kp0 k3).at hlt
  have hIi:=(hI _ (List.getElem_mem hlt)).kp0 k3
  have hdr:(x.xs.map (·.t)).drop i=x.xs[i].t::(x.xs.map (·.t)).drop (i+1):=by
   rw[List.drop_eq_getElem_cons (by rw[List.length_map];exact hlt),List.getElem_map]
  rw[hdr] at hsc
  clear hdr
  generalize x.xs[i]=y at hrow hIi hsc
  rw[hxa]
  repeat (first|apply gst|(apply gsv;rfl;apply qls<;>first|rfl|(apply dct;first|assumption|omega)))
  refine gct rfl ?_
  repeat (first|apply gst|(apply gsv;rfl;(first|apply qla|apply qix)<;>first|rfl|(apply Ar.mk;omega)|assumption|exact List.not_mem_nil|apply aj))
  refine SG.alloc rfl rfl rfl (fun b5 w5 hk5 hb5 hB5=>?_)
  refine SG.aG (l:=txc y) rfl rfl (ag rfl) (ag rfl) hB5 (aj _) rfl (bD _) (fun w6 hk6 hB6=>?_)
  have hB6:Blk w6 b5 (.cells (txc y).toArray 52):=hB6
  have k36:=hk5.ai hk6 (bf hb5)
  obtain⟨q,-⟩:=aJ hB6
  clear hrow
  repeat (first|apply gst|(apply gsv;rfl;apply qla<;>first|rfl|assumption|exact List.not_mem_nil|apply aj))
  refine SG.ret rfl rfl rfl (vs:=[txv y]) (Evs.of rfl) (fI (hIi.kp0 k36)) (fun w7 hk7=>?_)
  have k37:=k36.trans hk7
  clear q
  by_cases hw:aP y.t=0
  rotate_left
  ·rw[fT,if_pos hw] at hsc
   rw[hsc] at hw⊢
   rw[if_pos hw] at e1
   repeat (first|apply gst|(apply gsv;rfl;(first|apply qmv|apply qas|apply qni)<;>first|rfl|(apply dcf;first|assumption|omega)))
   refine gct rfl ?_
   repeat (first|apply gst|(apply gsv;rfl;(first|apply qmv|apply qas)<;>rfl))
   exact fin e1 (k3.trans k37) rfl
  rw[fT,if_neg (fun h=>h hw)] at hsc
  rw[hw]
  have h00:(0:Int)=0:=rfl
  repeat (first|apply gst|(apply gsv;rfl;(first|apply qmv|apply qas|apply qni)<;>first|rfl|(apply dct;first|assumption|omega)))
  refine gcf rfl ?_
  obtain⟨-,q0,q1,-⟩:=aJ (hB6.kp0 hk7)
  repeat (first|apply gst|(apply gsv;rfl;(first|apply qlc|apply qla|apply qfa)<;>first|rfl|assumption|exact List.not_mem_nil|apply ah))
  refine SG.val rfl rfl rfl rfl (au rfl (fun W=>btk W y.t.frm y.t.non)) ?_
  refine SG.alloc rfl rfl rfl (fun b7 w8 hk8 hb7 hB7=>?_)
  clear q0 q1
  refine SG.aG (l:=tkc (tkx y.t hw)) rfl rfl (ag rfl) (ag rfl) hB7 (ey _) rfl (zo _) (fun w9 hk9 hB9=>?_)
  have k39:=(k37.trans hk8).ai hk9 (bf (by have:=k37.size;omega))
  have qk:Row w9 b7 0 (tkc (tkx y.t hw)):=Row.all hB9 rfl
  have hm9:=hm3.kp0 k39
  have hal:ar m (tkx y.t hw)=if(y.t.frm,y.t.non)∈seen then some true else none:=hmm (tkx y.t hw)
  have s39:=k39.size
  have lt7:=hB9.lt
  by_cases hin:(y.t.frm,y.t.non)∈seen
  ·rw[if_pos hin] at hsc hal
   subst hsc
   rw[if_pos (by decide)] at e1
   repeat (first|apply gst|(apply gsv;rfl;(first|apply qmv|apply qla|apply qlv)<;>first|rfl|assumption|exact List.not_mem_nil|apply ey|exact lk1 (by assumption)|fail))
   refine gct rfl ?_
   repeat (first|apply gst|(apply gsv;rfl;apply qas<;>rfl))
   exact fin e1 (k3.trans k39) rfl
  rw[if_neg hin] at hsc hal
  repeat (first|apply gst|(apply gsv;rfl;(first|apply qmv|apply qla|apply qlv)<;>first|rfl|assumption|exact List.not_mem_nil|apply ey|exact lk0 (by assumption)|fail))
  refine gcf rfl ?_
  repeat (first|apply gst|(apply gsv;rfl;(first|apply qmv|apply qla)<;>first|rfl|assumption|exact List.not_mem_nil|apply ey))
  refine SG.mapUpdate (enc:=tkv) (V:=bcv) (kx:=tkx y.t hw) (vy:=true) rfl rfl (ag rfl) (ag rfl) (ag rfl) hm9 yy (fun wa hka hma=>?_)
  repeat (first|apply gst|(apply gsv;rfl;(first|apply qmv|apply qad)<;>first|rfl|(apply Ar.mk;omega)))
  refine NG.round (i+1,(y.t.frm,y.t.non)::seen,cy m (tkx y.t hw) true) (aZ.of rfl) ⟨hlt,(k3.trans k39).ai hka (bf (by have:=hk1.size;omega)),(hB3.kp0 k39).kp hka (nm1 (by omega)),hma,hsc,fun k=>?_⟩ (by simp only;omega)
  simp only
  rw[bu,hmm k]
  by_cases hk:tkx y.t hw=k
  ·subst hk
   rw[if_pos rfl,if_pos (show((tkx y.t hw).1,(tkx y.t hw).2.1)∈(y.t.frm,y.t.non)::seen from List.mem_cons.2 (Or.inl rfl))]
  ·rw[if_neg hk]
   have hk':¬(k.1,k.2.1)=(y.t.frm,y.t.non):=fun e=>hk (by
    obtain⟨k1,k2,k3⟩:=k
    simp only[Prod.mk.injEq] at e
    obtain⟨rfl,rfl⟩:=e
    rfl)
   by_cases hs:(k.1,k.2.1)∈seen
   ·rw[if_pos hs,if_pos (List.mem_cons.2 (Or.inr hs))]
   ·rw[if_neg hs,if_neg (fun h=>(List.mem_cons.1 h).elim hk' hs)]
 ·have g1:¬(i:Int)<(x.xs.length:Int):=by omega
  have e8:i=x.xs.length:=by omega
  rw[e8,←List.length_map (f:=fun x:Tm=>x.t),List.drop_length,fT] at hsc
  subst hsc
  rw[if_neg (fun h=>h rfl)] at e1
  obtain⟨r,-⟩:=bC hB3
  repeat (first|apply gst|(apply gsv;rfl;apply qls<;>first|rfl|(apply dcf;first|assumption|omega)))
  refine gcf rfl ?_
  repeat (first|apply gst|(apply gsv;rfl;apply qla<;>first|rfl|assumption|exact List.not_mem_nil|apply aB))
  refine SG.call rfl rfl rfl (vs:=[bkv x]) (Evs.of rfl) ((uE (hx0.kp0 k3)).mono (fun e w4 hh=>?_))
  obtain⟨v4,he,ho4,hk4⟩:=hh
  refine⟨_,he,?_⟩
  clear r he
  obtain⟨a4,c4,rfl,-,hS4⟩:=Sl.own (enc:=ziL) (l:=x.xs.map (·.t.fee)) (fun _=>rfl) ho4 rfl
  refine SG.ret rfl rfl rfl (vs:=[.slice a4 (x.xs.map (·.t.fee)).length c4]) (Evs.of rfl) (wG c4 hS4 (by rw[List.length_map];omega)) (fun w5 hk5=>?_)
  have k5:=(k3.trans hk4).trans hk5
  have hsu:qV (x.xs.map (·.t.fee)) 0=su:=by rw[←hsu,List.map_map];rfl
  rw[hsu]
  cases su with
  |some s=>
   rw[if_pos (show(some s).isSome=true from rfl)] at e1
   repeat (first|apply gst|(apply gsv;rfl;(first|apply qmv|apply qas|apply qni|apply qxt)<;>first|rfl|(apply dct;first|assumption|omega)))
   refine gcf rfl ?_
   repeat (first|apply gst|(apply gsv;rfl;apply qas<;>rfl))
   exact fin e1 k5 rfl
  |none=>
   rw[if_neg (by decide)] at e1
   repeat (first|apply gst|(apply gsv;rfl;(first|apply qmv|apply qas|apply qni|apply qxt)<;>first|rfl|(apply dcf;first|assumption|omega)))
   refine gct rfl ?_
   repeat (first|apply gst|(apply gsv;rfl;apply qas<;>rfl))
   exact fin e1 k5 rfl
end
section
section
variable {P:Program} {S:List Nat} {w0:World} {F:World→Prop} {L:Env} {d:Option Nat} {ty:TypeId} {pos:String} {af:Array Edge} {g:Option (Nat×Bool)}
def tc(s:ByteArray)(z:Int):UInt8:=(s[z.toNat]?).getD 0
theorem qsx{T:TypeId}[u:Ut P T .string]{s:ByteArray}{y:Operand}{k:IntKind}{z:Int}(hy:ro L y=some (.int k z))(h:Ar (0≤z∧z<s.size)):aO P S w0 F L ⟨d,.index T (.const (.string s)) y,ty,pos,af,g⟩ (bv (tc s z)):=fun w _ _=>by
 have hc:rho L (.const (.string s))= .string s:=rfl
 obtain⟨h0,h1⟩:=h.h
 have hlt:z.toNat<s.size:=by omega
 have e:s[z.toNat]?=some s[z.toNat]:=getElem?_pos s z.toNat hlt
 simp only[execOp,ag hy,hc,Instr.index,Sem.run_bind,Result.andThen]
 simp[asIntOf,run_underlying u.eq,h0,e,tc,Result.andThen]
theorem JG{T:TypeId}[u:Ut P T .string]{s:ByteArray}{y:Operand}{k:IntKind}{z:Int}(m:Nat)(hm:Nat.ble m s.size=true)(hy:ro L y=some (.int k z))(h:Ar (0≤z∧z<m)):aO P S w0 F L ⟨d,.index T (.const (.string s)) y,ty,pos,af,g⟩ (bv (tc s z)):=qsx hy (Ar.mk (by
 have:=Nat.le_of_ble_eq_true hm
 have:=h.h
 omega))
theorem qss{T:TypeId}[u:Ut P T .string]{s:ByteArray}{x y:Operand}{k k':IntKind}{l h:Int}(hx:ro L x=some (.int k l))(hy:ro L y=some (.int k' h))(hb:Ar (0≤l∧l≤h∧h≤s.size)):aO P S w0 F L ⟨d,.slice T (.const (.string s)) (some x) (some y) none,ty,pos,af,g⟩ (.string (s.extract l.toNat h.toNat)):=fun w _ _=>by
 have hc:rho L (.const (.string s))= .string s:=rfl
 obtain⟨h0,h1,h2⟩:=hb.h
 have e1:(0:Int)≤h∧h≤(s.size:Int):=⟨by omega,h2⟩
 have e2:(0:Int)≤l∧l≤(h.toNat:Int):=⟨h0,by omega⟩
 simp only[execOp,ag hx,ag hy,hc,Option.map_some,Option.map_none,Instr.sliceAt,Sem.run_bind,run_underlying u.eq,Result.andThen,Instr.slice,Instr.sliceBounds,Instr.sliceBound,asIntOf,Sem.run_pure]
 simp only[if_pos e1,Sem.run_pure,Sem.run_bind,Result.andThen,if_pos e2,Option.isSome_none,Bool.false_eq_true,if_false]
theorem qsc{T T':TypeId}[u:Ut P T .string]{x y:Operand}{a b:List UInt8}(hx:ro L x=some (sv a))(hy:ro L y=some (sv b))(hl:Ar (a.length+b.length≤1000000)):aO P S w0 F L ⟨d,.binOp .add T x y T',ty,pos,af,g⟩ (sv (a++b)):=fun w _ _=>by
 have e:(⟨a.toArray⟩:ByteArray)++⟨b.toArray⟩=⟨(a++b).toArray⟩:=by
  apply ByteArray.ext
  simp
 simp only[execOp,ag hx,ag hy,eqGuard,binOp,sv,Sem.run_bind,Sem.run_pure,Result.andThen]
 have h:=hl.h
 have e2:¬(9223372036854775807:Int)<((⟨a.toArray⟩:ByteArray).size:Int)+((⟨b.toArray⟩:ByteArray).size:Int):=by
  show ¬(9223372036854775807:Int)<((a.toArray.size:Nat):Int)+((b.toArray.size:Nat):Int)
  simp only[List.size_toArray]
  omega
 simp[Op.stringOp,e,e2]
end
end
section
def hg0(x:Nat):Nat:=if x=0 then 0 else Nat.log2 x+1
def sH(d:Dg):Dg:=cL d [108,101,97,102]
def mM(d:Dg)(h:Nat):Dg:=cL d ([114,111,111,116]++[UInt8.ofNat (48+h)])
theorem Jy{s:ByteArray}{x:Nat}(hx:x<64)(h:∀y:_root_.Fin 64,tc s ((y.val:Nat):Int)=UInt8.ofNat (hg0 y.val)):tc s (x:Int)=UInt8.ofNat (hg0 x):=h ⟨x,hx⟩
theorem Ca{x:Nat}(hx:x<64):hg0 x≤6:=by
 have key:∀y:_root_.Fin 64,hg0 y.val≤6:=by decide+kernel
 exact key ⟨x,hx⟩
theorem DG{s:ByteArray}{h:Nat}(hh:h<10)(hd:∀y:_root_.Fin 10,(s.extract y.val (y.val+1)).data.toList=[UInt8.ofNat (48+y.val)]):Value.string (s.extract (h:Int).toNat ((h:Int)+1).toNat)=sv [UInt8.ofNat (48+h)]:=by
 have e:=hd ⟨h,hh⟩
 simp only at e
 have e1:(h:Int).toNat=h:=by omega
 have e2:((h:Int)+1).toNat=h+1:=by omega
 rw[e1,e2]
 unfold sv
 congr 1
 apply ByteArray.ext
 rw[←e,Array.toArray_toList]
attribute [local irreducible] CG NG SG aO Der Row Blk az aH num cz cm bQ bH orJ cM aP cL ofI dd bz dp aN rgt
theorem xx(d:Dg)(w:World):Ret Tryz.prog 183 #[dv d] w (dv (sH d)):=by
 refine aQ Tryz.func183 rfl Tryz.ntmps183 rfl ?_
 repeat apply gst
 refine SG.box rfl rfl rfl (ag rfl) (fun b1 w1 hk1 hb1 hB1=>?_)
 refine SG.alloc rfl rfl rfl (fun b2 w2 hk2 hb2 hB2=>?_)
 have r1:Row w2 b1 0 (dc d):=(Row.all hB1 rfl).kp0 hk2
 have s1:=hk1.size
 repeat (first|apply gst|(apply gsv;rfl;apply qla<;>first|rfl|assumption|exact List.not_mem_nil|apply ah))
 refine SG.ret rfl rfl rfl (vs:=[dv d,sv [108,101,97,102]]) (Evs.of rfl) (dZ d [108,101,97,102] (by decide) w2) (fun w3 hk3=>?_)
 refine SG.aG (old:=dc zd) (l:=dc (sH d)) rfl rfl (ag rfl) (ag rfl) (hB2.kp0 hk3) (ah _) (ah _) (aR _) (fun w4 hk4 hB4=>?_)
 have r4:Row w4 b2 0 (dc (sH d)):=Row.all hB4 rfl
 repeat apply gst
 refine aS (Or.inl rfl) Tryz.results183 (by exact aC.agg rfl rfl (by assumption) (by first|exact ah _|exact nc_length _|exact rc_length _ _ _|exact aD _|exact dl_length _ _ _ _|exact aF _|exact aL _|exact aM _|exact aj _|rfl)) ?_
 exact⟨rfl,((hk1.trans hk2).trans hk3).ai hk4 (bf (by omega))⟩
theorem qY(h:Nat)(hh:h<10)(w:World):Ret Tryz.prog 213 #[.int .i64 (h:Int)] w (sv [UInt8.ofNat (48+h)]):=by
 refine aQ Tryz.func213 rfl Tryz.ntmps213 rfl ?_
 have g1:(h:Int)<10:=by omega
 repeat (first|apply gst|(apply gsv;rfl;(first|apply qmv|apply qas|apply qls)<;>first|rfl|(apply dct;first|assumption|omega)))
 refine gct rfl ?_
 repeat (first|apply gst|(apply gsv;rfl;(first|apply qmv|apply qad)<;>first|rfl|(apply Ar.mk;omega)))
 refine SG.val rfl rfl rfl rfl (qss (l:=(h:Int)) (h:=(h:Int)+1) rfl rfl (Ar.mk ⟨by omega,by omega,by show(h:Int)+1≤((36:Nat):Int);omega⟩)) ?_
 rw[DG hh ?_]
 rotate_left
 ·decide+kernel
 repeat (first|apply gst|(apply gsv;rfl;apply qas<;>rfl))
 refine aS (Or.inl rfl) Tryz.results213 (aC.tmp rfl) ?_
 exact⟨rfl,Kp.refl _ _⟩
theorem uz(h:Nat)(hh:h<10)(w:World):Ret Tryz.prog 198 #[.int .i64 (h:Int)] w (sv [UInt8.ofNat (48+h)]):=by
 have h1:∀w,Ret Tryz.prog 209 #[.int .i64 (h:Int),.int .i64 10] w (sv [UInt8.ofNat (48+h)]):=fun w=>by
  refine bh Tryz.func209 rfl Tryz.ntmps209 rfl ?_
  have g0:(0:Int)≤(h:Int):=by omega
  have g1:(h:Int)<100:=by omega
  repeat (first|apply gst|(apply gsv;rfl;(first|apply qmv|apply qas|apply qei)<;>first|rfl|(apply dct;first|assumption|omega)))
  refine gct rfl ?_
  repeat (first|apply gst|(apply gsv;rfl;(first|apply qmv|apply qpk|apply qls|apply qle)<;>first|rfl|(apply dct;first|assumption|omega)))
  refine gct rfl ?_
  repeat (first|apply gst|(apply gsv;rfl;apply qmv<;>rfl))
  refine SG.ret rfl rfl rfl (by repeat' (first|exact True.intro|exact ag rfl|refine And.intro ?_ ?_)) (qY h hh w) (fun w1 hk1=>?_)
  repeat (first|apply gst|(apply gsv;rfl;apply qas<;>rfl))
  refine aS (Or.inl rfl) Tryz.results209 (aC.tmp rfl) ?_
  exact⟨rfl,hk1⟩
 have h2:∀w,Ret Tryz.prog 200 #[.int .i64 (h:Int)] w (sv [UInt8.ofNat (48+h)]):=fun w=>by
  refine aQ Tryz.func200 rfl Tryz.ntmps200 rfl ?_
  repeat (first|apply gst|(apply gsv;rfl;(first|apply qmv|apply qas)<;>rfl))
  refine SG.ret rfl rfl rfl (vs:=[.int .i64 (h:Int),.int .i64 10]) (Evs.of rfl) (h1 w) (fun w1 hk1=>?_)
  repeat (first|apply gst|(apply gsv;rfl;apply qas<;>rfl))
  refine aS (Or.inl rfl) Tryz.results200 (aC.tmp rfl) ?_
  exact⟨rfl,hk1⟩
 refine aQ Tryz.func198 rfl Tryz.ntmps198 rfl ?_
 repeat (first|apply gst|(apply gsv;rfl;(first|apply qmv|apply qas)<;>rfl))
 refine SG.ret rfl rfl rfl (vs:=[.int .i64 (h:Int)]) (Evs.of rfl) (h2 w) (fun w1 hk1=>?_)
 repeat (first|apply gst|(apply gsv;rfl;apply qas<;>rfl))
 refine aS (Or.inl rfl) Tryz.results198 (aC.tmp rfl) ?_
 exact⟨rfl,hk1⟩
theorem wD(d:Dg)(h:Nat)(hh:h<10)(w:World):Ret Tryz.prog 186 #[dv d,.int .i64 (h:Int)] w (dv (mM d h)):=by
 refine bh Tryz.func186 rfl Tryz.ntmps186 rfl ?_
 repeat apply gst
 refine SG.box rfl rfl rfl (ag rfl) (fun b1 w1 hk1 hb1 hB1=>?_)
 refine SG.alloc rfl rfl rfl (fun b2 w2 hk2 hb2 hB2=>?_)
 have r1:Row w2 b1 0 (dc d):=(Row.all hB1 rfl).kp0 hk2
 have s1:=hk1.size
 repeat apply gst
 refine CG.tail mixed 4 [0,1,2,3] (by kernel_rfl) ?_
 repeat (apply gdv;rfl;rfl;(first|apply qmv|apply qla)<;>first|rfl|assumption|exact List.not_mem_nil|apply ah)
 refine Der.call rfl rfl rfl (vs:=[.int .i64 (h:Int)]) (Evs.of rfl) (fun W hk _=>uz h hh W) ?_
 refine Der.val rfl rfl rfl (qsc (a:=[114,111,111,116]) (b:=[UInt8.ofNat (48+h)]) rfl rfl (Ar.mk (by simp))) ?_
 refine Der.tl (fun w3 hk3 _ _=>?_)
 refine SG.ret rfl rfl rfl (vs:=[dv d,sv ([114,111,111,116]++[UInt8.ofNat (48+h)])]) (Evs.of rfl) (dZ d _ (by simp) w3) (fun w4 hk4=>?_)
 refine SG.aG (old:=dc zd) (l:=dc (mM d h)) rfl rfl (ag rfl) (ag rfl) ((hB2.kp0 hk3).kp0 hk4) (ah _) (ah _) (aR _) (fun w5 hk5 hB5=>?_)
 have r4:Row w5 b2 0 (dc (mM d h)):=Row.all hB5 rfl
 repeat apply gst
 refine aS (Or.inl rfl) Tryz.results186 (by exact aC.agg rfl rfl (by assumption) (by first|exact ah _|exact nc_length _|exact rc_length _ _ _|exact aD _|exact dl_length _ _ _ _|exact aF _|exact aL _|exact aM _|exact aj _|rfl)) ?_
 exact⟨rfl,(((hk1.trans hk2).trans hk3).trans hk4).ai hk5 (bf (by omega))⟩
theorem rI(x:Nat)(hx:x<64)(w:World):Ret Tryz.prog 157 #[.int .u64 (x:Int)] w (.int .i64 (hg0 x:Int)):=by
 refine aQ Tryz.func157 rfl Tryz.ntmps157 rfl ?_
 have g1:¬(4294967296:Int)≤(x:Int):=by omega
 have g2:¬(65536:Int)≤(x:Int):=by omega
 have g3:¬(256:Int)≤(x:Int):=by omega
 repeat (first|apply gst|(apply gsv;rfl;(first|apply qmv|apply qas|apply qge)<;>first|rfl|(apply dcf;first|assumption|omega)))
 refine gcf rfl ?_
 repeat (first|apply gst|(apply gsv;rfl;(first|apply qmv|apply qge)<;>first|rfl|(apply dcf;first|assumption|omega)))
 refine gcf rfl ?_
 repeat (first|apply gst|(apply gsv;rfl;(first|apply qmv|apply qge)<;>first|rfl|(apply dcf;first|assumption|omega)))
 refine gcf rfl ?_
 repeat (first|apply gst|(apply gsv;rfl;first|apply Bz<;>rfl|apply qmv<;>rfl))
 rw[sV]
 have ex:(UInt8.ofNat x).toNat=x:=by rw[UInt8.toNat_ofNat'];omega
 refine SG.val rfl rfl rfl rfl (JG (z:=(x:Int)) 256 (by kernel_rfl) (by show _=some (Value.int .u8 (x:Int));exact congrArg (fun n:Nat=>some (Value.int .u8 (n:Int))) ex) (Ar.mk ⟨by omega,by omega⟩)) ?_
 rw[Jy hx ?_]
 rotate_left
 ·decide+kernel
 have hb:=Ca hx
 have e2:(UInt8.ofNat (hg0 x)).toNat=hg0 x:=by rw[UInt8.toNat_ofNat'];omega
 refine SG.val rfl rfl rfl rfl (qb3 rfl) ?_
 rw[e2]
 repeat (first|apply gst|(apply gsv;rfl;(first|apply qas|apply qad)<;>first|rfl|(apply Ar.mk;omega)))
 refine aS (Or.inl rfl) Tryz.results157 (aC.tmp rfl) ?_
 exact⟨by rw[Int.zero_add],Kp.refl _ _⟩
theorem xA(x:Nat)(hx:x<64)(w:World):Ret Tryz.prog 114 #[.int .u64 (x:Int)] w (.int .i64 (hg0 x:Int)):=by
 refine aQ Tryz.func114 rfl Tryz.ntmps114 rfl ?_
 repeat (first|apply gst|(apply gsv;rfl;apply qas<;>rfl))
 refine gcf rfl ?_
 repeat (first|apply gst|(apply gsv;rfl;apply qmv<;>rfl))
 refine SG.ret rfl rfl rfl (vs:=[.int .u64 (x:Int)]) (Evs.of rfl) (rI x hx w) (fun w1 hk1=>?_)
 repeat (first|apply gst|(apply gsv;rfl;apply qas<;>rfl))
 refine aS (Or.inl rfl) Tryz.results114 (aC.tmp rfl) ?_
 exact⟨rfl,hk1⟩
theorem qm(n:Nat)(h1:1≤n)(h2:n≤64)(w:World):Ret Tryz.prog 181 #[.int .i64 (n:Int)] w (.int .i64 (hg0 (n-1):Int)):=by
 refine aQ Tryz.func181 rfl Tryz.ntmps181 rfl ?_
 have g1:¬(n:Int)<1:=by omega
 have g2:¬(4096:Int)<(n:Int):=by omega
 repeat (first|apply gst|(apply gsv;rfl;(first|apply qmv|apply qas|apply qpk|apply qls|apply qgt)<;>first|rfl|(apply dcf;first|assumption|omega)))
 refine gcf rfl ?_
 repeat (first|apply gst|(apply gsv;rfl;(first|apply qmv|apply qsb|apply qcv)<;>first|rfl|(apply Ar.mk;omega)))
 rw[show IntKind.wrap .u64 ((n:Int)-1)=((n-1:Nat):Int) by simp only[IntKind.wrap,IntKind.signed,IntKind.bits];simp;omega]
 refine SG.ret rfl rfl rfl (vs:=[.int .u64 ((n-1:Nat):Int)]) (Evs.of rfl) (xA (n-1) (by omega) w) (fun w1 hk1=>?_)
 repeat (first|apply gst|(apply gsv;rfl;apply qas<;>rfl))
 refine aS (Or.inl rfl) Tryz.results181 (aC.tmp rfl) ?_
 exact⟨rfl,hk1⟩
end
section
theorem Tr.WF.anc{t:Tr}(wf:t.WF):∀(j:Nat) {x:Dg},t.has x=true→j≤t.ht x→t.has (t.anc j x)=true∧t.ht (t.anc j x)+j=t.ht x
 |0,x,hx,_=>⟨hx,rfl⟩
 |j+1,x,hx,hj=>by
  have hne:x≠t.first:=fun e=>by rw[e,wf.h0] at hj;omega
  obtain⟨h1,h2⟩:=wf.up x hx hne
  obtain⟨h3,h4⟩:=wf.anc j h1 (by omega)
  exact⟨h3,by rw[Tr.anc];omega⟩
theorem nc{t:Tr}(wf:t.WF):∀(n:Nat) {a b:Dg},t.has a=true→t.has b=true→t.ht a+t.ht b<n→∃i j,i≤t.ht a∧j≤t.ht b∧t.eE n a b=t.anc i a∧t.eE n a b=t.anc j b
 |0,a,b,_,_,h=>by omega
 |n+1,a,b,ha,hb,h=>by
  simp only[Tr.eE]
  by_cases e:a=b
  ·rw[if_pos e]
   exact⟨0,0,Nat.zero_le _,Nat.zero_le _,rfl,e⟩
  ·rw[if_neg e]
   obtain⟨h1,h2,h3,_⟩:=wf.round ha hb e
   have key:∀{a b:Dg},t.has a=true→t.has b=true→a≠b→t.ht b≤t.ht a→t.ht a=t.ht (t.par a)+1:=by
    intro a b ha hb hne hle
    refine(wf.up a ha (fun e=>hne ?_)).2
    have h1:t.ht a=0:=by rw[e];exact wf.h0
    have h2:=wf.l0 hb (by omega)
    rw[e,h2]
   obtain⟨i,j,g1,g2,g3,g4⟩:=nc wf n h1 h2 (by omega)
   by_cases c1:t.ht b≤t.ht a<;>by_cases c2:t.ht a≤t.ht b
   ·have k1:=key ha hb e c1
    have k2:=key hb ha (fun e1=>e e1.symm) c2
    simp only[c1,c2,if_true] at g1 g2 g3 g4⊢
    exact⟨i+1,j+1,by omega,by omega,g3,g4⟩
   ·have k1:=key ha hb e c1
    simp only[c1,c2,if_true,if_false] at g1 g2 g3 g4⊢
    exact⟨i+1,j,by omega,g2,g3,g4⟩
   ·have k2:=key hb ha (fun e1=>e e1.symm) c2
    simp only[c1,c2,if_true,if_false] at g1 g2 g3 g4⊢
    exact⟨i,j+1,g1,by omega,g3,g4⟩
   ·omega
theorem xg{t:Tr}(wf:t.WF){a b:Dg}(ha:t.has a=true)(hb:t.has b=true):∃i,i≤t.ht a∧t.part a b=t.anc i a∧t.ht (t.part a b)+i=t.ht a:=by
 obtain⟨i,j,h1,h2,h3,h4⟩:=nc wf (t.ht a+t.ht b+1) ha hb (by omega)
 have:=(wf.anc i ha h1).2
 refine⟨i,h1,h3,?_⟩
 unfold Tr.part
 rw[h3]
 exact this
theorem Tr.rY(t:Tr)(m:Nat)(x:Dg):t.dy m x=(t.dy m x).take m++[t.anc m x]:=by
 cases m with
 |zero=>rfl
 |succ m=>
  rw[Tr.iC]
  have:(t.dy m x).length=m+1:=Tr.cI t m x
  rw[List.take_append_of_le_length (by omega),List.take_of_length_le (by omega)]
def Tr.und(t:Tr)(a b:Dg):Nat:=t.ht a-t.ht (t.part a b)
def Tr.gp(t:Tr)(a b:Dg):List Dg:=(t.dy (t.und a b) a).take (t.und a b)
attribute [local irreducible] CG NG SG aO Der Row Blk az
theorem iW{w:World}{bt bm:Nat}{t:Tr}(hT:bO w bt bm t)(wf:t.WF){x y:Dg}(hx:t.has x=true)(hy:t.has y=true):
  Calls Tryz.prog 100 #[.pointer (some ⟨bt,0,none⟩),dv x,dv y] w (fun e w'=>∃b off c pre post,e= .returned (.slice (some ⟨b,off,none⟩) (t.und x y) c)∧w.heap.size≤b∧Blk w' b (.cells (pre++(flat (t.gp x y)++post)).toArray 47)∧(pre.length=off∧t.und x y≤c)∧Kp [] w w'):=by
 refine c9 Tryz.func100 rfl Tryz.ntmps100 rfl ?_
 repeat apply gst
 refine SG.box rfl rfl rfl (ag rfl) (fun b4 w1 hk1 hb4 hB4=>?_)
 refine SG.box rfl rfl rfl (ag rfl) (fun b5 w2 hk2 hb5 hB5=>?_)
 have hk02:=hk1.trans hk2
 have hT2:=hT.kp0 hk02
 have hR4:Row w2 b4 0 (dc x):=Row.all (hB4.kp0 hk2) rfl
 have hR5:Row w2 b5 0 (dc y):=Row.all hB5 rfl
 have hhx:¬t.height x<0:=by rw[Tr.height,Tr.dm hx];simp only;omega
 have hhy:¬t.height y<0:=by rw[Tr.height,Tr.dm hy];simp only;omega
 repeat (first|apply gst|(apply gsv;rfl;(first|apply qmv|apply qas|apply qla)<;>first|rfl|assumption|exact List.not_mem_nil|apply ah))
 refine SG.ret rfl rfl rfl (by repeat' (first|exact True.intro|exact ag rfl|refine And.intro ?_ ?_)) (dR hT2 x) (fun w3 hk3=>?_)
 have hk03:=hk02.trans hk3
 have hT3:=hT.kp0 hk03
 have hR4:=hR4.kp0 hk3
 have hR5:=hR5.kp0 hk3
 repeat (apply gsv;rfl;(first|apply qmv|apply qla|apply qls)<;>first|rfl|assumption|(apply dcf;first|assumption|omega)|exact List.not_mem_nil|apply ah)
 refine SG.ret rfl rfl rfl (by repeat' (first|exact True.intro|exact ag rfl|refine And.intro ?_ ?_)) (dR hT3 y) (fun w4 hk4=>?_)
 have hk04:=hk03.trans hk4
 have hT4:=hT.kp0 hk04
 have hR4:=hR4.kp0 hk4
 have hR5:=hR5.kp0 hk4
 repeat (first|apply gst|(apply gsv;rfl;(first|apply qpk|apply qls)<;>first|rfl|(apply dcf;first|assumption|omega)))
 refine gcf rfl ?_
 repeat apply gst
 obtain⟨m,hm1,hm2,hm3⟩:=xg wf hx hy
 have hbx:=wf.bound hx
 have hund:t.und x y=m:=by unfold Tr.und;omega
 refine CG.fq mixed [0,1,2,3,4,5,6,7,8] [6] (by kernel_rfl) ?_
 repeat (apply gdv;rfl;rfl;(first|apply qmv|apply qla)<;>first|rfl|assumption|exact List.not_mem_nil|apply ah)
 refine Der.call rfl rfl rfl (by repeat' (first|exact True.intro|exact ag rfl|refine And.intro ?_ ?_)) (fun w hk _=>lg (hT4.kp0 hk) wf hx hy) ?_
 refine Der.mj (X:=Nat×Nat×List Value) (vs:=[.pointer (some ⟨bt,0,none⟩),dv x,dv (t.part x y)]) (fun q=> .slice (some ⟨q.1,0,none⟩) (m+1) q.2.1) (fun q w'=>w4.heap.size≤q.1∧m+1≤q.2.1∧Blk w' q.1 (.cells (flat (t.dy m x).reverse++q.2.2).toArray 47)) rfl rfl rfl rfl (Evs.of rfl) (fun q w w' hk h=>⟨h.1,h.2.1,h.2.2.kp0 hk⟩) (fun _ _ _ h=>h) (fun w hk _=>?_) (fun q=>?_)
 ·refine(jS (hT4.kp0 hk) x (t.part x y) m (by omega) hm2.symm (fun j hj e=>?_) (fun j hj=>(wf.anc j hx (by omega)).1)).mono (fun e w' h=>?_)
  ·have h1:=(wf.anc j hx (by omega)).2
   rw[e] at h1
   omega
  ·obtain⟨b,c,post,h1,h2,h3,h4,h5⟩:=h
   exact⟨(b,c,post),h1,⟨by have:=hk.size;omega,h3,h4⟩,h5⟩
 obtain⟨bq,cq,post⟩:=q
 simp only
 refine Der.val rfl rfl rfl (ju (j:=1) (ag rfl) rfl (by omega)) ?_
 repeat (apply gdv;rfl;rfl;apply qas<;>rfl)
 refine Der.fin (fun w5 hk5 hF _=>?_)
 obtain⟨_,hq1,hq2,hq3⟩:=hF
 have hk05:=hk04.trans hk5
 have hul:t.gp x y=(t.dy m x).take m:=by unfold Tr.gp;rw[hund]
 have hrl:((t.dy m x).take m).reverse.length=m:=by simp[Tr.cI]
 have hmm:m+1-1=m:=by omega
 obtain⟨off,pre,post',hoff,hpre,hblk⟩:∃off pre post',(if cq=1 then 0 else 0+1*8)=off∧pre.length=off∧Blk w5 bq (.cells (pre++(flat ((t.dy m x).take m).reverse++post')).toArray 47):=by
  by_cases hc:cq=1
  ·have hm0:m=0:=by omega
   subst hm0
   exact⟨0,[],flat (t.dy 0 x).reverse++post,by simp[hc],rfl,hq3⟩
  ·refine⟨8,dc (t.anc m x),post,by simp[hc],ah _,?_⟩
   rw[Tr.rY,List.reverse_append,jW] at hq3
   simpa[eS] using hq3
 rw[hoff,hmm]
 have hrev:=iS (c:=cq-1) hblk (by omega)
 rw[hrl,hpre,List.reverse_reverse] at hrev
 repeat (first|apply gst|(apply gsv;rfl;apply qmv<;>rfl))
 refine SG.call rfl rfl rfl (by repeat' (first|exact True.intro|exact ag rfl|refine And.intro ?_ ?_)) (hrev.mono (fun e w6 h=>?_))
 obtain⟨h1,h2,h3⟩:=h
 refine⟨_,h1,?_⟩
 repeat (first|apply gst|(apply gsv;rfl;(first|apply qmv|apply qas)<;>rfl))
 refine aS (Or.inl rfl) Tryz.results100 (aC.tmp rfl) ?_
 rw[hund,hul]
 have:=hk04.size
 exact⟨bq,off,cq-1,pre,post',rfl,by omega,h2,⟨hpre,by omega⟩,hk05.ai h3 (by first|exact bf (by omega)|exact oX (by omega) (by omega))⟩
end
section
theorem ub(f x:Dg)(d:Nat):ar (Tr.new f d).nodes x=if f=x then some kd0 else none:=by
 simp[Tr.new,ar]
theorem nB(f:Dg)(d:Nat):(Tr.new f d).WF:=by
 have hh:∀x,(Tr.new f d).has x=true→x=f:=by
  intro x hx
  unfold Tr.has at hx
  rw[ub] at hx
  by_cases e:f=x
  ·exact e.symm
  ·simp[e] at hx
 have h1:(Tr.new f d).has f=true:=by unfold Tr.has;rw[ub];simp
 have h2:(Tr.new f d).ht f=0:=by unfold Tr.ht Tr.nd;rw[ub];simp[kd0]
 refine⟨h1,h2,h1,fun x hx hne=>absurd (hh x hx) hne,fun x hx=>?_,by simp[Tr.new],?_⟩
 ·rw[hh x hx];exact Nat.le_refl _
 ·show(Tr.new f d).ht f<1
  rw[h2];omega
theorem gI(t:Tr)(x p z:Dg):ar (t.put x p).nodes z=if x=z then some ⟨p,t.ht p+1⟩ else ar t.nodes z:=bu _ _ _ _
theorem eA(t:Tr)(x p:Dg):(t.put x p).ht x=t.ht p+1:=by unfold Tr.ht Tr.nd;rw[gI];simp[Tr.ht,Tr.nd]
theorem bM(t:Tr){x p z:Dg}(h:x≠z):(t.put x p).ht z=t.ht z:=by
 have:(t.put x p).nd z=t.nd z:=by unfold Tr.nd;rw[gI,if_neg h]
 unfold Tr.ht;rw[this]
theorem fX(t:Tr){x p z:Dg}(h:x≠z):(t.put x p).par z=t.par z:=by
 have:(t.put x p).nd z=t.nd z:=by unfold Tr.nd;rw[gI,if_neg h]
 unfold Tr.par;rw[this]
theorem fY(t:Tr)(x p:Dg):(t.put x p).par x=p:=by unfold Tr.par Tr.nd;rw[gI];simp
theorem dH(t:Tr)(x p z:Dg):(t.put x p).has z=(decide (x=z)||t.has z):=by
 unfold Tr.has;rw[gI];by_cases e:x=z<;>simp[e]
theorem lM(t:Tr)(x p:Dg):(t.put x p).tip=if t.ht t.tip<t.ht p+1 then x else t.tip:=rfl
theorem yE{t:Tr}(wf:t.WF){x p:Dg}(hx:t.has x=false)(hp:t.has p=true)(hl:t.nodes.length<4096):(t.put x p).WF:=by
 have hnx:∀{z:Dg},t.has z=true→x≠z:=fun hz e=>by rw[e,hz] at hx;cases hx
 have hpt:=wf.top p hp
 have htip:(t.put x p).ht (t.put x p).tip=if t.ht t.tip<t.ht p+1 then t.ht p+1 else t.ht t.tip:=by
  rw[lM]
  split
  ·exact eA t x p
  ·exact bM t (hnx wf.tip)
 have hlen:(t.put x p).nodes.length=t.nodes.length+1:=by
  have:ar t.nodes x=none:=Tr.jm (by rw[hx];simp)
  show(cy t.nodes x _).length=_
  rw[ie _ this];simp
 refine⟨?_,?_,?_,fun z hz hne=>?_,fun z hz=>?_,by rw[hlen];omega,?_⟩
 ·show(t.put x p).has t.first=true
  rw[dH,wf.first];simp
 ·show(t.put x p).ht t.first=0
  rw[bM t (hnx wf.first)];exact wf.h0
 ·rw[lM]
  split
  ·rw[dH];simp
  ·rw[dH,wf.tip];simp
 ·by_cases e:x=z
  ·subst e
   rw[fY,eA,dH,hp,bM t (hnx hp)]
   simp
  ·have hz':t.has z=true:=by rw[dH] at hz;simpa[e] using hz
   obtain⟨h1,h2⟩:=wf.up z hz' hne
   rw[fX t e,dH,h1,bM t e,bM t (hnx h1)]
   exact⟨by simp,h2⟩
 ·rw[htip]
  by_cases e:x=z
  ·subst e
   rw[eA]
   split<;>omega
  ·have hz':t.has z=true:=by rw[dH] at hz;simpa[e] using hz
   rw[bM t e]
   have:=wf.top z hz'
   split<;>omega
 ·rw[htip,hlen]
  have:=wf.low
  split<;>omega
theorem kX{t:Tr}(wf:t.WF):∀(n:Nat) {a b:Dg},t.has a=true→t.has b=true→t.ht a+t.ht b<n→t.eE n a b=t.eE n b a
 |0,a,b,_,_,h=>by omega
 |n+1,a,b,ha,hb,h=>by
  simp only[Tr.eE]
  by_cases e:a=b
  ·subst e;rfl
  ·have e':¬b=a:=fun e1=>e e1.symm
   rw[if_neg e,if_neg e']
   obtain⟨h1,h2,h3,_⟩:=wf.round ha hb e
   exact kX wf n h1 h2 (by omega)
theorem tN{t:Tr}(wf:t.WF){a b:Dg}(ha:t.has a=true)(hb:t.has b=true):t.part a b=t.part b a:=by
 unfold Tr.part
 rw[kX wf _ ha hb (by omega),Nat.add_comm (t.ht a)]
theorem mU{t:Tr}(wf:t.WF){x p:Dg}(hx:t.has x=false):∀(n:Nat) {a b:Dg},t.has a=true→t.has b=true→(t.put x p).eE n a b=t.eE n a b
 |0,a,b,_,_=>rfl
 |n+1,a,b,ha,hb=>by
  have hnx:∀{z:Dg},t.has z=true→x≠z:=fun hz e=>by rw[e,hz] at hx;cases hx
  simp only[Tr.eE]
  by_cases e:a=b
  ·rw[if_pos e,if_pos e]
  ·rw[if_neg e,if_neg e,bM t (hnx ha),bM t (hnx hb),fX t (hnx ha),fX t (hnx hb)]
   obtain⟨h1,h2,_,_⟩:=wf.round ha hb e
   exact mU wf hx n h1 h2
theorem xc{t:Tr}(wf:t.WF){x p a b:Dg}(hx:t.has x=false)(ha:t.has a=true)(hb:t.has b=true):(t.put x p).part a b=t.part a b:=by
 have hnx:∀{z:Dg},t.has z=true→x≠z:=fun hz e=>by rw[e,hz] at hx;cases hx
 unfold Tr.part
 rw[mU wf hx _ ha hb,bM t (hnx ha),bM t (hnx hb)]
theorem mT{t:Tr}(wf:t.WF){x p:Dg}(hx:t.has x=false)(hp:t.has p=true)(hl:t.nodes.length<4096)(hup:t.ht t.tip<t.ht p+1):(t.put x p).part t.tip x=t.part p t.tip:=by
 have wf':=yE wf hx hp hl
 have hnx:∀{z:Dg},t.has z=true→x≠z:=fun hz e=>by rw[e,hz] at hx;cases hx
 have hne:t.tip≠x:=fun e=>hnx wf.tip e.symm
 have h1:(t.put x p).has t.tip=true:=by rw[dH,wf.tip];simp
 have h2:(t.put x p).has x=true:=by rw[dH];simp
 obtain⟨_,_,_,h3⟩:=wf'.round h1 h2 hne
 have e1:¬(t.put x p).ht x≤(t.put x p).ht t.tip:=by rw[eA,bM t (hnx wf.tip)];omega
 have e2:(t.put x p).ht t.tip≤(t.put x p).ht x:=by omega
 rw[if_neg e1,if_pos e2,fY] at h3
 rw[←h3,xc wf hx wf.tip hp,tN wf wf.tip hp]
theorem pQ(t:Tr)(a:Dg):t.und a a=0:=by unfold Tr.und;rw[Tr.mZ];omega
theorem mv{t:Tr}(wf:t.WF)(x p:Dg):(t.add x p).WF∧(t.add x p).depth=t.depth∧(t.add x p).first=t.first∧(t.add x p).has t.tip=true∧(t.add x p).ht t.tip=t.ht t.tip∧(t.add x p).und t.tip (t.add x p).tip≤t.depth∧
  ((t.add x p).tip=t.tip∨((t.add x p).tip≠t.tip∧(t.add x p).ht (t.add x p).tip=t.ht t.tip+1)):=by
 unfold Tr.add
 by_cases he:t.addE x p=0
 ·rw[if_pos he]
  have hx:t.has x=false:=by
   cases h:t.has x with
   |false=>rfl
   |true=>simp[Tr.addE,h] at he
  have hp:t.has p=true:=by
   cases h:t.has p with
   |true=>rfl
   |false=>simp[Tr.addE,hx,h] at he
  have hl:t.nodes.length<4096:=by
   by_cases h:4096≤t.nodes.length
   ·simp[Tr.addE,hx,hp,h] at he
   ·omega
  have hd:¬t.depth+t.ht (t.part p t.tip)<t.ht t.tip:=by
   intro h
   have h':¬4096≤t.nodes.length:=by omega
   simp[Tr.addE,hx,hp,h',Tr.deep,h] at he
  have hnx:∀{z:Dg},t.has z=true→x≠z:=fun hz e=>by rw[e,hz] at hx;cases hx
  have h1:(t.put x p).has t.tip=true:=by rw[dH,wf.tip];simp
  have h2:=bM t (p:=p) (hnx wf.tip)
  refine⟨yE wf hx hp hl,rfl,rfl,h1,h2,?_,?_⟩
  ·rw[lM]
   by_cases hup:t.ht t.tip<t.ht p+1
   ·rw[if_pos hup]
    unfold Tr.und
    rw[mT wf hx hp hl hup,h2]
    have hpt:=qb wf hp wf.tip
    rw[bM t (hnx hpt)]
    omega
   ·rw[if_neg hup,pQ];omega
  ·rw[lM]
   by_cases hup:t.ht t.tip<t.ht p+1
   ·rw[if_pos hup]
    refine Or.inr ⟨fun e=>hnx wf.tip e,?_⟩
    rw[eA]
    have:=wf.top p hp
    omega
   ·rw[if_neg hup];exact Or.inl rfl
 ·rw[if_neg he]
  exact⟨wf,rfl,rfl,wf.tip,rfl,by rw[pQ];omega,Or.inl rfl⟩
end
section
abbrev SlD(w:World)(a:Option Addr)(l:List Dg):Prop:=Sl dc 8 w a l
abbrev Ll(f:FuncId)(args:Array Value)(w:World)(l:List Dg):Prop:=C5 Tryz.prog dc 8 f args w l
def Tr.line(t:Tr)(x:Dg):List Dg:=if t.has x then(t.dy (t.ht x) x).reverse else[]
theorem Tr.jP{t:Tr}{x:Dg}(h:t.has x=true):(t.line x).length=t.ht x+1:=by simp[Tr.line,h,Tr.cI]
theorem Tr.ui{t:Tr}{x:Dg}(h:t.has x=false):t.line x=[]:=by simp[Tr.line,h]
theorem Tr.WF.rG{t:Tr}(wf:t.WF):t.line t.first=[t.first]:=by simp[Tr.line,wf.first,wf.h0,Tr.dy]
theorem Tr.WF.zV{t:Tr}(wf:t.WF){x:Dg}(hx:t.has x=true)(hne:x≠t.first):t.line x=t.line (t.par x)++[x]:=by
 obtain⟨h1,h2⟩:=wf.up x hx hne
 simp only[Tr.line,hx,h1,if_true]
 rw[h2,Tr.dy,List.reverse_cons]
theorem Tr.WF.AQ{t:Tr}(wf:t.WF){x:Dg}(hx:t.has x=true):t.anc (t.ht x) x=t.first:=by
 obtain⟨h1,h2⟩:=wf.anc (t.ht x) hx (Nat.le_refl _)
 exact wf.l0 h1 (by omega)
attribute [local irreducible] CG NG SG aO Der Row Blk az
theorem rM{w:World}{bt bm:Nat}{t:Tr}(hT:bO w bt bm t)(wf:t.WF)(x:Dg):Ll 55 #[.pointer (some ⟨bt,0,none⟩),dv x] w (t.line x):=by
 refine bh Tryz.func55 rfl Tryz.ntmps55 rfl ?_
 repeat apply gst
 refine SG.box rfl rfl rfl (ag rfl) (fun b3 w1 hk1 hb3 hB3=>?_)
 have hT1:=hT.kp0 hk1
 have hR3:Row w1 b3 0 (dc x):=Row.all hB3 rfl
 repeat (first|apply gst|(apply gsv;rfl;(first|apply qmv|apply qas|apply qla)<;>first|rfl|assumption|exact List.not_mem_nil|apply ah))
 refine SG.ret rfl rfl rfl (by repeat' (first|exact True.intro|exact ag rfl|refine And.intro ?_ ?_)) (dR hT1 x) (fun w2 hk2=>?_)
 have hk02:=hk1.trans hk2
 have hT2:=hT.kp0 hk02
 have hR3:=hR3.kp0 hk2
 by_cases hx:t.has x=true
 ·have hh:¬t.height x<0:=by rw[Tr.height,Tr.dm hx];simp only;omega
  repeat (first|apply gst|(apply gsv;rfl;apply qls<;>first|rfl|(apply dcf;first|assumption|omega)))
  refine gcf rfl ?_
  repeat apply gst
  have hr0:=hT2.r0
  have hbx:=wf.bound hx
  refine CG.fq mixed [0,1,2,3,4,5,6,7] [6] (by kernel_rfl) ?_
  repeat (apply gdv;rfl;rfl;(first|apply qmv|apply qla|apply qfa|apply qnc)<;>first|rfl|assumption|exact List.not_mem_nil|apply ah)
  refine Der.mj (X:=Nat×Nat×List Value) (vs:=[.pointer (some ⟨bt,0,none⟩),dv x,dv t.first]) (fun q=> .slice (some ⟨q.1,0,none⟩) (t.ht x+1) q.2.1) (fun q w'=>(t.ht x+1≤q.2.1∧w2.heap.size≤q.1)∧Blk w' q.1 (.cells (flat (t.dy (t.ht x) x).reverse++q.2.2).toArray 47)) rfl rfl rfl rfl (Evs.of rfl) (fun q w w' hk h=>⟨h.1,h.2.kp0 hk⟩) (fun _ _ _ h=>h) (fun w hk _=>?_) (fun q=>?_)
  ·refine(jS (hT2.kp0 hk) x t.first (t.ht x) (by omega) (wf.AQ hx) (fun j hj e=>?_) (fun j hj=>(wf.anc j hx (by omega)).1)).mono (fun e w' h=>?_)
   ·have h1:=(wf.anc j hx (by omega)).2
    rw[e,wf.h0] at h1
    omega
   ·obtain⟨b,c,post,h1,h2,h3,h4,h5⟩:=h
    exact⟨(b,c,post),h1,⟨⟨h3,by have:=hk.size;omega⟩,h4⟩,h5⟩
  obtain⟨bq,cq,post⟩:=q
  simp only
  repeat (apply gdv;rfl;rfl;apply qas<;>rfl)
  refine Der.fin (fun w3 hk3 hF _=>?_)
  obtain⟨_,h1,h2⟩:=hF
  repeat apply gst
  refine aS (Or.inl rfl) Tryz.results55 (aC.tmp rfl) ?_
  have s02:=hk02.size
  refine⟨some ⟨bq,0,none⟩,cq,by rw[Tr.jP hx],⟨by rw[Tr.jP hx];exact h1.1,fun b off e=>by simp only[Option.some.injEq,Addr.mk.injEq] at e;omega,?_⟩,hk02.trans hk3⟩
  simp only[Tr.line,hx,if_true]
  exact Sl.fj ah (pre:=[]) h2
 ·have hh:t.height x<0:=by rw[Tr.height,Tr.jm hx];simp only;omega
  have hx':t.has x=false:=by simpa using hx
  repeat (first|apply gst|(apply gsv;rfl;apply qls<;>first|rfl|(apply dct;first|assumption|omega)))
  refine gct rfl ?_
  repeat (first|apply gst|(apply gsv;rfl;apply qas<;>rfl))
  refine aS (Or.inl rfl) Tryz.results55 (aC.tmp rfl) ?_
  rw[Tr.ui hx']
  exact⟨none,0,rfl,SlF.nil,hk02⟩
theorem eK(t:Tr)(x y:Dg):(t.gp x y).length=t.und x y:=by simp[Tr.gp,Tr.cI]
end
section
theorem iQ{w:World}{bT:Nat}{v x:Value}{ns:List Value}{j:Nat}(hB:Blk w bT (.cells (v::ns).toArray 287))(h:ns[j]?=some x):Row w bT (0+1+j*1) [x]:=by
 have hj:=(List.getElem?_eq_some_iff.1 h)
 obtain⟨hj,hx⟩:=hj
 refine Row.of hB (v::ns.take j) (ns.drop (j+1)) ?_ (by simp;omega)
 rw[←hx]
 simp
attribute [local irreducible] CG NG SG aO Der Row Blk az aH num cz cm bQ bH orJ cM aP cL ofI dd bz dp aN rgt lE
theorem uy{w:World}{bT lev k b1 c1 b2 c2:Nat}{v:Value}{ns:List Value}{L1 L2:List Dg}(hB:Blk w bT (.cells (v::ns).toArray 287))(hn:ns.length=13)(hlev:lev<12)(h1:ns[lev]?=some (.slice (some ⟨b1,0,none⟩) L1.length c1))(h2:ns[lev+1]?=some (.slice (some ⟨b2,0,none⟩) L2.length c2))
  (hS1:Sl dc 8 w (some ⟨b1,0,none⟩) L1) (hB2:Blk w b2 (.cells (flat L2).toArray 47)) (hk:2*k+1<L1.length) (hk2:k<L2.length) (hl:L1.length≤100000):
  Calls Tryz.prog 184 #[.pointer (some ⟨bT,0,none⟩),.int .i64 ((lev+1:Nat):Int),.int .i64 (k:Int)] w (fun e w'=>e= .returned (.tuple #[])∧Kp [b2] w w'∧Blk w' b2 (.cells (flat (L2.set k (lE (L1[2*k]'(by omega)) L1[2*k+1]))).toArray 47)):=by
 refine c9 Tryz.func184 rfl Tryz.ntmps184 rfl ?_
 have r1:=iQ hB h1
 have r2:=iQ hB h2
 obtain⟨_,o1,e1,q1⟩:=hS1.at (i:=2*k) (by omega)
 cases e1
 obtain⟨_,o2,e2,q2⟩:=hS1.at (i:=2*k+1) hk
 cases e2
 refine CG.seq ?_
 refine CG.region ?_
 iterate 3 (refine SG.val rfl rfl rfl rfl (by first|((first|apply qmv|apply qsb)<;>(first|exact rfl|exact Ar.mk (by omega)|fail))|fail) ?_)
 rw[show((lev+1:Nat):Int)-1=(lev:Int) by omega]
 clear r2
 repeat (first|apply gst|(apply gsv;rfl;(first|apply qia|apply qas|apply qlc|apply qfa|apply qnc)<;>first|rfl|(apply Ar.mk;omega)|assumption|exact List.not_mem_nil))
 clear r1
 have r2:=iQ hB h2
 refine CG.tail mixed 19 [0,1,2,3,4,5,6,7,8,9,10,11,12,13,14,15,16,17,18] (by kernel_rfl) ?_
 iterate 10 (refine Der.val rfl rfl rfl (by first|((first|apply qia|apply qmi|apply qmv|apply qlc|apply qfa|apply qnc)<;>(first|exact rfl|exact Ar.mk (by omega)|assumption|exact List.not_mem_nil|fail))|fail) ?_)
 rw[show(2:Int)*(k:Int)=((2*k:Nat):Int) by omega]
 iterate 5 (refine Der.val rfl rfl rfl (by first|((first|apply qmi|apply qmv|apply qla|apply qix)<;>(first|exact rfl|exact Ar.mk (by omega)|assumption|exact List.not_mem_nil|apply ah|apply ah|fail))|fail) ?_)
 rw[show(2:Int)*(k:Int)=((2*k:Nat):Int) by omega]
 refine Der.val rfl rfl rfl (by first|(apply qad<;>(first|exact rfl|exact Ar.mk (by omega)|fail))|fail) ?_
 rw[show((2*k:Nat):Int)+1=((2*k+1:Nat):Int) by omega]
 repeat (apply gdv;rfl;rfl;(first|apply qla|apply qix)<;>first|rfl|(apply Ar.mk;omega)|assumption|exact List.not_mem_nil|apply ah)
 refine Der.call rfl rfl rfl (vs:=[dv L1[2*k],dv L1[2*k+1]]) (Evs.of rfl) (fun W _ _=>wv _ _ W) ?_
 refine Der.tl (fun w1 hk1 _ _=>?_)
 repeat (apply gsv;rfl;apply qix<;>first|rfl|(apply Ar.mk;omega))
 generalize lE L1[2*k] L1[2*k+1]=d
 refine SG.bG (flat (L2.take k)) (dc L2[k]) (flat (L2.drop (k+1))) rfl rfl (ag rfl) (ag rfl) (hB2.kp0 hk1) (by rw[List.toList_toArray];exact fG L2 k hk2) (by exact ah d) (ah _) (by rw[ca,List.length_take];show min k L2.length*8=0+k*8;rw[Nat.min_eq_left (by omega)];omega) (by exact aR d) (fun w2 hk2' hB=>?_)
 repeat apply gst
 refine rh (Or.inr rfl) Tryz.results184 ?_
 refine⟨rfl,hk1.any.trans hk2',?_⟩
 have e:flat (L2.set k d)=flat (L2.take k)++(dc d++flat (L2.drop (k+1))):=by
  rw[List.set_eq_take_append_cons_drop,if_pos hk2]
  simp[flat]
 rw[e]
 exact hB
end
section
open Go.Proofs
theorem xw{α:Type}[Inhabited α]{enc:α→List Value}{k:Nat}(hk0:0<k)(hk:∀x,(enc x).length=k)(x:α){z:Array Value}(hz:z=(enc x).toArray)(c:Nat):madeCells z (c*k)=(flt enc (List.replicate c x)).toArray:=by
 subst hz
 have hl:(flt enc (List.replicate c x)).length=c*k:=by
  rw[bg hk,List.length_replicate]
 apply Array.ext
 ·rw[size_madeCells,List.size_toArray,hl]
 ·intro t h1 h2
  rw[size_madeCells] at h1
  have e:=pc hk0 hk (List.replicate c x) t (by rw[List.length_replicate];exact h1)
  have hq:t/k<c:=Nat.div_lt_of_lt_mul (by rw[Nat.mul_comm];exact h1)
  have e2:(List.replicate c x).toArray[t/k]! =x:=by simp[hq]
  rw[e2] at e
  have e3:(flt enc (List.replicate c x)).toArray[t]=(enc x)[t%k]!:=by
   have:=List.getElem?_eq_some_iff.1 e
   obtain⟨h3,h4⟩:=this
   simpa using h4
  rw[e3]
  simp[madeCells,hk]
section
variable {P:Program} {S:List Nat} {w0:World} {ops:List Oper} {gh:List Nat} {K:Env→(World→Prop)→(World→Prop)→Prop} {j:Nat} {ord:List Nat} {L:Env} {F:World→Prop} {ty:TypeId} {pos:String} {af:Array Edge} {g:Option (Nat×Bool)}
theorem Der.BP{R:World→Prop}{α:Type}[Inhabited α]{enc:α→List Value}{d c:Nat}{t e:TypeId}{i:TypeInfo}[u:Ut P t (.slice e)][f:Inf P e i]{z:Value}{x y:Operand}{zc:Int}(z0:α)
  (ho:ops[j]?=some ⟨some d,.makeSlice t x y,ty,pos,af,g⟩) (hw:want ops L ⟨some d,.makeSlice t x y,ty,pos,af,g⟩=some true) (hg:gh.elem j=true) (hk:(known L x&&known L y)=true) (hx:rho L x= .int .i64 zc) (hy:rho L y= .int .i64 zc) (hc:zc=(c:Int)) (hz:i.zero=some z) (hze:z.cells=(enc z0).toArray) (hel:∀x,(enc x).length=i.size) (hsz:Nat.blt 0 i.size=true) (hbytes:i.bytes*c≤281474976710656) (h63:c≤maxLen) (hS:∀z∈S,z<w0.heap.size) (hFs:cp S F) (hRs:cp [] R)
  (h:∀bn,Der P S w0 ops gh K ord ((d,.slice (some ⟨bn,0,none⟩) c c)::L) (fun w=>F w∧(w0.heap.size≤bn∧Blk w bn (.cells (flt enc (List.replicate c z0)).toArray e))) R):Der P S w0 ops gh K (j::ord) L F R:=by
 refine Der.ghost (X:=Nat) (fun bn=> .slice (some ⟨bn,0,none⟩) c c) (fun bn w=>w0.heap.size≤bn∧Blk w bn (.cells (flt enc (List.replicate c z0)).toArray e)) (fun _=>R) ho hw hg (by simpa[Op.operands] using hk) (fun bn w w' hk h=>⟨h.1,h.2.kp hk (fun hm=>by have:=hS _ hm;omega)⟩) (fun _=>hRs) hFs (fun w hk1 hF hR=>?_) h
 subst hc
 unfold aX
 have h63':(c:Int)≤9223372036854775807:=by have h:=h63;simp[maxLen] at h;omega
 have hb':(i.bytes:Int)*(c:Int)≤281474976710656:=by
  have h:((i.bytes*c:Nat):Int)≤281474976710656:=by omega
  rwa [Int.natCast_mul] at h
 have hr:=run_make (P:=P) w t e i z u.eq f.eq hz .i64 .i64 c c (by omega) (Int.le_refl _) hb' h63'
 simp only[Int.toNat_natCast] at hr
 have e0:=xw (enc:=enc) (by simpa using hsz) hel z0 hze c
 rw[e0] at hr
 have:(execOp (rho L) ⟨some d,.makeSlice t x y,ty,pos,af,g⟩).run P w= .ok (.value (.slice (some ⟨w.heap.size,0,none⟩) c c)) (w.alloc (.cells (flt enc (List.replicate c z0)).toArray e)):=by
  simp only[execOp,hx,hy,Sem.run_bind,hr,Result.andThen,Sem.run_pure]
 rw[this]
 exact⟨w.heap.size,rfl,⟨hk1.size,Blk.push w _⟩,hRs _ _ (Kp.push w _ rfl) hR,(Kp.push w _ rfl).any⟩
end
end
section
instance:Inhabited Dg:=⟨zd⟩
def fZ:Dg:=cL zd [110,111,110,101]
def upL:List Dg→List Dg
 |a::b::r=>lE a b::upL r
 |_=>[]
def BQ(l:List Dg)(h:Nat):List Dg:=l.map sH++List.replicate (2^h-l.length) fZ
def lvl(l:List Dg)(h:Nat):Nat→List Dg
 |0=>BQ l h
 |k+1=>upL (lvl l h k)
def ja(l:List Dg):Dg:=mM ((lvl l (hg0 (l.length-1)) (hg0 (l.length-1))).headD zd) (hg0 (l.length-1))
theorem kL:∀(m:Nat) {l:List Dg},l.length=2*m→(upL l).length=m
 |0,l,h=>by
  have:l=[]:=List.eq_nil_of_length_eq_zero (by omega)
  subst this
  rfl
 |m+1,a::b::r,h=>by
  simp only[List.length_cons] at h
  simp only[upL,List.length_cons,kL m (l:=r) (by omega)]
 |m+1,[a],h=>by simp at h;omega
 |m+1,[],h=>by simp at h
theorem sQ:∀(k:Nat) {l:List Dg} (h1:2*k+1<l.length) (h2:k<(upL l).length),(upL l)[k]=lE (l[2*k]'(by omega)) l[2*k+1]
 |0,a::b::r,h1,h2=>rfl
 |k+1,a::b::r,h1,h2=>by
  simp only[upL,List.length_cons] at h1 h2
  have:=sQ k (l:=r) (by omega) (by omega)
  simp only[upL,List.getElem_cons_succ]
  rw[this]
  rfl
 |k,[a],h1,h2=>by simp at h1
 |k,[],h1,h2=>by simp at h1
theorem yN{n:Nat}(h1:1≤n)(h2:n≤64):n≤2^hg0 (n-1)∧2^hg0 (n-1)≤64∧hg0 (n-1)≤6:=by
 have key:∀y:_root_.Fin 64,y.val+1≤2^hg0 y.val∧2^hg0 y.val≤64∧hg0 y.val≤6:=by decide+kernel
 have:=key ⟨n-1,by omega⟩
 simp only at this
 omega
theorem eG{l:List Dg}{h:Nat}(hl:l.length≤2^h):∀k,k≤h→(lvl l h k).length=2^(h-k)
 |0,_=>by
  simp only[lvl,BQ,List.length_append,List.length_map,List.length_replicate,Nat.sub_zero]
  omega
 |k+1,hk=>by
  have h1:=eG hl k (by omega)
  have h2:2^(h-k)=2*2^(h-(k+1)):=by
   rw[show h-k=(h-(k+1))+1 by omega,Nat.pow_succ]
   omega
  simp only[lvl]
  exact kL _ (by omega)
def gl(l:List Dg)(i:Nat):List Dg:=l.take i++List.replicate (l.length-i) zd
theorem fp(l:List Dg)(i:Nat)(hi:i≤l.length):(gl l i).length=l.length:=by
 simp only[gl,List.length_append,List.length_take,List.length_replicate]
 omega
theorem lj(l:List Dg):gl l 0=List.replicate l.length zd:=by simp[gl]
theorem nW(l:List Dg):gl l l.length=l:=by simp[gl]
theorem jX{l:List Dg}{i:Nat}(hi:i<l.length):(gl l i).set i l[i]=gl l (i+1):=by
 apply List.ext_getElem?
 intro j
 rw[List.getElem?_set]
 have hl:(l.take i).length=i:=by rw[List.length_take];omega
 have hl':(l.take (i+1)).length=i+1:=by rw[List.length_take];omega
 by_cases hj:i=j
 ·subst hj
  rw[if_pos rfl,if_pos (by rw[fp _ _ (by omega)];exact hi)]
  unfold gl
  rw[List.getElem?_append_left (by omega),List.getElem?_take,if_pos (by omega),List.getElem?_eq_getElem hi]
 ·rw[if_neg hj]
  unfold gl
  by_cases h1:j<i
  ·rw[List.getElem?_append_left (by omega),List.getElem?_append_left (by omega),List.getElem?_take,List.getElem?_take,if_pos h1,if_pos (by omega)]
  ·rw[List.getElem?_append_right (by omega),List.getElem?_append_right (by omega),List.getElem?_replicate,List.getElem?_replicate,hl,hl']
   by_cases h2:j<l.length
   ·rw[if_pos (by omega),if_pos (by omega)]
   ·rw[if_neg (by omega),if_neg (by omega)]
theorem JJ{P:Program}{S:List Nat}{w0:World}{F:World→Prop}{L:Env}{d:Option Nat}{ty:TypeId}{pos:String}{af:Array Edge}{g:Option (Nat×Bool)}{T T':TypeId}[u:Ut P T (.int .i64)]{y:Operand}{h:Nat}(hy:ro L y=some (.int .i64 (h:Int)))(hh:Ar (h≤12)):aO P S w0 F L ⟨d,.binOp .shl T (.const (.int .i64 1)) y T',ty,pos,af,g⟩ (.int .i64 ((2^h:Nat):Int)):=fun w _ _=>by
 have hc:rho L (.const (.int .i64 1))= .int .i64 1:=rfl
 have h0:¬((h:Int)<0):=by omega
 have h12:=hh.h
 have hp:2^h≤2^12:=Nat.pow_le_pow_right (by omega) h12
 have e1:min (Int.toNat (h:Int)) 64=h:=by rw[Int.toNat_natCast];omega
 have e2:(1:Int)*2^h=((2^h:Nat):Int):=by rw[Int.one_mul,Int.natCast_pow];rfl
 have e:IntKind.wrap .i64 ((2^h:Nat):Int)=((2^h:Nat):Int):=by
  generalize 2^h=N at hp
  exact C7 (by omega)
 simp only[execOp,ag hy,hc,eqGuard,binOp,Op.shift,if_neg h0,Sem.run_bind,Sem.run_pure,Result.andThen,IntKind.bits,e1,e2,e];rfl
attribute [local irreducible] CG NG SG aO Der Row Blk az aH num cz cm bQ bH orJ cM aP cL ofI dd bz dp aN rgt lE
theorem od{w:World}{a:Option Addr}{l:List Dg}(c:Nat)(hS:Sl dc 8 w a l)(hl:l.length≤1000000):oC Tryz.prog 47 dc 8 182 #[.slice a l.length c] w l:=by
 refine aQ Tryz.func182 rfl Tryz.ntmps182 rfl ?_
 cases a with
 |none=>
  have hnil:=hS.ua
  subst hnil
  repeat (first|apply gst|(apply gsv;rfl;(first|apply qmv|apply qas|apply qsn)<;>rfl))
  refine gct rfl ?_
  repeat (first|apply gst|(apply gsv;rfl;apply qas<;>rfl))
  refine aS (Or.inl rfl) Tryz.results182 (aC.tmp rfl) ?_
  exact⟨_,rfl,cO,Kp.refl _ _⟩
 |some ad=>
  repeat (first|apply gst|(apply gsv;rfl;(first|apply qmv|apply qas|apply qsn)<;>rfl))
  refine gcf rfl ?_
  repeat apply gst
  refine SG.empty rfl rfl (fun b0 w1 hk1 hb0 hB0=>?_)
  repeat (apply gsv;rfl;apply qmv<;>rfl)
  refine SG.yP (enc:=dc) (l:=l) (m:=w.heap.size) rfl rfl rfl ah aR (ag rfl) (ag rfl) rfl rfl rfl (by simp only[maxLen];omega) (by show l.length*8≤_;omega) hb0 (hS.kp0 hk1) hB0 (fun v w2 hk2 hown=>?_)
  repeat (first|apply gst|(apply gsv;rfl;apply qas<;>rfl))
  refine aS (Or.inl rfl) Tryz.results182 (aC.tmp rfl) ?_
  exact⟨v,rfl,hown,hk1.trans hk2⟩
end
section
abbrev A4:Value:= .slice none 0 0
theorem KR(a:Option Addr)(n c:Nat)(w:World):(Instr.build 287 #[(0,.slice a n c)]).run Tryz.prog w= .ok (.agg (.slice a n c::List.replicate 13 A4).toArray) w:=by kernel_rfl
section
variable {n:Nat} {ops:List Oper} {Q:Exit→Act→World→Prop} {w:World} {L:Env} {ty:TypeId} {pos:String} {af:Array Edge} {g:Option (Nat×Bool)} {rest:List Oper}
theorem SG.Eb{a x:Operand}{b:Nat}{d:Dg}{Ls:List Dg}(k:Nat)(hk:k<Ls.length)(hw:want ops L ⟨none,.store 47 a x,ty,pos,af,g⟩=some true)(hkn:(known L a&&known L x)=true)(ha:rho L a= .pointer (some ⟨b,0+k*8,none⟩))(hx:rho L x=dv d)(hB:Blk w b (.cells (flat Ls).toArray 47))
  (h:∀w',Kp [b] w w'→Blk w' b (.cells (flat (Ls.set k d)).toArray 47)→SG Tryz.prog n ops Q rest L w'):SG Tryz.prog n ops Q (⟨none,.store 47 a x,ty,pos,af,g⟩::rest) L w:=by
 refine SG.bG (flat (Ls.take k)) (dc Ls[k]) (flat (Ls.drop (k+1))) hw hkn ha hx hB (by rw[List.toList_toArray];exact fG Ls k hk) (by exact ah d) (ah _) (by rw[ca,List.length_take];show min k Ls.length*8=0+k*8;rw[Nat.min_eq_left (by omega)];omega) (by exact aR d) (fun w' hk' hB'=>h w' hk' ?_)
 have e:flat (Ls.set k d)=flat (Ls.take k)++(dc d++flat (Ls.drop (k+1))):=by
  rw[List.set_eq_take_append_cons_drop,if_pos hk]
  simp[flat]
 rw[e]
 exact hB'
end
theorem lY(l:List Dg):flt dc l=flat l:=rfl
attribute [local irreducible] CG NG SG aO Der Row Blk az aH num cz cm bQ bH orJ cM aP cL ofI dd bz dp aN rgt lE hg0 sH mM fZ
theorem sX{w:World}{a:Option Addr}{l:List Dg}(c:Nat)(hS:Sl dc 8 w a l)(hl1:1≤l.length)(hl2:l.length≤64):
  Calls Tryz.prog 164 #[.slice a l.length c] w (fun e w'=>∃bT v ns b,e= .returned (.tuple #[.pointer (some ⟨bT,0,none⟩),.int .i64 0])∧Blk w' bT (.cells (v::ns).toArray 287)∧ns.length=13∧(∃a' c',v= .slice a' l.length c')∧ns[hg0 (l.length-1)]?=some (.slice (some ⟨b,0,none⟩) 1 1)∧Blk w' b (.cells (flat (lvl l (hg0 (l.length-1)) (hg0 (l.length-1)))).toArray 47)∧Kp [] w w'):=by
 refine aQ Tryz.func164 rfl Tryz.ntmps164 rfl ?_
 obtain⟨p1,p2,p3⟩:=yN hl1 hl2
 generalize hH:hg0 (l.length-1)=H at p1 p2 p3⊢
 have g0:¬(H:Int)<0:=by omega
 repeat (first|apply gst|(apply gsv;rfl;(first|apply qmv|apply qas|apply qln)<;>rfl))
 refine SG.ret rfl rfl rfl (vs:=[.int .i64 (l.length:Int)]) (Evs.of rfl) (qm l.length hl1 hl2 w) (fun w1 hk1=>?_)
 rw[hH]
 repeat (first|apply gst|(apply gsv;rfl;(first|apply qmv|apply qas|apply qls)<;>first|rfl|(apply dcf;first|assumption|omega)))
 refine gcf rfl ?_
 repeat (first|apply gst|(apply gsv;rfl;apply qmv<;>rfl))
 refine SG.call rfl rfl rfl (vs:=[.slice a l.length c]) (Evs.of rfl) ((od c (hS.kp0 hk1) (by omega)).mono (fun e w2 hh=>?_))
 obtain⟨v2,he,ho2,hk2⟩:=hh
 refine⟨_,he,?_⟩
 clear he
 obtain⟨a2,c2,rfl,-,-⟩:=Sl.own ah ho2 rfl
 refine SG.val rfl rfl rfl rfl (au rfl (KR a2 l.length c2)) ?_
 refine SG.box rfl rfl rfl (ag rfl) (fun bT w3 hk3 hbT hT=>?_)
 have hT:Blk w3 bT (.cells (.slice a2 l.length c2::List.replicate 13 A4).toArray 287):=hT
 have k3:=(hk1.trans hk2).trans hk3
 have lT:=hT.lt
 have s12:=(hk1.trans hk2).size
 generalize hv:Value.slice a2 l.length c2=v at hT
 have g12:H≤12:=by omega
 repeat (first|apply gst|(apply gsv;rfl;apply qas<;>rfl))
 refine CG.dG mixed 6 [0,1,2,4,5,3] [3] [] (fun _=>True) (by kernel_rfl) trivial (fun _ _ _ _=>trivial) ?_
 repeat (apply gdv;rfl;rfl;(first|apply JJ|apply qmv|apply qfa|apply qnc)<;>first|rfl|(apply Ar.mk;omega))
 refine Der.BP (enc:=dc) (e:=47) (i:=Tryz.t47) (f:=ty.i47) (c:=2^H) zd rfl rfl rfl rfl (ag rfl) (ag rfl) rfl rfl rfl ah rfl (by show 8*2^H≤_;omega) (by simp only[maxLen];omega) (by simp) (fun _ _ _ _=>trivial) (fun _ _ _ _=>trivial) (fun b0=>?_)
 refine Der.tl (fun w4 hk4 hF _=>?_)
 obtain⟨-,hb0,hB0⟩:=hF
 rw[lY] at hB0
 repeat (apply gsv;rfl;apply yD<;>first|rfl|(apply Ar.mk;omega))
 have lT4:=hk4.size
 refine SG.bG [v] [A4] (List.replicate 12 A4) rfl rfl (ag rfl) (ag rfl) (hT.kp0 hk4) rfl rfl rfl rfl rfl (fun w5 hk5 hT5=>?_)
 have k5:=(k3.trans hk4).ai hk5 (bf (by omega))
 generalize hN:2^H=N at p1 p2 hB0 hT5
 have hT5:Blk w5 bT (.cells (v::(.slice (some ⟨b0,0,none⟩) N N::List.replicate 12 A4)).toArray 287):=hT5
 have hB5:Blk w5 b0 (.cells (flat (List.replicate N zd)).toArray 47):=hB0.kp hk5 (nm1 (by omega))
 have lB0:=hB0.lt
 clear hT hB0
 repeat apply gst
 refine SG.val rfl rfl rfl rfl (au rfl bzd) ?_
 refine SG.ret rfl rfl rfl (vs:=[dv zd,sv [110,111,110,101]]) (Evs.of rfl) (dZ zd [110,111,110,101] (by decide) w5) (fun w6 hk6=>?_)
 refine SG.alloc rfl rfl rfl (fun b6 w7 hk7 hb6 hB6=>?_)
 have hnd:cL zd [110,111,110,101]=fZ:=by unfold fZ;rfl
 rw[hnd]
 refine SG.aG (old:=dc zd) (l:=dc fZ) rfl rfl (ag rfl) (ag rfl) hB6 (ah _) (ah _) (aR _) (fun w8 hk8 hB8=>?_)
 have k58:Kp [] w5 w8:=(hk6.trans hk7).ai hk8 (bf (by have:=hk6.size;omega))
 have hr6:Row w8 b6 0 (dc fZ):=Row.all hB8 rfl
 have l6:=hr6.lt
 have s6:=hk6.size
 have s5:=hk5.size
 have hT8:=hT5.kp0 k58
 have hB8':=hB5.kp0 k58
 have rT:Row w8 bT (0+1+0*1) [.slice (some ⟨b0,0,none⟩) N N]:=iQ hT8 rfl
 clear hB8 hB6
 repeat (first|apply gst|(apply gsv;rfl;(first|apply yD|apply qmv|apply qlc|apply qfa|apply qnc|apply qln)<;>first|rfl|(apply Ar.mk;omega)|assumption|exact List.not_mem_nil))
 clear rT
 obtain⟨M,hM⟩:∃M,BQ l H=M:=⟨_,rfl⟩
 have hMl:M.length=N:=by
  rw[←hM,←hN]
  exact eG (by omega) 0 (Nat.zero_le _)
 refine CG.loop (X:=Nat) (fun i=>[(0,.slice a l.length c),(4,.int .i64 (H:Int)),(5,.pointer (some ⟨bT,0,none⟩)),(6,.pointer (some ⟨b6,0,none⟩)),(33,.int .i64 (N:Int)),(34,.int .i64 (i:Int))])
  (fun i w'=>i≤N∧Kp [b0] w8 w'∧Blk w' b0 (.cells (flat (gl M i)).toArray 47))
  (fun i=>N-i) 0 ⟨Nat.zero_le _,Kp.refl _ _,by rw[lj,hMl];exact hB8'⟩ (aZ.of rfl) ?_
 rintro i w9 ⟨hi,k9,hB9⟩
 have hS9:=(hS.kp0 (k5.trans k58)).kp k9 (fun b off e=>nm1 (by have:=hS.ltN (by intro e;rw[e] at hl1;simp at hl1) b off e;omega))
 have hT9:=hT8.kp k9 (nm1 (by omega))
 have hr9:=hr6.kp k9 (nm1 (by omega))
 have l9:=hB9.lt
 have l9T:=hT9.lt
 have s9:=k9.size
 by_cases hlt:i<N
 ·have g1:(i:Int)<(N:Int):=by omega
  have hiM:i<(gl M i).length:=by rw[fp _ _ (by omega)];omega
  have rT:Row w9 bT (0+1+0*1) [.slice (some ⟨b0,0,none⟩) N N]:=iQ hT9 rfl
  repeat (first|apply gst|(apply gsv;rfl;apply qls<;>first|rfl|(apply dct;first|assumption|omega)))
  refine gct rfl ?_
  by_cases hil:i<l.length
  ·have g2:(i:Int)<(l.length:Int):=by omega
   obtain⟨ba,off,rfl,hrow⟩:=hS9.at hil
   have hMi:M[i]'(by omega)=sH l[i]:=by
    subst hM
    simp only[BQ]
    rw[List.getElem_append_left (by rw[List.length_map];exact hil),List.getElem_map]
   repeat (first|apply gst|(apply gsv;rfl;(first|apply qmv|apply qas|apply qls|apply qln)<;>first|rfl|(apply dct;first|assumption|omega)))
   refine gct rfl ?_
   skip
   refine CG.tail mixed 11 [0,1,2,3,4,5,6,7,8,9,10] (by kernel_rfl) ?_
   repeat (apply gdv;rfl;rfl;(first|apply yD|apply qmv|apply qlc|apply qla|apply qfa|apply qnc|apply qix)<;>first|rfl|(apply Ar.mk;omega)|assumption|exact List.not_mem_nil|apply ah)
   refine Der.call rfl rfl rfl (vs:=[dv l[i]]) (Evs.of rfl) (fun W _ _=>xx _ W) ?_
   refine Der.tl (fun wa hka _ _=>?_)
   repeat (apply gsv;rfl;apply qix<;>first|rfl|(apply Ar.mk;omega))
   refine SG.Eb i hiM rfl rfl (ag rfl) (ag rfl) (hB9.kp0 hka) (fun wb hkb hBb=>?_)
   rw[←hMi,jX (by omega)] at hBb
   repeat (first|apply gst|(apply gsv;rfl;(first|apply qmv|apply qad)<;>first|rfl|(apply Ar.mk;omega)))
   exact NG.round (i+1) (aZ.of rfl) ⟨by omega,(k9.trans hka.any).trans hkb,hBb⟩ (by omega)
  ·have g2:¬(i:Int)<(l.length:Int):=by omega
   have hMi:M[i]'(by omega)=fZ:=by
    subst hM
    simp only[BQ]
    rw[List.getElem_append_right (by rw[List.length_map];omega),List.getElem_replicate]
   repeat (first|apply gst|(apply gsv;rfl;(first|apply qmv|apply qas|apply qls|apply qln)<;>first|rfl|(apply dcf;first|assumption|omega)))
   refine gcf rfl ?_
   skip
   refine CG.tail mixed 7 [0,1,2,3,4,5,6] (by kernel_rfl) ?_
   repeat (apply gdv;rfl;rfl;(first|apply yD|apply qmv|apply qlc|apply qla|apply qfa|apply qnc)<;>first|rfl|(apply Ar.mk;omega)|assumption|exact List.not_mem_nil|apply ah)
   refine Der.tl (fun wa hka _ _=>?_)
   repeat (apply gsv;rfl;apply qix<;>first|rfl|(apply Ar.mk;omega))
   refine SG.Eb i hiM rfl rfl (ag rfl) (ag rfl) (hB9.kp0 hka) (fun wb hkb hBb=>?_)
   rw[←hMi,jX (by omega)] at hBb
   repeat (first|apply gst|(apply gsv;rfl;(first|apply qmv|apply qad)<;>first|rfl|(apply Ar.mk;omega)))
   exact NG.round (i+1) (aZ.of rfl) ⟨by omega,(k9.trans hka.any).trans hkb,hBb⟩ (by omega)
 ·have g1:¬(i:Int)<(N:Int):=by omega
  have e8:i=M.length:=by omega
  rw[e8,nW] at hB9
  repeat (first|apply gst|(apply gsv;rfl;apply qls<;>first|rfl|(apply dcf;first|assumption|omega)))
  refine gcf rfl ?_
  have hBb:=hB9
  rw[←hM] at hBb
  have kA:Kp [] w w9:=(k5.trans k58).ai k9 (bf (by omega))
  repeat (first|apply gst|(apply gsv;rfl;apply qmv<;>rfl))
  refine CG.loop (X:=Nat×List Value×Nat) (fun q=>[(5,.pointer (some ⟨bT,0,none⟩)),(62,.int .i64 (H:Int)),(63,.int .i64 (q.1:Int))])
   (fun q w'=>q.1≤H∧Kp [] w w'∧q.2.1.length=13∧q.2.1[q.1]?=some (.slice (some ⟨q.2.2,0,none⟩) (2^(H-q.1)) (2^(H-q.1)))∧Blk w' bT (.cells (v::q.2.1).toArray 287)∧Blk w' q.2.2 (.cells (flat (lvl l H q.1)).toArray 47)∧q.2.2≠bT)
   (fun q=>H-q.1) (0,.slice (some ⟨b0,0,none⟩) N N::List.replicate 12 A4,b0) ⟨Nat.zero_le _,kA,rfl,by rw[←hN];rfl,hT9,hBb,show b0≠bT by omega⟩ (aZ.of rfl) ?_
  clear hBb hT9 hT8 hB8' hr9 hr6 hB9
  rintro⟨lev,ns,b1⟩ wc ⟨hlev,kc,hns,hgetl,hTc,hBc,hb1⟩
  simp only at hlev hns hgetl hTc hBc hb1
  refine CG.to [(5,.pointer (some ⟨bT,0,none⟩)),(62,.int .i64 (H:Int)),(63,.int .i64 (lev:Int))] (aZ.of rfl) ?_
  have lTc:=hTc.lt
  have lBc:=hBc.lt
  by_cases hlt:lev<H
  ·have g1:(lev:Int)<(H:Int):=by omega
   have hz1:(lev:Int)+1=((lev+1:Nat):Int):=by omega
   obtain⟨m2,hm2⟩:∃m2,2^(H-(lev+1))=m2:=⟨_,rfl⟩
   have hm:2^(H-lev)=2*m2:=by
    rw[←hm2,show H-lev=(H-(lev+1))+1 by omega,Nat.pow_succ]
    omega
   have hle:2^(H-lev)≤2^6:=Nat.pow_le_pow_right (by omega) (by omega)
   have hL1:(lvl l H lev).length=2^(H-lev):=eG (by omega) lev (by omega)
   have hU:(lvl l H (lev+1)).length=m2:=by rw[←hm2];exact eG (by omega) (lev+1) (by omega)
   generalize 2^(H-lev)=m at hm hle hL1 hgetl
   have hup:lvl l H (lev+1)=upL (lvl l H lev):=rfl
   generalize hUe:lvl l H (lev+1)=U at hU hup
   generalize lvl l H lev=L1 at hL1 hup hBc
   have rT:=iQ hTc hgetl
   repeat (first|apply gst|(apply gsv;rfl;apply qls<;>first|rfl|(apply dct;first|assumption|omega)))
   refine gct rfl ?_
   repeat (first|apply gst|(apply gsv;rfl;(first|apply qmv|apply qas)<;>rfl))
   refine CG.dG mixed 14 [0,1,2,3,4,5,6,7,8,9,10,12,13,11] [11] [] (fun _=>True) (by kernel_rfl) trivial (fun _ _ _ _=>trivial) ?_
   iterate 10 (refine Der.val rfl rfl rfl (by first|((first|apply qia|apply qmv|apply qlc|apply qfa|apply qnc|apply qad|apply qln)<;>(first|exact rfl|exact Ar.mk (by omega)|assumption|exact List.not_mem_nil|fail))|fail) ?_)
   refine Der.val rfl rfl rfl (qqi rfl rfl (Ar.mk (by omega))) ?_
   rw[show(m:Int)/2=(m2:Int) by omega]
   repeat (apply gdv;rfl;rfl;(first|apply qfa|apply qnc)<;>rfl)
   refine Der.BP (enc:=dc) (e:=47) (i:=Tryz.t47) (f:=ty.i47) (c:=m2) zd rfl rfl rfl rfl (ag rfl) (ag rfl) rfl rfl rfl ah rfl (by show 8*m2≤_;omega) (by simp only[maxLen];omega) (by simp) (fun _ _ _ _=>trivial) (fun _ _ _ _=>trivial) (fun b2=>?_)
   refine Der.tl (fun wd hkd hF _=>?_)
   obtain⟨-,hb2,hB2⟩:=hF
   rw[lY] at hB2
   have hB1d:=hBc.kp0 hkd
   have lB2:=hB2.lt
   have sd:=hkd.size
   have hl2:lev+1<ns.length:=by omega
   obtain⟨old,hold⟩:∃old,ns[lev+1]?=some old:=⟨_,List.getElem?_eq_getElem hl2⟩
   rw[hz1]
   repeat (apply gsv;rfl;apply qia<;>first|rfl|(apply Ar.mk;omega))
   refine SG.bG (v::ns.take (lev+1)) [old] (ns.drop (lev+2)) rfl rfl (ag rfl) (ag rfl) (hTc.kp0 hkd) (by
    obtain⟨h3,h4⟩:=List.getElem?_eq_some_iff.1 hold
    subst h4
    simp) rfl rfl (by rw[List.length_cons,List.length_take];show min (lev+1) ns.length+1=0+1+(lev+1)*1;omega) rfl (fun we hke hTe=>?_)
   obtain⟨ns',hns'⟩:∃ns',ns'=ns.set (lev+1) (.slice (some ⟨b2,0,none⟩) m2 m2):=⟨_,rfl⟩
   have hTe:Blk we bT (.cells (v::ns').toArray 287):=by
    rw[hns',List.set_eq_take_append_cons_drop,if_pos hl2]
    exact hTe
   have hn':ns'.length=13:=by rw[hns',List.length_set];exact hns
   have hg0':ns'[lev]?=some (.slice (some ⟨b1,0,none⟩) m m):=by rw[hns',List.getElem?_set,if_neg (by omega)];exact hgetl
   have hg1':ns'[lev+1]?=some (.slice (some ⟨b2,0,none⟩) m2 m2):=by rw[hns',List.getElem?_set,if_pos rfl,if_pos hl2]
   have hB1e:=hB1d.kp hke (nm1 hb1)
   have hB2e:=hB2.kp hke (nm1 (by omega))
   have se:=hke.size
   have ke:Kp [] w we:=(kc.trans hkd).ai hke (bf (by omega))
   have rT2:=iQ hTe hg1'
   clear rT hTc hBc hB1d hB2 hold hns'
   repeat (first|apply gst|(apply gsv;rfl;(first|apply qmv|apply qfa|apply qnc|apply qad)<;>first|rfl|(apply Ar.mk;omega)))
   rw[hz1]
   repeat (first|apply gst|(apply gsv;rfl;(first|apply qia|apply qmv|apply qlc|apply qln)<;>first|rfl|(apply Ar.mk;omega)|assumption|exact List.not_mem_nil))
   clear rT2
   refine CG.loop (X:=Nat) (fun k=>[(5,.pointer (some ⟨bT,0,none⟩)),(8,.int .i64 (lev:Int)),(62,.int .i64 (H:Int)),(63,.int .i64 (lev:Int)),(88,.int .i64 (m2:Int)),(89,.int .i64 (k:Int))])
    (fun k w'=>k≤m2∧Kp [b2] we w'∧Blk w' b2 (.cells (flat (gl U k)).toArray 47))
    (fun k=>m2-k) 0 ⟨Nat.zero_le _,Kp.refl _ _,by rw[lj,hU];exact hB2e⟩ (aZ.of rfl) ?_
   rintro k wf ⟨hk,kf,hBf⟩
   have hTf:=hTe.kp kf (nm1 (by omega))
   have hB1f:=hB1e.kp kf (nm1 (by omega))
   by_cases hkm:k<m2
   ·have g2:(k:Int)<(m2:Int):=by omega
    have hfl:(gl U k).length=m2:=by rw[fp _ _ (by omega)];exact hU
    have hS1:Sl dc 8 wf (some ⟨b1,0,none⟩) L1:=Sl.fj (pre:=[]) (post:=[]) (T:=47) ah (by simpa[lY] using hB1f)
    repeat (first|apply gst|(apply gsv;rfl;apply qls<;>first|rfl|(apply dct;first|assumption|omega)))
    refine gct rfl ?_
    repeat (first|apply gst|(apply gsv;rfl;(first|apply qmv|apply qas|apply qad)<;>first|rfl|(apply Ar.mk;omega)))
    rw[hz1]
    refine SG.call rfl rfl rfl (vs:=[.pointer (some ⟨bT,0,none⟩),.int .i64 ((lev+1:Nat):Int),.int .i64 (k:Int)]) (Evs.of rfl) ((uy (L1:=L1) (L2:=gl U k) (c1:=m) (c2:=m2) hTf hn' (by omega) (by rw[hL1];exact hg0') (by rw[hfl];exact hg1') hS1 hBf (by omega) (by omega) (by omega)).mono (fun e wg hh=>?_))
    obtain⟨he,hkg,hBg⟩:=hh
    refine⟨_,he,?_⟩
    have hUk:U[k]'(by omega)=lE (L1[2*k]'(by omega)) (L1[2*k+1]'(by omega)):=by
     subst hup
     exact sQ k (by omega) (by omega)
    rw[←hUk,jX (by omega)] at hBg
    repeat (first|apply gst|(apply gsv;rfl;(first|apply qmv|apply qad)<;>first|rfl|(apply Ar.mk;omega)))
    exact NG.round (k+1) (aZ.of rfl) ⟨by omega,kf.trans hkg,hBg⟩ (by omega)
   ·have g2:¬(k:Int)<(m2:Int):=by omega
    have e8:k=U.length:=by omega
    rw[e8,nW] at hBf
    repeat (first|apply gst|(apply gsv;rfl;apply qls<;>first|rfl|(apply dcf;first|assumption|omega)))
    refine gcf rfl ?_
    repeat (first|apply gst|(apply gsv;rfl;(first|apply qmv|apply qad)<;>first|rfl|(apply Ar.mk;omega)))
    refine NG.round (lev+1,ns',b2) (aZ.of rfl) ⟨by show lev+1≤H;omega,ke.ai kf (bf (by have:=ke.size;omega)),hn',?_,hTf,?_,show b2≠bT by omega⟩ (by simp only;omega)
    ·simp only
     rw[hm2]
     exact hg1'
    ·simp only
     rw[hUe]
     exact hBf
  ·have g1:¬(lev:Int)<(H:Int):=by omega
   have e8:lev=H:=by omega
   subst e8
   repeat (first|apply gst|(apply gsv;rfl;apply qls<;>first|rfl|(apply dcf;first|assumption|omega)))
   refine gcf rfl ?_
   repeat (first|apply gst|(apply gsv;rfl;(first|apply qmv|apply qas)<;>rfl))
   refine dX (Or.inl rfl) Tryz.results164 (aC.tmp rfl) (aC.tmp rfl) ?_
   exact⟨bT,v,ns,b1,rfl,hTc,hns,⟨a2,c2,hv.symm⟩,by rw[Nat.sub_self] at hgetl;exact hgetl,hBc,kc⟩
end
section
attribute [local irreducible] CG NG SG aO Der Row Blk az aH num cz cm bQ bH orJ cM aP cL ofI dd bz dp aN rgt lE hg0 sH mM fZ
theorem rC{w:World}{a:Option Addr}{l:List Dg}(c:Nat)(hS:Sl dc 8 w a l)(hl1:1≤l.length)(hl2:l.length≤64):Ret Tryz.prog 132 #[.slice a l.length c] w (.tuple #[dv (ja l),.int .i64 0]):=by
 refine aQ Tryz.func132 rfl Tryz.ntmps132 rfl ?_
 obtain⟨p1,p2,p3⟩:=yN hl1 hl2
 obtain⟨H,hH⟩:∃H,hg0 (l.length-1)=H:=⟨_,rfl⟩
 rw[hH] at p1 p2 p3
 repeat apply gst
 refine SG.alloc rfl rfl rfl (fun b2 w1 hk1 hb2 hB2=>?_)
 repeat (first|apply gst|(apply gsv;rfl;(first|apply qmv|apply qas)<;>rfl))
 refine SG.call rfl rfl rfl (vs:=[.slice a l.length c]) (Evs.of rfl) ((sX c (hS.kp0 hk1) hl1 hl2).mono (fun e w2 hh=>?_))
 obtain⟨bT,v,ns,b,he,hT,hns,⟨a',c',hv⟩,hg,hB,hk2⟩:=hh
 refine⟨_,he,?_⟩
 rw[hH] at hg hB
 have hLl:(lvl l H H).length=1:=by
  have:=eG (l:=l) (h:=H) p1 H (Nat.le_refl _)
  rw[Nat.sub_self] at this
  exact this
 obtain⟨x,hx⟩:∃x,lvl l H H=[x]:=List.length_eq_one_iff.1 hLl
 rw[hx] at hB
 have e1:flat [x]=dc x:=eS x
 rw[e1] at hB
 have er:ja l=mM x H:=by
  unfold ja
  rw[hH,hx]
  rfl
 rw[er]
 have k2:=hk1.trans hk2
 have hB2:=hB2.kp0 hk2
 clear he
 have hr:∀W,Kp [] w2 W→Ret Tryz.prog 165 #[.pointer (some ⟨bT,0,none⟩)] W (dv (mM x H)):=fun W hkW=>by
  refine aQ Tryz.func165 rfl Tryz.ntmps165 rfl ?_
  repeat apply gst
  refine SG.alloc rfl rfl rfl (fun b4 w4 hk4 hb4 hB4=>?_)
  have k4:=hkW.trans hk4
  repeat (first|apply gst|(apply gsv;rfl;(first|apply qep|apply qmv)<;>rfl))
  refine gcf rfl ?_
  repeat (first|apply gst|(apply gsv;rfl;apply qmv<;>rfl))
  have hh:∀W',Kp [] w2 W'→Ret Tryz.prog 185 #[.pointer (some ⟨bT,0,none⟩)] W' (.int .i64 (H:Int)):=fun W' hkW'=>by
   refine aQ Tryz.func185 rfl Tryz.ntmps185 rfl ?_
   have r0:Row W' bT 0 [v]:=Row.of (hT.kp0 hkW') [] ns rfl rfl
   rw[hv] at r0
   repeat (first|apply gst|(apply gsv;rfl;(first|apply qmv|apply qas|apply qlc|apply qfa|apply qnc|apply qln)<;>first|rfl|assumption|exact List.not_mem_nil))
   refine SG.ret rfl rfl rfl (vs:=[.int .i64 (l.length:Int)]) (Evs.of rfl) (qm l.length hl1 hl2 W') (fun w5 hk5=>?_)
   rw[hH]
   repeat (first|apply gst|(apply gsv;rfl;apply qas<;>rfl))
   refine aS (Or.inl rfl) Tryz.results185 (aC.tmp rfl) ?_
   exact⟨rfl,hk5⟩
  refine SG.ret rfl rfl rfl (vs:=[.pointer (some ⟨bT,0,none⟩)]) (Evs.of rfl) (hh _ k4) (fun w5 hk5=>?_)
  have rT:=iQ ((hT.kp0 k4).kp0 hk5) hg
  have rx:Row w5 b 0 (dc x):=Row.all ((hB.kp0 k4).kp0 hk5) rfl
  have g12:H≤12:=by omega
  repeat (first|apply gst|(apply gsv;rfl;(first|apply qia|apply qmv|apply qas|apply qlc|apply qla|apply qfa|apply qnc|apply qic)<;>first|rfl|(apply Ar.mk;omega)|assumption|exact List.not_mem_nil|apply ah))
  refine SG.ret rfl rfl rfl (vs:=[dv x,.int .i64 (H:Int)]) (Evs.of rfl) (wD x H (by omega) w5) (fun w6 hk6=>?_)
  refine SG.aG (old:=dc zd) (l:=dc (mM x H)) rfl rfl (ag rfl) (ag rfl) ((hB4.kp0 hk5).kp0 hk6) (ah _) (ah _) (aR _) (fun w7 hk7 hB7=>?_)
  have r7:Row w7 b4 0 (dc (mM x H)):=Row.all hB7 rfl
  clear rT rx
  repeat apply gst
  refine aS (Or.inl rfl) Tryz.results165 (by exact aC.agg rfl rfl (by assumption) (by first|exact ah _|exact nc_length _|exact rc_length _ _ _|exact aD _|exact dl_length _ _ _ _|exact aF _|exact aL _|exact aM _|exact aj _|rfl)) ?_
  exact⟨rfl,((hk4.trans hk5).trans hk6).ai hk7 (bf hb4)⟩
 repeat (first|apply gst|(apply gsv;rfl;(first|apply qmv|apply qas|apply qxt)<;>rfl))
 refine SG.ret rfl rfl rfl (vs:=[.pointer (some ⟨bT,0,none⟩)]) (Evs.of rfl) (hr w2 (Kp.refl _ _)) (fun w3 hk3=>?_)
 repeat (apply gsv;rfl;apply qmv<;>rfl)
 refine SG.aG (old:=dc zd) (l:=dc (mM x H)) rfl rfl (ag rfl) (ag rfl) (hB2.kp0 hk3) (ah _) (ah _) (aR _) (fun w4 hk4 hB4=>?_)
 have r4:Row w4 b2 0 (dc (mM x H)):=Row.all hB4 rfl
 repeat (first|apply gst|(apply gsv;rfl;apply qas<;>rfl))
 refine dX (Or.inl rfl) Tryz.results132 (by first|exact aC.tmp rfl|exact aC.agg rfl rfl (by assumption) (by first|exact ah _|exact nc_length _|exact rc_length _ _ _|exact aD _|exact dl_length _ _ _ _|exact aF _|exact aL _|exact aM _|exact aj _|rfl)) (by first|exact aC.tmp rfl|exact aC.agg rfl rfl (by assumption) (by first|exact ah _|exact nc_length _|exact rc_length _ _ _|exact aD _|exact dl_length _ _ _ _|exact aF _|exact aL _|exact aM _|exact aj _|rfl)) ?_
 exact⟨rfl,(k2.trans hk3).ai hk4 (bf hb2)⟩
end
section
def rtD(b:Bl):Dg:=if b.txs.length=0 then fZ else ja (b.txs.map aN)
def jV(b:Bl):List UInt8:=cM (num b.par)++cM (dz b.ht)++cM (num b.mkr)++cM b.txs.length
def aK(b:Bl):Dg:=cL (ofI (jV b++cM (num (rtD b)))) [98,108,111,99,107]
noncomputable def orZ(b:Bl)(d:Dg):Value:=if aU b=0 then .tuple #[dv d,.int .i64 0] else .tuple #[dv zd,.int .i64 (aU b)]
theorem jF{b:Bl}(h:aU b=0):b.txs.length≤64:=by
 unfold aU at h
 split at h
 ·cases h
 ·split at h
  ·cases h
  ·omega
attribute [local irreducible] CG NG SG aO Der Row Blk az aH num cz cm bQ bH orJ cM aP cL ofI dd bz dp aN rgt lE hg0 sH mM fZ ja aU rtD
theorem so{w:World}{n0:Nat}{x:Bm}(hx:x.In n0 w):Ret Tryz.prog 91 #[bkv x] w (orZ x.b (rtD x.b)):=by
 refine aQ Tryz.func91 rfl Tryz.ntmps91 rfl ?_
 repeat apply gst
 refine SG.box rfl rfl rfl (ag rfl) (fun b1 w1 hk1 hb1 hB1=>?_)
 have hB1:Blk w1 b1 (.cells (bkc x).toArray 50):=hB1
 refine SG.alloc rfl rfl rfl (fun b2 w2 hk2 hb2 hB2=>?_)
 have hB2:Blk w2 b2 (.cells (dc zd).toArray 47):=hB2
 have k2:=hk1.trans hk2
 have g2:w.heap.size≤b2:=by have:=hk1.size;omega
 obtain⟨r,-⟩:=bC (hB1.kp0 hk2)
 repeat (first|apply gst|(apply gsv;rfl;(first|apply qas|apply qla)<;>first|rfl|assumption|exact List.not_mem_nil|apply aB))
 refine SG.ret rfl rfl rfl (vs:=[bkv x]) (Evs.of rfl) (j6 (hx.kp0 k2)) (fun w3 hk3=>?_)
 have k3:=k2.trans hk3
 have hB2:=hB2.kp0 hk3
 clear r
 by_cases h0:aU x.b=0
 rotate_left
 ·have e0:orZ x.b (rtD x.b)= .tuple #[dv zd,.int .i64 (aU x.b)]:=by unfold orZ;rw[if_neg h0]
  rw[e0]
  generalize aU x.b=z at h0⊢
  repeat (first|apply gst|(apply gsv;rfl;(first|apply qmv|apply qas|apply qni)<;>first|rfl|(apply dcf;first|assumption|omega)))
  refine gct rfl ?_
  repeat apply gst
  refine SG.val rfl rfl rfl rfl (au rfl bzd) ?_
  repeat (apply gsv;rfl;apply qmv<;>rfl)
  refine SG.aG (l:=dc zd) rfl rfl (ag rfl) (ag rfl) hB2 (ah _) rfl (aR _) (fun w4 hk4 hB4=>?_)
  have r4:Row w4 b2 0 (dc zd):=Row.all hB4 rfl
  repeat (first|apply gst|(apply gsv;rfl;apply qas<;>rfl))
  refine dX (Or.inl rfl) Tryz.results91 (by first|exact aC.tmp rfl|exact aC.agg rfl rfl (by assumption) (by first|exact ah _|exact nc_length _|exact rc_length _ _ _|exact aD _|exact dl_length _ _ _ _|exact aF _|exact aL _|exact aM _|exact aj _|rfl)) (by first|exact aC.tmp rfl|exact aC.agg rfl rfl (by assumption) (by first|exact ah _|exact nc_length _|exact rc_length _ _ _|exact aD _|exact dl_length _ _ _ _|exact aF _|exact aL _|exact aM _|exact aj _|rfl)) ?_
  exact⟨rfl,k3.ai hk4 (bf g2)⟩
 have e0:orZ x.b (rtD x.b)= .tuple #[dv (rtD x.b),.int .i64 0]:=by unfold orZ;rw[if_pos h0]
 have hlen:x.xs.length≤64:=by have:=jF h0;rwa [show x.b.txs.length=x.xs.length from List.length_map _] at this
 rw[e0,h0]
 have h00:(0:Int)=0:=rfl
 obtain⟨-,-,-,-,r3⟩:=bC (hB1.kp0 (hk2.trans hk3))
 by_cases hz:x.xs.length=0
 ·have ez:(x.xs.length:Int)=0:=by omega
  have ed:rtD x.b=cL zd [110,111,110,101]:=by
   unfold rtD
   rw[if_pos (show x.b.txs.length=0 from(List.length_map _).trans hz)]
   unfold fZ
   rfl
  rw[ed]
  repeat (first|apply gst|(apply gsv;rfl;(first|apply qmv|apply qas|apply qni)<;>first|rfl|(apply dct;first|assumption|omega)))
  refine gcf rfl ?_
  repeat (first|apply gst|(apply gsv;rfl;(first|apply qlc|apply qfa|apply qei|apply qln)<;>first|rfl|assumption|(apply dct;first|assumption|omega)|exact List.not_mem_nil))
  refine gct rfl ?_
  repeat apply gst
  refine SG.val rfl rfl rfl rfl (au rfl bzd) ?_
  refine SG.ret rfl rfl rfl (vs:=[dv zd,sv [110,111,110,101]]) (Evs.of rfl) (dZ zd [110,111,110,101] (by decide) _) (fun w4 hk4=>?_)
  refine SG.aG (l:=dc (cL zd [110,111,110,101])) rfl rfl (ag rfl) (ag rfl) (hB2.kp0 hk4) (ah _) rfl (aR _) (fun w5 hk5 hB5=>?_)
  have r5:Row w5 b2 0 (dc (cL zd [110,111,110,101])):=Row.all hB5 rfl
  clear r3
  repeat (first|apply gst|(apply gsv;rfl;apply qas<;>rfl))
  refine dX (Or.inl rfl) Tryz.results91 (by first|exact aC.tmp rfl|exact aC.agg rfl rfl (by assumption) (by first|exact ah _|exact nc_length _|exact rc_length _ _ _|exact aD _|exact dl_length _ _ _ _|exact aF _|exact aL _|exact aM _|exact aj _|rfl)) (by first|exact aC.tmp rfl|exact aC.agg rfl rfl (by assumption) (by first|exact ah _|exact nc_length _|exact rc_length _ _ _|exact aD _|exact dl_length _ _ _ _|exact aF _|exact aL _|exact aM _|exact aj _|rfl)) ?_
  exact⟨rfl,(k3.trans hk4).ai hk5 (bf g2)⟩
 ·have ez:¬(x.xs.length:Int)=0:=by omega
  have ed:rtD x.b=ja (x.xs.map (fun x=>aN x.t)):=by
   unfold rtD
   rw[if_neg (show ¬x.b.txs.length=0 from fun e=>hz ((List.length_map _).symm.trans e))]
   congr 1
   exact List.map_map
  rw[ed]
  repeat (first|apply gst|(apply gsv;rfl;(first|apply qmv|apply qas|apply qni)<;>first|rfl|(apply dct;first|assumption|omega)))
  refine gcf rfl ?_
  repeat (first|apply gst|(apply gsv;rfl;(first|apply qlc|apply qfa|apply qei|apply qln)<;>first|rfl|assumption|(apply dcf;first|assumption|omega)|exact List.not_mem_nil))
  refine gcf rfl ?_
  clear r3
  obtain⟨r,-⟩:=bC (hB1.kp0 (hk2.trans hk3))
  repeat (first|apply gst|(apply gsv;rfl;apply qla<;>first|rfl|assumption|exact List.not_mem_nil|apply aB))
  refine SG.call rfl rfl rfl (vs:=[bkv x]) (Evs.of rfl) ((rB (hx.kp0 k3)).mono (fun e w4 hh=>?_))
  obtain⟨v4,he,ho4,hk4⟩:=hh
  refine⟨_,he,?_⟩
  clear he r
  obtain⟨a4,c4,rfl,-,hS4⟩:=Sl.own ah ho4 rfl
  refine SG.ret rfl rfl rfl (vs:=[.slice a4 (x.xs.map (fun x=>aN x.t)).length c4]) (Evs.of rfl) (rC c4 hS4 (by rw[List.length_map];omega) (by rw[List.length_map];omega)) (fun w5 hk5=>?_)
  repeat (apply gsv;rfl;apply qxt<;>rfl)
  refine SG.aG (l:=dc (ja (x.xs.map (fun x=>aN x.t)))) rfl rfl (ag rfl) (ag rfl) ((hB2.kp0 hk4).kp0 hk5) (ah _) rfl (aR _) (fun w6 hk6 hB6=>?_)
  have r6:Row w6 b2 0 (dc (ja (x.xs.map (fun x=>aN x.t)))):=Row.all hB6 rfl
  repeat (first|apply gst|(apply gsv;rfl;apply qas<;>rfl))
  refine dX (Or.inl rfl) Tryz.results91 (by first|exact aC.tmp rfl|exact aC.agg rfl rfl (by assumption) (by first|exact ah _|exact nc_length _|exact rc_length _ _ _|exact aD _|exact dl_length _ _ _ _|exact aF _|exact aL _|exact aM _|exact aj _|rfl)) (by first|exact aC.tmp rfl|exact aC.agg rfl rfl (by assumption) (by first|exact ah _|exact nc_length _|exact rc_length _ _ _|exact aD _|exact dl_length _ _ _ _|exact aF _|exact aL _|exact aM _|exact aj _|rfl)) ?_
  exact⟨rfl,((k3.trans hk4).trans hk5).ai hk6 (bf g2)⟩
end
section
theorem uB(b:Bl):(jV b).length≤44:=by
 have p1:=bj (num b.par)
 have p2:=bj (dz b.ht)
 have p3:=bj (num b.mkr)
 have p4:=bj b.txs.length
 simp only[jV,List.length_append]
 omega
attribute [local irreducible] CG NG SG aO Der Row Blk az aH num cz cm bQ bH orJ cM aP cL ofI dd bz dp aN rgt lE hg0 sH mM fZ ja aU rtD
theorem sw{w:World}{n0:Nat}{x:Bm}(hx:x.In n0 w):oC Tryz.prog 5 by1 1 94 #[bkv x] w (jV x.b):=by
 refine aQ Tryz.func94 rfl Tryz.ntmps94 rfl ?_
 have hl:=hx.len
 have p1:=bj (num x.par)
 have p2:=bj (dz x.ht)
 have p3:=bj (num x.mkr)
 have z2:=jw x.ht
 have eh:jV x.b=cM (num x.par)++cM (dz x.ht)++cM (num x.mkr)++cM x.xs.length:=by
  have:x.b.txs.length=x.xs.length:=List.length_map _
  unfold jV
  rw[this]
  rfl
 rw[eh]
 repeat apply gst
 refine SG.box rfl rfl rfl (ag rfl) (fun b1 w1 hk1 hb1 hB1=>?_)
 have hB1:Blk w1 b1 (.cells (bkc x).toArray 50):=hB1
 obtain⟨-,r0,r1,r2,r3⟩:=bC hB1
 repeat (first|apply gst|(apply gsv;rfl;(first|apply qas|apply qla|apply qfa)<;>first|rfl|assumption|exact List.not_mem_nil|apply ah))
 refine SG.ret rfl rfl rfl (vs:=[dv x.par]) (Evs.of rfl) (cR x.par w1) (fun w2 hk2=>?_)
 refine SG.call rfl rfl rfl (vs:=[.slice none 0 0,.int .u64 (num x.par:Int)]) (Evs.of rfl) ((bN (l:=[]) Bs.nil (num x.par) (nr _) (by simp)).mono (fun e w3 hh=>?_))
 obtain⟨v3,he,ho3,hk3⟩:=hh
 refine⟨_,he,?_⟩
 rw[List.nil_append] at ho3
 obtain⟨a3,c3,rfl,hS3⟩:=Bs.own ho3
 have k23:=hk2.trans hk3
 have r1:=r1.kp0 k23
 have r2:=r2.kp0 k23
 have r3:=r3.kp0 k23
 clear r0
 repeat (first|apply gst|(apply gsv;rfl;(first|apply qmv|apply qas|apply qlc|apply qfa|apply qcv)<;>first|rfl|assumption|exact List.not_mem_nil))
 rw[fQ]
 refine SG.call rfl rfl rfl (vs:=[.slice a3 (cM (num x.par)).length c3,.int .u64 (dz x.ht:Int)]) (Evs.of rfl) ((bN hS3 (dz x.ht) z2 (by omega)).mono (fun e w4 hh=>?_))
 obtain⟨v4,he,ho4,hk4⟩:=hh
 refine⟨_,he,?_⟩
 obtain⟨a4,c4,rfl,hS4⟩:=Bs.own ho4
 have r2:=r2.kp0 hk4
 have r3:=r3.kp0 hk4
 clear r1
 repeat (first|apply gst|(apply gsv;rfl;(first|apply qmv|apply qas|apply qla|apply qfa)<;>first|rfl|assumption|exact List.not_mem_nil|apply ah))
 refine SG.ret rfl rfl rfl (vs:=[dv x.mkr]) (Evs.of rfl) (cR x.mkr w4) (fun w5 hk5=>?_)
 refine SG.call rfl rfl rfl (vs:=[.slice a4 (cM (num x.par)++cM (dz x.ht)).length c4,.int .u64 (num x.mkr:Int)]) (Evs.of rfl) ((bN (hS4.kp0 hk5) (num x.mkr) (nr _) (by simp only[List.length_append];omega)).mono (fun e w6 hh=>?_))
 obtain⟨v6,he,ho6,hk6⟩:=hh
 refine⟨_,he,?_⟩
 obtain⟨a6,c6,rfl,hS6⟩:=Bs.own ho6
 have r3:=(r3.kp0 hk5).kp0 hk6
 clear r2
 repeat (first|apply gst|(apply gsv;rfl;first|(apply CW<;>(first|rfl|(apply Ar.mk;omega)|assumption|exact List.not_mem_nil))|((first|apply qmv|apply qas|apply qlc|apply qfa|apply qln)<;>(first|rfl|(apply Ar.mk;omega)|assumption|exact List.not_mem_nil))))
 refine SG.call rfl rfl rfl (vs:=[.slice a6 (cM (num x.par)++cM (dz x.ht)++cM (num x.mkr)).length c6,.int .u64 (x.xs.length:Int)]) (Evs.of rfl) ((bN hS6 x.xs.length (by omega) (by simp only[List.length_append];omega)).mono (fun e w7 hh=>?_))
 obtain⟨v7,he,ho7,hk7⟩:=hh
 refine⟨_,he,?_⟩
 have k6:Kp [] w w6:=(((hk1.trans k23).trans hk4).trans hk5).trans hk6
 repeat (first|apply gst|(apply gsv;rfl;apply qas<;>rfl))
 refine aS (Or.inl rfl) Tryz.results94 (aC.tmp rfl) ?_
 exact⟨_,rfl,bW ho7 k6.size,k6.trans hk7⟩
theorem dD{w:World}{n0:Nat}{x:Bm}(hx:x.In n0 w):Ret Tryz.prog 46 #[bkv x] w (orZ x.b (aK x.b)):=by
 refine aQ Tryz.func46 rfl Tryz.ntmps46 rfl ?_
 have hhl:=uB x.b
 have p1:=bj (num (rtD x.b))
 repeat apply gst
 refine SG.box rfl rfl rfl (ag rfl) (fun b1 w1 hk1 hb1 hB1=>?_)
 have hB1:Blk w1 b1 (.cells (bkc x).toArray 50):=hB1
 refine SG.alloc rfl rfl rfl (fun b2 w2 hk2 hb2 hB2=>?_)
 have hB2:Blk w2 b2 (.cells (dc zd).toArray 47):=hB2
 have k2:=hk1.trans hk2
 have g2:w.heap.size≤b2:=by have:=hk1.size;omega
 have l2:=hB2.lt
 obtain⟨r,-⟩:=bC (hB1.kp0 hk2)
 repeat (first|apply gst|(apply gsv;rfl;(first|apply qas|apply qla)<;>first|rfl|assumption|exact List.not_mem_nil|apply aB))
 refine SG.ret rfl rfl rfl (vs:=[bkv x]) (Evs.of rfl) (so (hx.kp0 k2)) (fun w3 hk3=>?_)
 have k3:=k2.trans hk3
 have hB2:=hB2.kp0 hk3
 have s2:=k2.size
 have s3:=hk3.size
 clear r
 by_cases h0:aU x.b=0
 rotate_left
 ·have e0:∀d,orZ x.b d= .tuple #[dv zd,.int .i64 (aU x.b)]:=fun d=>by unfold orZ;rw[if_neg h0]
  rw[e0,e0]
  generalize aU x.b=z at h0⊢
  repeat (apply gsv;rfl;(first|apply qmv|apply qxt)<;>rfl)
  refine SG.alloc rfl rfl rfl (fun b4 w4 hk4 hb4 hB4=>?_)
  refine SG.aG (l:=dc zd) rfl rfl (ag rfl) (ag rfl) hB4 (ah _) rfl (aR _) (fun w5 hk5 hB5=>?_)
  have k35:=hk4.ai hk5 (bf hb4)
  have hB2:=hB2.kp0 k35
  repeat (first|apply gst|(apply gsv;rfl;(first|apply qmv|apply qas|apply qni)<;>first|rfl|(apply dcf;first|assumption|omega)))
  refine gct rfl ?_
  repeat apply gst
  refine SG.val rfl rfl rfl rfl (au rfl bzd) ?_
  repeat (apply gsv;rfl;apply qmv<;>rfl)
  refine SG.aG (l:=dc zd) rfl rfl (ag rfl) (ag rfl) hB2 (ah _) rfl (aR _) (fun w6 hk6 hB6=>?_)
  have r6:Row w6 b2 0 (dc zd):=Row.all hB6 rfl
  repeat (first|apply gst|(apply gsv;rfl;apply qas<;>rfl))
  refine dX (Or.inl rfl) Tryz.results46 (by first|exact aC.tmp rfl|exact aC.agg rfl rfl (by assumption) (by first|exact ah _|exact nc_length _|exact rc_length _ _ _|exact aD _|exact dl_length _ _ _ _|exact aF _|exact aL _|exact aM _|exact aj _|rfl)) (by first|exact aC.tmp rfl|exact aC.agg rfl rfl (by assumption) (by first|exact ah _|exact nc_length _|exact rc_length _ _ _|exact aD _|exact dl_length _ _ _ _|exact aF _|exact aL _|exact aM _|exact aj _|rfl)) ?_
  exact⟨rfl,(k3.trans k35).ai hk6 (bf g2)⟩
 have e0:∀d,orZ x.b d= .tuple #[dv d,.int .i64 0]:=fun d=>by unfold orZ;rw[if_pos h0]
 rw[e0,e0]
 repeat (apply gsv;rfl;(first|apply qmv|apply qxt)<;>rfl)
 refine SG.alloc rfl rfl rfl (fun b4 w4 hk4 hb4 hB4=>?_)
 refine SG.aG (l:=dc (rtD x.b)) rfl rfl (ag rfl) (ag rfl) hB4 (ah _) rfl (aR _) (fun w5 hk5 hB5=>?_)
 have k35:=hk4.ai hk5 (bf hb4)
 have k5:=k3.trans k35
 have hB2:=hB2.kp0 k35
 have h00:(0:Int)=0:=rfl
 repeat (first|apply gst|(apply gsv;rfl;(first|apply qmv|apply qas|apply qni)<;>first|rfl|(apply dct;first|assumption|omega)))
 refine gcf rfl ?_
 obtain⟨r,-⟩:=bC (((hB1.kp0 hk2).kp0 hk3).kp0 k35)
 have r5:Row w5 b4 0 (dc (rtD x.b)):=Row.all hB5 rfl
 repeat apply gst
 refine CG.dG mixed 4 [0,2,3,1] [1] [] (fun _=>True) (by kernel_rfl) trivial (fun _ _ _ _=>trivial) ?_
 repeat (apply gdv;rfl;rfl;apply qla<;>first|rfl|assumption|exact List.not_mem_nil|apply ah|apply aB)
 refine Der.call rfl rfl rfl (vs:=[dv (rtD x.b)]) (Evs.of rfl) (fun W _ _=>cR _ W) ?_
 refine Der.mj (X:=Option Addr×Nat) (vs:=[bkv x]) (fun q=> .slice q.1 (jV x.b).length q.2) (fun q W=>Bs W q.1 q.2 (jV x.b)) rfl rfl rfl rfl (Evs.of rfl) (fun q W W' hk h=>h.kp0 hk) (fun _ _ _ h=>h) (fun W hk _=>(sw ((hx.kp0 k5).kp0 hk)).mono (fun e W' hh=>?_)) (fun q=>?_)
 ·obtain⟨v',he,ho,hk'⟩:=hh
  obtain⟨a',c',rfl,hS⟩:=Bs.own ho
  exact⟨(a',c'),he,hS,hk'⟩
 refine Der.tl (fun w6 hk6 hF _=>?_)
 clear r r5
 refine SG.call rfl rfl rfl (vs:=[.slice q.1 (jV x.b).length q.2,.int .u64 (num (rtD x.b):Int)]) (Evs.of rfl) ((bN hF.2 (num (rtD x.b)) (nr _) (by omega)).mono (fun e w7 hh=>?_))
 obtain⟨v7,he,ho7,hk7⟩:=hh
 refine⟨_,he,?_⟩
 obtain⟨a7,c7,rfl,hS7⟩:=Bs.own ho7
 refine SG.ret rfl rfl rfl (vs:=[.slice a7 (jV x.b++cM (num (rtD x.b))).length c7]) (Evs.of rfl) (jK hS7.sl (lP ho7) (fun b off e=>bR ho7 b (by subst e;rfl)) (by simp only[List.length_append];omega) hS7.len) (fun w8 hk8=>?_)
 refine SG.ret rfl rfl rfl (vs:=[dv (ofI (jV x.b++cM (num (rtD x.b)))),sv [98,108,111,99,107]]) (Evs.of rfl) (dZ _ [98,108,111,99,107] (by decide) w8) (fun w9 hk9=>?_)
 refine SG.aG (l:=dc (aK x.b)) rfl rfl (ag rfl) (ag rfl) ((((hB2.kp0 hk6).kp0 hk7).kp0 hk8).kp0 hk9) (ah _) rfl (aR _) (fun wa hka hBa=>?_)
 have ra:Row wa b2 0 (dc (aK x.b)):=Row.all hBa rfl
 repeat (first|apply gst|(apply gsv;rfl;apply qas<;>rfl))
 refine dX (Or.inl rfl) Tryz.results46 (by first|exact aC.tmp rfl|exact aC.agg rfl rfl (by assumption) (by first|exact ah _|exact nc_length _|exact rc_length _ _ _|exact aD _|exact dl_length _ _ _ _|exact aF _|exact aL _|exact aM _|exact aj _|rfl)) (by first|exact aC.tmp rfl|exact aC.agg rfl rfl (by assumption) (by first|exact ah _|exact nc_length _|exact rc_length _ _ _|exact aD _|exact dl_length _ _ _ _|exact aF _|exact aL _|exact aM _|exact aj _|rfl)) ?_
 exact⟨rfl,((((k5.trans hk6).trans hk7).trans hk8).trans hk9).ai hka (bf g2)⟩
end
section
noncomputable def oh(b p:Bl):Int:=if aU b≠0 then aU b else if aU p≠0∨b.par≠aK p∨b.ht≠p.ht+1 then 24 else 0
attribute [local irreducible] CG NG SG aO Der Row Blk az aH num cz cm bQ bH orJ cM aP cL ofI dd bz dp aN rgt lE hg0 sH mM fZ ja aU rtD aK
theorem pC{w:World}{n0 n1:Nat}{x y:Bm}(hx:x.In n0 w)(hy:y.In n1 w)(hyh:0≤y.ht∧y.ht≤1099511627776):Ret Tryz.prog 70 #[bkv x,bkv y] w (.int .i64 (oh x.b y.b)):=by
 refine bh Tryz.func70 rfl Tryz.ntmps70 rfl ?_
 repeat apply gst
 refine SG.box rfl rfl rfl (ag rfl) (fun b2 w1 hk1 hb2 hB2=>?_)
 have hB2:Blk w1 b2 (.cells (bkc x).toArray 50):=hB2
 refine SG.box rfl rfl rfl (ag rfl) (fun b3 w2 hk2 hb3 hB3=>?_)
 have hB3:Blk w2 b3 (.cells (bkc y).toArray 50):=hB3
 have k2:=hk1.trans hk2
 have hB2:=hB2.kp0 hk2
 obtain⟨r,-⟩:=bC hB2
 repeat (first|apply gst|(apply gsv;rfl;(first|apply qas|apply qla)<;>first|rfl|assumption|exact List.not_mem_nil|apply aB))
 refine SG.ret rfl rfl rfl (vs:=[bkv x]) (Evs.of rfl) (j6 (hx.kp0 k2)) (fun w3 hk3=>?_)
 have k3:=k2.trans hk3
 clear r
 by_cases h0:aU x.b=0
 rotate_left
 ·have e0:oh x.b y.b=aU x.b:=by unfold oh;rw[if_pos h0]
  rw[e0]
  generalize aU x.b=z at h0⊢
  repeat (first|apply gst|(apply gsv;rfl;(first|apply qmv|apply qas|apply qni)<;>first|rfl|(apply dcf;first|assumption|omega)))
  refine gct rfl ?_
  repeat (first|apply gst|(apply gsv;rfl;(first|apply qmv|apply qas)<;>rfl))
  refine aS (Or.inl rfl) Tryz.results70 (aC.tmp rfl) ?_
  exact⟨rfl,k3⟩
 have e0:oh x.b y.b=if aU y.b≠0∨x.b.par≠aK y.b∨x.b.ht≠y.b.ht+1 then 24 else 0:=by unfold oh;rw[if_neg (fun h=>h h0)]
 rw[e0,h0]
 clear e0
 have h00:(0:Int)=0:=rfl
 repeat (first|apply gst|(apply gsv;rfl;(first|apply qmv|apply qas|apply qni)<;>first|rfl|(apply dct;first|assumption|omega)))
 refine gcf rfl ?_
 obtain⟨r,-⟩:=bC (hB3.kp0 hk3)
 repeat (first|apply gst|(apply gsv;rfl;apply qla<;>first|rfl|assumption|exact List.not_mem_nil|apply aB))
 refine SG.ret rfl rfl rfl (vs:=[bkv y]) (Evs.of rfl) (dD (hy.kp0 k3)) (fun w4 hk4=>?_)
 have k4:=k3.trans hk4
 clear r
 have hB2:=(hB2.kp0 hk3).kp0 hk4
 have hB3:=(hB3.kp0 hk3).kp0 hk4
 have l2:=hB2.lt
 have l3:=hB3.lt
 have fin:∀{L:Env} {w':World} {z:Int},(if aU y.b≠0∨x.b.par≠aK y.b∨x.b.ht≠y.b.ht+1 then(24:Int) else 0)=z→Kp [] w w'→look L 4=some (.int .i64 z)→NG 34 .ret (bodyPost Tryz.prog Tryz.f70 (fun e w'=>e= .returned (.int .i64 (if aU y.b≠0∨x.b.par≠aK y.b∨x.b.ht≠y.b.ht+1 then 24 else 0))∧Kp [] w w')) L w':=
  fun hb hk' hL=>aS (Or.inl rfl) Tryz.results70 (aC.tmp hL) ⟨by rw[hb],hk'⟩
 by_cases h1:aU y.b=0
 rotate_left
 ·have e1:orZ y.b (aK y.b)= .tuple #[dv zd,.int .i64 (aU y.b)]:=by unfold orZ;rw[if_neg h1]
  rw[e1]
  have ee:(if aU y.b≠0∨x.b.par≠aK y.b∨x.b.ht≠y.b.ht+1 then(24:Int) else 0)=24:=if_pos (Or.inl h1)
  repeat (apply gsv;rfl;(first|apply qmv|apply qxt)<;>rfl)
  refine SG.alloc rfl rfl rfl (fun b6 w5 hk5 hb6 hB6=>?_)
  refine SG.aG (l:=dc zd) rfl rfl (ag rfl) (ag rfl) hB6 (ah _) rfl (aR _) (fun w6 hk6 hB6=>?_)
  repeat (first|apply gst|(apply gsv;rfl;(first|apply qmv|apply qas|apply qpk|apply qni)<;>first|rfl|(apply dcf;first|assumption|omega))|refine SG.skip rfl rfl ?_)
  refine gct rfl ?_
  repeat (first|apply gst|(apply gsv;rfl;apply qas<;>rfl))
  exact fin ee (k4.trans (hk5.ai hk6 (bf hb6))) rfl
 have e1:orZ y.b (aK y.b)= .tuple #[dv (aK y.b),.int .i64 0]:=by unfold orZ;rw[if_pos h1]
 rw[e1]
 repeat (apply gsv;rfl;(first|apply qmv|apply qxt)<;>rfl)
 refine SG.alloc rfl rfl rfl (fun b6 w5 hk5 hb6 hB6=>?_)
 refine SG.aG (l:=dc (aK y.b)) rfl rfl (ag rfl) (ag rfl) hB6 (ah _) rfl (aR _) (fun w6 hk6 hB6=>?_)
 have k46:=hk5.ai hk6 (bf hb6)
 have k6:=k4.trans k46
 have q6:Row w6 b6 0 (dc (aK y.b)):=Row.all hB6 rfl
 obtain⟨-,r0,r1,-⟩:=bC (hB2.kp0 k46)
 obtain⟨-,-,s1,-⟩:=bC (hB3.kp0 k46)
 have o2:Ar (-9223372036854775808≤y.ht+1∧y.ht+1≤9223372036854775807):=Ar.mk (by omega)
 by_cases h2:x.par=aK y.b
 rotate_left
 ·repeat (first|apply gst|(apply gsv;rfl;(first|apply qmv|apply qas|apply qla|apply qfa|apply qpk|apply qni|apply qnd)<;>first|rfl|assumption|(apply dct;first|assumption|omega)|(apply dcf;first|assumption|omega)|exact List.not_mem_nil|apply ah)|refine SG.skip rfl rfl ?_)
  refine gct rfl ?_
  repeat (first|apply gst|(apply gsv;rfl;apply qas<;>rfl))
  exact fin (if_pos (Or.inr (Or.inl h2))) k6 rfl
 by_cases h3:x.ht=y.ht+1
 rotate_left
 ·repeat (first|apply gst|(apply gsv;rfl;(first|apply qmv|apply qas|apply qlc|apply qla|apply qfa|apply qpk|apply qni|apply qnd|apply qad)<;>first|rfl|(apply Ar.mk;omega)|assumption|(apply dct;first|assumption|omega)|(apply dcf;first|assumption|omega)|exact List.not_mem_nil|apply ah))
  refine gct rfl ?_
  repeat (first|apply gst|(apply gsv;rfl;apply qas<;>rfl))
  exact fin (if_pos (Or.inr (Or.inr h3))) k6 rfl
 repeat (first|apply gst|(apply gsv;rfl;(first|apply qmv|apply qas|apply qlc|apply qla|apply qfa|apply qpk|apply qni|apply qnd|apply qad)<;>first|rfl|(apply Ar.mk;omega)|assumption|(apply dct;first|assumption|omega)|exact List.not_mem_nil|apply ah))
 refine gcf rfl ?_
 repeat (first|apply gst|(apply gsv;rfl;apply qas<;>rfl))
 exact fin (if_neg (fun h=>h.elim (fun h=>h h1) (fun h=>h.elim (fun h=>h h2) (fun h=>h h3)))) k6 rfl
end
section
theorem Bm.In.mono{x:Bm}{n m:Nat}{w:World}(h:x.In n w)(hn:n≤m):x.In m w:=⟨⟨h.tx.sl,h.tx.tg.elim Or.inl (fun g=>Or.inr (fun b off e=>Nat.lt_of_lt_of_le (g b off e) hn)),fun y hy=>(h.tx.ins y hy).mono hn⟩,h.len⟩
theorem vg(x:Bm):bkc x=(dc x.par++(.int .i64 x.ht::dc x.mkr))++([.slice x.a x.xs.length x.c]++[]):=by simp[bkc]
def bm0:Bm:=⟨zd,0,zd,none,0,[]⟩
attribute [local irreducible] CG NG SG aO Der Row Blk az aH num cz cm bQ bH orJ cM aP cL ofI dd bz dp aN rgt lE hg0 sH mM fZ ja aU rtD aK
theorem ic{w:World}{n0:Nat}{x:Bm}(hx:x.In n0 w):Calls Tryz.prog 57 #[bkv x] w (fun e w'=>∃y:Bm,y.b=x.b∧e= .returned (bkv y)∧y.In 0 w'∧Kp [] w w'∧∀b off,y.a=some ⟨b,off,none⟩→w.heap.size≤b):=by
 refine aQ Tryz.func57 rfl Tryz.ntmps57 rfl ?_
 have hl:=hx.len
 have hS:=hx.tx.sl
 have hI:=hx.tx.ins
 clear hx
 repeat apply gst
 refine SG.box rfl rfl rfl (ag rfl) (fun b1 w1 hk1 hb1 hB1=>?_)
 have hB1:Blk w1 b1 (.cells (bkc x).toArray 50):=hB1
 refine SG.alloc rfl rfl rfl (fun b2 w1' hk1' hb2 hB2=>?_)
 have hB2:Blk w1' b2 (.cells (bkc bm0).toArray 50):=hB2
 have l1:=hB1.lt
 have l2':=hB2.lt
 have s1:=hk1.size
 have hB1:=hB1.kp0 hk1'
 have k1:=hk1.trans hk1'
 obtain⟨-,-,-,-,r3⟩:=bC hB1
 obtain⟨par,ht,mkr,a,c,xs⟩:=x
 simp only at hl hS hI r3
 repeat (first|apply gst|(apply gsv;rfl;(first|apply qlc|apply qfa|apply qln)<;>first|rfl|assumption|exact List.not_mem_nil))
 refine SG.lS (e:=52) (c:=xs.length) rfl rfl rfl (ag rfl) (ag rfl) rfl rfl (by show 80*_≤_;omega) (by simp only[maxLen];omega) (fun b w2 hk2 hb2' ho=>?_)
 have k2:=k1.trans hk2
 have r3:=r3.kp0 hk2
 have hB1:=hB1.kp0 hk2
 have hB2:=hB2.kp0 hk2
 have l2:=hB2.lt
 repeat (first|apply gst|(apply gsv;rfl;(first|apply qmv|apply qas|apply qlc|apply qfa|apply qln)<;>first|rfl|assumption|exact List.not_mem_nil))
 refine CG.loop (X:=Nat×Value×List Tm) (fun q=>[(1,.pointer (some ⟨b1,0,none⟩)),(2,.pointer (some ⟨b2,0,none⟩)),(3,q.2.1),(11,.slice a xs.length c),(12,.int .i64 (xs.length:Int)),(13,.int .i64 (q.1:Int))])
  (fun q w'=>q.1≤xs.length∧(Kp [] w w'∧Blk w' b1 (.cells (bkc ⟨par,ht,mkr,a,c,xs⟩).toArray 50)∧Blk w' b2 (.cells (bkc bm0).toArray 50)∧w1'.heap.size≤w'.heap.size)∧w'.ownsRow w1'.heap.size 52 13 q.2.1 q.2.2.length (flt txc q.2.2)∧q.2.2.length=q.1∧q.2.2.map (·.t)=(xs.map (·.t)).take q.1∧∀y∈q.2.2,y.In 0 w')
  (fun q=>xs.length-q.1) (0,.slice (some ⟨b,0,none⟩) 0 xs.length,[]) ⟨Nat.zero_le _,⟨k2,hB1,hB2,hk2.size⟩,ho,rfl,rfl,fun y hy=>(by cases hy)⟩ (aZ.of rfl) ?_
 clear r3
 rintro⟨i,v,ys⟩ w3 ⟨hi,⟨k3,hB31,hB32,s13⟩,ho3,hyl,hym,hyI⟩
 simp only at hi ho3 hyl hym hyI
 have l31:=hB31.lt
 have l32:=hB32.lt
 have s1'':=hk1'.size
 refine CG.to [(1,.pointer (some ⟨b1,0,none⟩)),(2,.pointer (some ⟨b2,0,none⟩)),(3,v),(11,.slice a xs.length c),(12,.int .i64 (xs.length:Int)),(13,.int .i64 (i:Int))] (aZ.of rfl) ?_
 by_cases hlt:i<xs.length
 ·have g1:(i:Int)<(xs.length:Int):=by omega
  obtain⟨ba,off,rfl,hrow⟩:=(hS.kp0 k3).at hlt
  repeat (first|apply gst|(apply gsv;rfl;apply qls<;>first|rfl|(apply dct;first|assumption|omega)))
  refine gct rfl ?_
  repeat (first|apply gst|(apply gsv;rfl;(first|apply qla|apply qix)<;>first|rfl|(apply Ar.mk;omega)|assumption|exact List.not_mem_nil|apply aj))
  refine SG.alloc rfl rfl rfl (fun b5 w5 hk5 hb5 hB5=>?_)
  refine SG.aG (l:=txc xs[i]) rfl rfl (ag rfl) (ag rfl) hB5 (aj _) rfl (bD _) (fun w6 hk6 hB6=>?_)
  have k36:=hk5.ai hk6 (bf hb5)
  obtain⟨q2,-⟩:=aJ hB6
  clear hrow
  repeat (first|apply gst|(apply gsv;rfl;(first|apply qmv|apply qla)<;>first|rfl|assumption|exact List.not_mem_nil|apply aj))
  refine SG.call rfl rfl rfl (vs:=[txv xs[i]]) (Evs.of rfl) ((eL ((hI _ (List.getElem_mem hlt)).kp0 (k3.trans k36))).mono (fun e w7 hh=>?_))
  obtain⟨y,hy,he,hyI7,hk7,-,-⟩:=hh
  refine⟨_,he,?_⟩
  clear he q2
  refine SG.buildSlice rfl rfl rfl rfl (A7 y) (fun b7 w8 hk8 hb7 hB7=>?_)
  have k38:=(k36.trans hk7).trans hk8
  have ho8:=aI ho3 k38
  have s2:=hk2.size
  have s3:=k3.size
  have s38:=k38.size
  refine SG.ou (enc:=txc) (xs:=ys) (ys:=[y]) (base:=w1'.heap.size) rfl rfl rfl (ag rfl) (ag rfl) rfl rfl rfl rfl aj bD ho8 (fL (enc:=txc) (sz:=13) (x:=y) aj hB7) (by simp only[maxLen,List.length_singleton];omega) (by show(ys.length+1)*80≤_;omega) (by omega) (fun v9 w9 hk9 ho9 hv9=>?_)
  have hO:Oth 0 w8 (aT v):=Oth.own ho8 (Nat.zero_le _) (by decide)
  have nO:∀{z:Nat},z<w1'.heap.size→z∉aT v:=fun hz hm=>by have:=bE ho8 _ (ay hm);omega
  have hln:(ys++[y]).length=i+1:=by rw[List.length_append,hyl];rfl
  repeat (first|apply gst|(apply gsv;rfl;(first|apply qmv|apply qas|apply qad)<;>first|rfl|(apply Ar.mk;omega)))
  refine NG.round (i+1,v9,ys++[y]) (aZ.of rfl) ⟨hlt,⟨(k3.trans k38).ai hk9 (cP ho8 k1.size),(hB31.kp0 k38).kp hk9 (nO (by omega)),(hB32.kp0 k38).kp hk9 (nO (by omega)),by have:=hk9.size;omega⟩,ho9,hln,?_,fun z hz=>?_⟩ (by simp only;omega)
  ·rw[List.map_append,List.map_cons,List.map_nil,hym,hy,take_one (fun x:Tm=>x.t) hlt]
  ·rcases List.mem_append.1 hz with hz|hz
   ·exact((hyI z hz).kp0 k38).kpO hk9 hO
   ·rw[List.mem_singleton] at hz
    subst hz
    exact(hyI7.kp0 hk8).kpO hk9 hO
 ·have g1:¬(i:Int)<(xs.length:Int):=by omega
  have e8:i=xs.length:=by omega
  subst e8
  rw[List.take_of_length_le (by rw[List.length_map];exact Nat.le_refl _)] at hym
  obtain⟨a3,c3,rfl,-,hS3⟩:=Sl.own aj ho3 rfl
  have ty3:Ty 52 w3 a3 ys:=Ty.own ho3
  have ga:=dV ho3
  have hl3:ys.length=xs.length:=hyl
  repeat (first|apply gst|(apply gsv;rfl;apply qls<;>first|rfl|(apply dcf;first|assumption|omega)))
  refine gcf rfl ?_
  repeat (first|apply gst|(apply gsv;rfl;(first|apply qmv|apply qfa)<;>rfl))
  rw[hl3]
  refine SG.bG (dc par++(.int .i64 ht::dc mkr)) [.slice a xs.length c] [] rfl rfl (ag rfl) (ag rfl) hB31 (by rw[List.toList_toArray];exact vg _) rfl rfl (by simp[ah]) rfl (fun w4 hk4 hB4=>?_)
  have hB4:Blk w4 b1 (.cells (bkc ⟨par,ht,mkr,a3,c3,ys⟩).toArray 50):=by
   rw[vg]
   rw[←hl3] at hB4
   exact hB4
  obtain⟨r,-⟩:=bC hB4
  have n1:∀b off,a3=some ⟨b,off,none⟩→b∉[b1]:=fun b off e=>nm1 (by have:=ga b off e;omega)
  have n2:∀b off,a3=some ⟨b,off,none⟩→b∉[b2]:=fun b off e=>nm1 (by have:=ga b off e;omega)
  repeat (first|apply gst|(apply gsv;rfl;apply qla<;>first|rfl|assumption|exact List.not_mem_nil|apply aB))
  refine SG.aG (l:=bkc ⟨par,ht,mkr,a3,c3,ys⟩) rfl rfl (ag rfl) (ag rfl) (hB32.kp hk4 (nm1 (by omega))) (aB _) rfl (dh _) (fun w5 hk5 hB5=>?_)
  have r5:Row w5 b2 0 (bkc ⟨par,ht,mkr,a3,c3,ys⟩):=Row.all hB5 rfl
  repeat apply gst
  refine aS (Or.inl rfl) Tryz.results57 (aC.agg rfl rfl r5 (aB _)) ?_
  refine⟨⟨par,ht,mkr,a3,c3,ys⟩,?_,rfl,⟨⟨(hS3.kp hk4 n1).kp hk5 n2,Or.inl ((ty3.kp hk4 (fun _=>n1)).kp hk5 (fun _=>n2)),fun y hy=>((hyI y hy).kpO hk4 (vK hB31 (by decide))).kpO hk5 (vK (hB32.kp hk4 (nm1 (by omega))) (by decide))⟩,by show ys.length≤_;omega⟩,(k3.ai hk4 (bf (by omega))).ai hk5 (bf (by omega)),fun b off e=>by have h1:=ga b off e;have h2:=k1.size;omega⟩
  unfold Bm.b
  simp only[hym]
end
section
def bK(s:List UInt8):Bm:=⟨zd,0,ofI s,none,0,[]⟩
theorem DQ(w:World)(b0 b1 b2 b3 b4 b5 b6 b7:UInt8):(Instr.build 50 #[(2,.agg #[bv b0,bv b1,bv b2,bv b3,bv b4,bv b5,bv b6,bv b7])]).run Tryz.prog w=
  .ok (.agg #[bv 0,bv 0,bv 0,bv 0,bv 0,bv 0,bv 0,bv 0,.int .i64 0,bv b0,bv b1,bv b2,bv b3,bv b4,bv b5,bv b6,bv b7,.slice none 0 0]) w:=by kernel_rfl
theorem K7(w:World)(d:Dg):(Instr.build 50 #[(2,dv d)]).run Tryz.prog w= .ok (bkv ⟨zd,0,d,none,0,[]⟩) w:=by
 obtain⟨lb,hb⟩:=d
 match lb,hb with
 |[b0,b1,b2,b3,b4,b5,b6,b7],_=>exact DQ w b0 b1 b2 b3 b4 b5 b6 b7
theorem nR(s:List UInt8)(n:Nat)(w:World):(bK s).In n w:=⟨⟨Sl.nil,Or.inl (fun h=>absurd rfl h),fun y hy=>(by cases hy)⟩,by show 0≤_;omega⟩
attribute [local irreducible] CG NG SG aO Der Row Blk az aH num cz cm bQ bH orJ cM aP cL ofI dd bz dp aN rgt lE hg0 sH mM fZ ja aU rtD aK
theorem rO(s:List UInt8)(hl:s.length≤1000)(w:World):Ret Tryz.prog 76 #[sv s] w (bkv (bK s)):=by
 refine aQ Tryz.func76 rfl Tryz.ntmps76 rfl ?_
 repeat apply gst
 refine SG.alloc rfl rfl rfl (fun b2 w1 hk1 hb2 hB2=>?_)
 have hB2:Blk w1 b2 (.cells (bkc bm0).toArray 50):=hB2
 repeat (first|apply gst|(apply gsv;rfl;apply qmv<;>rfl))
 refine SG.Ea rfl rfl rfl rfl (fun b c w2 hk2 hb hc hlt hS=>?_)
 refine SG.ret rfl rfl rfl (vs:=[.slice (some ⟨b,0,none⟩) s.length c]) (Evs.of rfl) (jK hS (Or.inr ⟨_,_,rfl⟩) (fun b2 off e=>by cases e;exact hlt) (by omega) hc) (fun w3 hk3=>?_)
 refine SG.val rfl rfl rfl rfl (au rfl (fun W=>K7 W (ofI s))) ?_
 refine SG.aG (l:=bkc (bK s)) rfl rfl (ag rfl) (ag rfl) ((hB2.kp0 hk2).kp0 hk3) (aB _) rfl (dh _) (fun w4 hk4 hB4=>?_)
 have r4:Row w4 b2 0 (bkc (bK s)):=Row.all hB4 rfl
 repeat apply gst
 refine aS (Or.inl rfl) Tryz.results76 (aC.agg rfl rfl r4 (aB _)) ?_
 exact⟨rfl,((hk1.trans hk2).trans hk3).ai hk4 (bf hb2)⟩
end
section
structure Tl where
 n:Nat
 log:Dg
def tlc(t:Tl):List Value:= .int .i64 (t.n:Int)::dc t.log
abbrev lB(w:World)(b:Nat)(t:Tl):Prop:=Blk w b (.cells (tlc t).toArray 76)
def xG:Dg:=⟨[200,0,0,0,0,0,0,0],rfl⟩
theorem DP(w:World):(Instr.build 47 #[(0,.int .u8 200)]).run Tryz.prog w= .ok (dv xG) w:=by kernel_rfl
theorem oP{w:World}{b:Nat}{t:Tl}(h:lB w b t):Row w b 0 [.int .i64 (t.n:Int)]∧Row w b 1 (dc t.log):=⟨Row.of h [] (dc t.log) rfl rfl,Row.of h [.int .i64 (t.n:Int)] [] (by simp[tlc]) rfl⟩
theorem KT(w:World)(n:Int)(b0 b1 b2 b3 b4 b5 b6 b7:UInt8):(Instr.build 76 #[(0,.int .i64 n),(1,.agg #[bv b0,bv b1,bv b2,bv b3,bv b4,bv b5,bv b6,bv b7])]).run Tryz.prog w= .ok (.agg #[.int .i64 n,bv b0,bv b1,bv b2,bv b3,bv b4,bv b5,bv b6,bv b7]) w:=by kernel_rfl
theorem btl(w:World)(t:Tl):(Instr.build 76 #[(0,.int .i64 (t.n:Int)),(1,dv t.log)]).run Tryz.prog w= .ok (.agg (tlc t).toArray) w:=by
 obtain⟨n,⟨lb,hb⟩⟩:=t
 match lb,hb with
 |[b0,b1,b2,b3,b4,b5,b6,b7],_=>exact KT w n b0 b1 b2 b3 b4 b5 b6 b7
attribute [local irreducible] CG NG SG aO Der Row Blk az aH num cz cm bQ bH orJ cM aP cL ofI dd bz dp aN rgt lE
theorem uo(w:World):Ret Tryz.prog 171 #[] w (dv xG):=by
 refine uI Tryz.func171 rfl Tryz.ntmps171 ?_
 repeat apply gst
 refine SG.alloc rfl rfl rfl (fun b2 w1 hk1 hb2 hB2=>?_)
 repeat apply gst
 refine SG.val rfl rfl rfl rfl (au rfl DP) ?_
 refine SG.aG (old:=dc zd) (l:=dc xG) rfl rfl (ag rfl) (ag rfl) hB2 (ah _) (ah _) (aR _) (fun w2 hk2 hB=>?_)
 have r:Row w2 b2 0 (dc xG):=Row.all hB rfl
 repeat apply gst
 refine aS (Or.inl rfl) Tryz.results171 (by exact aC.agg rfl rfl (by assumption) (by first|exact ah _|exact nc_length _|exact rc_length _ _ _|exact aD _|exact dl_length _ _ _ _|exact aF _|exact aL _|exact aM _|exact aj _|rfl)) ?_
 exact⟨rfl,hk1.ai hk2 (bf hb2)⟩
theorem fb{w:World}{b:Nat}{t:Tl}(hT:lB w b t):Calls Tryz.prog 250 #[.pointer (some ⟨b,0,none⟩)] w (fun e w'=>∃b',e= .returned (.iface 74 (.pointer (some ⟨b',0,none⟩)))∧w.heap.size≤b'∧lB w' b' t∧Kp [] w w'):=by
 refine aQ Tryz.func250 rfl Tryz.ntmps250 rfl ?_
 obtain⟨r0,r1⟩:=oP hT
 repeat (first|apply gst|(apply gsv;rfl;apply qas<;>rfl))
 refine CG.tail mixed 8 [0,1,2,3,4,5,6,7] (by kernel_rfl) ?_
 repeat (apply gdv;rfl;rfl;(first|apply qmv|apply qlc|apply qla|apply qfa|apply qnc)<;>first|rfl|assumption|exact List.not_mem_nil|apply ah)
 refine Der.tl (fun w1 hk1 _ _=>?_)
 refine SG.val rfl rfl rfl rfl (au rfl (fun W=>btl W t)) ?_
 refine SG.box rfl rfl rfl (ag rfl) (fun b' w2 hk2 hb' hB=>?_)
 refine SG.val rfl rfl rfl rfl (CV (hu:=ty.u74) rfl rfl) ?_
 repeat (first|apply gst|(apply gsv;rfl;apply qas<;>rfl))
 refine aS (Or.inl rfl) Tryz.results250 (aC.tmp rfl) ?_
 exact⟨b',rfl,Nat.le_trans hk1.size hb',hB,hk1.trans hk2⟩
end
section
theorem KZ(w:World)(a0 a1 a2 a3 a4 a5 a6 a7 b0 b1 b2 b3 b4 b5 b6 b7 c0 c1 c2 c3 c4 c5 c6 c7 d0 d1 d2 d3 d4 d5 d6 d7 e0 e1 e2 e3 e4 e5 e6 e7:UInt8):(Instr.buildSlice 93 5 #[(0,.agg #[bv a0,bv a1,bv a2,bv a3,bv a4,bv a5,bv a6,bv a7]),(1,.agg #[bv b0,bv b1,bv b2,bv b3,bv b4,bv b5,bv b6,bv b7]),(2,.agg #[bv c0,bv c1,bv c2,bv c3,bv c4,bv c5,bv c6,bv c7]),(3,.agg #[bv d0,bv d1,bv d2,bv d3,bv d4,bv d5,bv d6,bv d7]),(4,.agg #[bv e0,bv e1,bv e2,bv e3,bv e4,bv e5,bv e6,bv e7])]).run Tryz.prog w= .ok (.slice (some ⟨w.heap.size,0,none⟩) 5 5) {w with heap:=w.heap.push (.cells #[bv a0,bv a1,bv a2,bv a3,bv a4,bv a5,bv a6,bv a7,bv b0,bv b1,bv b2,bv b3,bv b4,bv b5,bv b6,bv b7,bv c0,bv c1,bv c2,bv c3,bv c4,bv c5,bv c6,bv c7,bv d0,bv d1,bv d2,bv d3,bv d4,bv d5,bv d6,bv d7,bv e0,bv e1,bv e2,bv e3,bv e4,bv e5,bv e6,bv e7] 47)}:=by kernel_rfl
theorem bs5(a b c d e:Dg)(w:World):(Instr.buildSlice 93 5 #[(0,dv a),(1,dv b),(2,dv c),(3,dv d),(4,dv e)]).run Tryz.prog w= .ok (.slice (some ⟨w.heap.size,0,none⟩) 5 5) {w with heap:=w.heap.push (.cells (flat [a,b,c,d,e]).toArray 47)}:=by
 obtain⟨a,ha⟩:=a
 obtain⟨b,hb⟩:=b
 obtain⟨c,hc⟩:=c
 obtain⟨d,hd⟩:=d
 obtain⟨e,he⟩:=e
 match a,ha,b,hb,c,hc,d,hd,e,he with
 |[a0,a1,a2,a3,a4,a5,a6,a7],_,[b0,b1,b2,b3,b4,b5,b6,b7],_,[c0,c1,c2,c3,c4,c5,c6,c7],_,[d0,d1,d2,d3,d4,d5,d6,d7],_,[e0,e1,e2,e3,e4,e5,e6,e7],_=>exact KZ w a0 a1 a2 a3 a4 a5 a6 a7 b0 b1 b2 b3 b4 b5 b6 b7 c0 c1 c2 c3 c4 c5 c6 c7 d0 d1 d2 d3 d4 d5 d6 d7 e0 e1 e2 e3 e4 e5 e6 e7
def tdZ(m:Bk)(f:Dg)(l:List UInt8):Int:=match l with
 |[]=>3
 |u::_=>if mvE m f (u.toNat:Int)≠0 then mvE m f (u.toNat:Int) else if u=13 then 10 else 0
def tdT(t:Tl)(h:Int)(f:Dg)(k:Int)(l:List UInt8):Tl:=match l with
 |[]=>t
 |_=>⟨t.n+1,rE [t.log,f,frm (dz h),frm (dz k),ofI l]⟩
def tdM(m:Bk)(f:Dg)(l:List UInt8):Bk:=match l with
 |[]=>m
 |u::_=>mvM m f xG (u.toNat:Int)
theorem zx{κ ν:Type}{enc:κ→Value}{V:ν→Value}{m:List (κ×ν)}{w:World}{b pm off:Nat}{l:List Value}(hr:Row w b off l)(hm:az w pm enc V m):b≠pm:=fun e=>by
 subst e
 obtain⟨cs,T,f,h1,-⟩:=hr
 obtain⟨es,c,h2,-⟩:=hm
 have:=Blk.uniq h2 h1
 cases this
attribute [local irreducible] CG NG SG aO Der Row Blk az aH num cz cm bQ bH orJ cM aP cL ofI dd bz dp aN rgt lE rE frm mvE mvM
theorem sY{w:World}{b bt bm:Nat}{t:Tl}{m:Bk}(hT:lB w b t)(hB:bB w bt bm m)(hg:Good m)(ht:t.n≤1000000){a:Option Addr}{c:Nat}{l:List UInt8}(hS:Bs w a c l)(hl:l.length≤10000000)(hne:∀z off,a=some ⟨z,off,none⟩→z≠b)(h k:Int)(f:Dg):
  Calls Tryz.prog 138 #[.pointer (some ⟨b,0,none⟩),.int .i64 h,dv f,.int .i64 k,.slice a l.length c,.pointer (some ⟨bt,0,none⟩)] w (fun e w'=>e= .returned (.int .i64 (tdZ m f l))∧lB w' b (tdT t h f k l)∧bB w' bt bm (tdM m f l)∧Kp [b,bm] w w'):=by
 refine eH (args:=[.pointer (some ⟨b,0,none⟩),.int .i64 h,dv f,.int .i64 k,.slice a l.length c,.pointer (some ⟨bt,0,none⟩)]) Tryz.func138 rfl Tryz.ntmps138 rfl ?_
 have lb:=hT.lt
 have lt:=hB.blk.lt
 have lm:=hB.map.lt
 repeat apply gst
 refine SG.box rfl rfl rfl (ag rfl) (fun b8 w1 hk1 hb8 hB8=>?_)
 have r8:Row w1 b8 0 (dc f):=Row.all hB8 rfl
 have l8:=hB8.lt
 cases l with
 |nil=>
  have h0:(([]:List UInt8).length:Int)=0:=rfl
  repeat (first|apply gst|(apply gsv;rfl;(first|apply qmv|apply qas|apply qei|apply qln)<;>first|rfl|(apply dct;first|assumption|omega)))
  refine gct rfl ?_
  repeat (first|apply gst|(apply gsv;rfl;apply qas<;>rfl))
  refine aS (Or.inl rfl) Tryz.results138 (aC.tmp rfl) ?_
  exact⟨rfl,hT.kp0 hk1,⟨hB.blk.kp0 hk1,hB.map.kp0 hk1⟩,hk1.any⟩
 |cons u l=>
  have h0:¬((u::l).length:Int)=0:=by simp only[List.length_cons];omega
  repeat (first|apply gst|(apply gsv;rfl;(first|apply qmv|apply qas|apply qei|apply qln)<;>first|rfl|(apply dcf;first|assumption|omega)))
  refine gcf rfl ?_
  obtain⟨r0,-⟩:=oP (hT.kp0 hk1)
  repeat (first|apply gst|(apply gsv;rfl;(first|apply qmv|apply qlc|apply qfa|apply qnc|apply qad)<;>first|rfl|(apply Ar.mk;omega)|assumption|exact List.not_mem_nil))
  refine SG.bG [] [.int .i64 (t.n:Int)] (dc t.log) rfl rfl (ag rfl) (ag rfl) (hT.kp0 hk1) rfl rfl rfl rfl rfl (fun w2 hk2 hT2=>?_)
  clear r0
  have hT2:lB w2 b ⟨t.n+1,t.log⟩:=hT2
  obtain⟨-,r1⟩:=oP hT2
  have r8:=r8.kp hk2 (nm1 (by omega))
  have hS2:=(hS.kp0 hk1).kp hk2 (fun z off e=>nm1 (hne z off e))
  have nbt:bt≠b:=fun e=>by
   subst e
   have:=Blk.uniq hT hB.blk
   simp only[Obj.cells.injEq] at this
   exact absurd this.2.1 (by decide)
  have nbm:bm≠b:=cS hT hB.map
  have hB2:bB w2 bt bm m:=⟨(hB.blk.kp0 hk1).kp hk2 (nm1 nbt),(hB.map.kp0 hk1).kp hk2 (nm1 nbm)⟩
  have s1:=hk1.size
  have s2:=hk2.size
  repeat apply gst
  refine CG.dG mixed 16 [0,1,2,3,4,5,6,7,8,9,10,11,12,13,14,15] [14] [] (fun _=>True) (by kernel_rfl) trivial (fun _ _ _ _=>trivial) ?_
  repeat (apply gdv;rfl;rfl;(first|apply qmv|apply qla|apply qfa|apply qnc|apply qcv)<;>first|rfl|assumption|exact List.not_mem_nil|apply ah)
  rw[fQ]
  refine Der.call rfl rfl rfl (vs:=[.int .u64 (dz h:Int)]) (Evs.of rfl) (fun W _ _=>gZ (dz h) W) ?_
  repeat (apply gdv;rfl;rfl;(first|apply qmv|apply qcv)<;>rfl)
  rw[fQ]
  refine Der.call rfl rfl rfl (vs:=[.int .u64 (dz k:Int)]) (Evs.of rfl) (fun W _ _=>gZ (dz k) W) ?_
  repeat (apply gdv;rfl;rfl;apply qmv<;>rfl)
  refine Der.call rfl rfl rfl (vs:=[.slice a (u::l).length c]) (Evs.of rfl) (fun W hk _=>jK (hS2.kp0 hk).sl (hS2.some.elim Or.inl (fun h=>h.elim Or.inr (fun h=>absurd h.1 (by simp)))) (fun z off e=>(hS2.kp0 hk).lt (by simp) z off e) (by omega) hS2.len) ?_
  refine Der.iZ (cs:=(flat [t.log,f,frm (dz h),frm (dz k),ofI (u::l)]).toArray) (E:=47) rfl rfl rfl rfl rfl (fun W=>bs5 _ _ _ _ _ W) (by simp) (fun _ _ _ _=>trivial) (fun _ _ _ _=>trivial) (fun bn=>?_)
  refine Der.call rfl rfl rfl (vs:=[.slice (some ⟨bn,0,none⟩) 5 5]) (Evs.of rfl) (fun W hk hF=>ue (l:=[t.log,f,frm (dz h),frm (dz k),ofI (u::l)]) 5 (Sl.fj (pre:=[]) (post:=[]) (T:=47) ah (by rw[List.append_nil,List.nil_append];exact hF.2.2)) (fun z off e=>by cases e;exact hF.2.2.lt) (by simp)) ?_
  refine Der.tl (fun w3 hk3 _ _=>?_)
  clear r1
  repeat (apply gsv;rfl;(first|apply qfa|apply qnc)<;>rfl)
  refine SG.bG [.int .i64 ((t.n+1:Nat):Int)] (dc t.log) [] rfl rfl (ag rfl) (ag rfl) (hT2.kp0 hk3) (by simp[tlc]) (by exact ah _) (ah _) rfl (by exact aR _) (fun w4 hk4 hT4=>?_)
  obtain⟨t',ht'⟩:∃t',tdT t h f k (u::l)=t':=⟨_,rfl⟩
  have hT4:lB w4 b t':=by
   rw[←ht']
   have e:tlc (tdT t h f k (u::l))=[.int .i64 ((t.n+1:Nat):Int)]++(dc (rE [t.log,f,frm (dz h),frm (dz k),ofI (u::l)])++[]):=by simp[tlc,tdT]
   show Blk _ _ _
   rw[e]
   exact hT4
  rw[ht']
  have s3:=hk3.size
  have hB4:bB w4 bt bm m:=⟨(hB2.blk.kp0 hk3).kp hk4 (nm1 nbt),(hB2.map.kp0 hk3).kp hk4 (nm1 nbm)⟩
  have r8:=(r8.kp0 hk3).kp hk4 (nm1 (by omega))
  have hS4:=(hS2.kp0 hk3).kp hk4 (fun z off e=>nm1 (hne z off e))
  have k4:Kp [b] w w4:=((hk1.any.trans hk2).trans hk3.any).trans hk4
  obtain⟨za,off,ea,ru⟩:=hS4.sl.at (i:=0) (by simp)
  have ru:Row w4 za off [bv u]:=by simpa using ru
  cases ea
  have hu:=u.toNat_lt
  repeat apply gst
  refine CG.tail mixed 7 [0,1,2,3,4,5,6] (by kernel_rfl) ?_
  repeat (apply gdv;rfl;rfl;(first|apply qmv|apply qla)<;>first|rfl|assumption|exact List.not_mem_nil|apply ah)
  refine Der.call rfl rfl rfl (vs:=[]) True.intro (fun W _ _=>uo W) ?_
  repeat (apply gdv;rfl;rfl;(first|apply qb3|apply qmv|apply qlc|apply qic)<;>first|rfl|(apply Ar.mk;omega)|assumption|exact List.not_mem_nil)
  refine Der.tl (fun w5 hk5 _ _=>?_)
  refine SG.call rfl rfl rfl (vs:=[.pointer (some ⟨bt,0,none⟩),dv f,dv xG,.int .i64 (u.toNat:Int)]) (Evs.of rfl) ((iG ⟨hB4.blk.kp0 hk5,hB4.map.kp0 hk5⟩ hg f xG (u.toNat:Int)).mono (fun e w6 hh=>?_))
  obtain⟨he,hB6,hk6⟩:=hh
  refine⟨_,he,?_⟩
  have ru:=(ru.kp0 hk5).kp hk6 (nm1 (zx ru hB4.map))
  have hT6:lB w6 b t':=(hT4.kp0 hk5).kp hk6 (nm1 (fun e=>nbm e.symm))
  have k6:Kp [b,bm] w w6:=((k4.trans hk5.any).mono (fun z hz=>by rw[List.mem_singleton] at hz;rw[hz];exact List.mem_cons_self)).trans (hk6.mono (fun z hz=>List.mem_cons_of_mem _ hz))
  clear r8 he
  have eM:tdM m f (u::l)=mvM m f xG (u.toNat:Int):=rfl
  rw[eM]
  by_cases h1:mvE m f (u.toNat:Int)=0
  rotate_left
  ·have eZ:tdZ m f (u::l)=mvE m f (u.toNat:Int):=if_pos h1
   rw[eZ]
   generalize mvE m f (u.toNat:Int)=z at h1⊢
   repeat (first|apply gst|(apply gsv;rfl;(first|apply qmv|apply qas|apply qni)<;>first|rfl|(apply dcf;first|assumption|omega)))
   refine gct rfl ?_
   repeat (first|apply gst|(apply gsv;rfl;(first|apply qmv|apply qas)<;>rfl))
   refine aS (Or.inl rfl) Tryz.results138 (aC.tmp rfl) ?_
   exact⟨rfl,hT6,hB6,k6⟩
  have eZ:tdZ m f (u::l)=if u=13 then 10 else 0:=if_neg (fun h=>h h1)
  rw[eZ,h1]
  have h00:(0:Int)=0:=rfl
  repeat (first|apply gst|(apply gsv;rfl;(first|apply qmv|apply qas|apply qni)<;>first|rfl|(apply dct;first|assumption|omega)))
  refine gcf rfl ?_
  by_cases h13:u=13
  ·subst h13
   have e13:((13:UInt8).toNat:Int)=13:=rfl
   rw[if_pos rfl]
   repeat (first|apply gst|(apply gsv;rfl;(first|apply qmv|apply qlc|apply qic|apply qei)<;>first|rfl|(apply Ar.mk;omega)|assumption|(apply dct;first|assumption|omega)|exact List.not_mem_nil))
   refine gct rfl ?_
   repeat (first|apply gst|(apply gsv;rfl;apply qas<;>rfl))
   refine aS (Or.inl rfl) Tryz.results138 (aC.tmp rfl) ?_
   exact⟨rfl,hT6,hB6,k6⟩
  ·have e13:¬(u.toNat:Int)=13:=fun e=>h13 (by
    apply UInt8.toNat.inj
    show u.toNat=13
    omega)
   rw[if_neg h13]
   repeat (first|apply gst|(apply gsv;rfl;(first|apply qmv|apply qlc|apply qic|apply qei)<;>first|rfl|(apply Ar.mk;omega)|assumption|(apply dcf;first|assumption|omega)|exact List.not_mem_nil))
   refine gcf rfl ?_
   repeat (first|apply gst|(apply gsv;rfl;apply qas<;>rfl))
   refine aS (Or.inl rfl) Tryz.results138 (aC.tmp rfl) ?_
   exact⟨rfl,hT6,hB6,k6⟩
end
section
def bhc(bk tb:Nat)(a:Value):List Value:=[.pointer (some ⟨bk,0,none⟩),.iface 74 (.pointer (some ⟨tb,0,none⟩)),a]
def bhv(bk tb:Nat)(a:Value):Value:= .agg (bhc bk tb a).toArray
def bhp(bk tb:Nat)(a:Value)(ps:List Value):List Value:= .pointer (some ⟨bk,0,none⟩):: .iface 74 (.pointer (some ⟨tb,0,none⟩))::a::ps
theorem dT{w:World}{b bk tb:Nat}{a:Value}{ps:List Value}{T:TypeId}(h:Blk w b (.cells (bhp bk tb a ps).toArray T)):Row w b 0 [.pointer (some ⟨bk,0,none⟩)]∧Row w b 1 [.iface 74 (.pointer (some ⟨tb,0,none⟩))]∧Row w b 2 [a]:=
 ⟨Row.of h [] (.iface 74 (.pointer (some ⟨tb,0,none⟩))::a::ps) rfl rfl,Row.of h [.pointer (some ⟨bk,0,none⟩)] (a::ps) rfl rfl,Row.of h [.pointer (some ⟨bk,0,none⟩),.iface 74 (.pointer (some ⟨tb,0,none⟩))] ps rfl rfl⟩
theorem bbh(bk tb:Nat)(w:World):(Instr.build 116 #[(0,.pointer (some ⟨bk,0,none⟩)),(1,.iface 74 (.pointer (some ⟨tb,0,none⟩)))]).run Tryz.prog w= .ok (bhv bk tb (.slice none 0 0)) w:=by kernel_rfl
theorem vh{w:World}{b bk tb:Nat}{a:Value}(h:Blk w b (.cells (bhc bk tb a).toArray 116)):Row w b 0 [.pointer (some ⟨bk,0,none⟩)]∧Row w b 1 [.iface 74 (.pointer (some ⟨tb,0,none⟩))]∧Row w b 2 [a]:=
 ⟨Row.of h [] [.iface 74 (.pointer (some ⟨tb,0,none⟩)),a] rfl rfl,Row.of h [.pointer (some ⟨bk,0,none⟩)] [a] rfl rfl,Row.of h [.pointer (some ⟨bk,0,none⟩),.iface 74 (.pointer (some ⟨tb,0,none⟩))] [] rfl rfl⟩
attribute [local irreducible] CG NG SG aO Der Row Blk az aH
theorem nx{w:World}{bk bm tb:Nat}{m:Bk}{t:Tl}{v:Value}(hB:bB w bk bm m)(hT:lB w tb t):
  Calls Tryz.prog 71 #[bhv bk tb v] w (fun e w'=>∃bk' bm' tb' m',e= .returned (bhv bk' tb' (.slice none 0 0))∧bB w' bk' bm' m'∧m'.Perm m∧lB w' tb' t∧w.heap.size≤bk'∧w.heap.size≤bm'∧w.heap.size≤tb'∧Kp [] w w'):=by
 refine aQ Tryz.func71 rfl Tryz.ntmps71 rfl ?_
 repeat apply gst
 refine SG.box rfl rfl rfl (ag rfl) (fun b1 w1 hk1 hb1 hB1=>?_)
 have hB1:Blk w1 b1 (.cells (bhc bk tb v).toArray 116):=hB1
 refine SG.alloc rfl rfl rfl (fun b2 w2 hk2 hb2 hB2=>?_)
 have k2:=hk1.trans hk2
 have s1:=hk1.size
 have s2:=hk2.size
 obtain⟨r0,r1,-⟩:=vh (hB1.kp0 hk2)
 repeat apply gst
 refine CG.dG mixed 5 [0,1,3,4,2] [2] [] (fun _=>True) (by kernel_rfl) trivial (fun _ _ _ _=>trivial) ?_
 repeat (apply gdv;rfl;rfl;(first|apply qlc|apply qfa)<;>first|rfl|assumption|exact List.not_mem_nil)
 refine Der.mj (X:=Nat×Nat×{m':Bk//m'.Perm m}) (vs:=[.pointer (some ⟨bk,0,none⟩)]) (fun q=> .pointer (some ⟨q.1,0,none⟩)) (fun q W=>bB W q.1 q.2.1 q.2.2.1∧w2.heap.size≤q.1∧w2.heap.size≤q.2.1) rfl rfl rfl rfl (Evs.of rfl) (fun q W W' hk h=>⟨h.1.kp0 hk,h.2⟩) (fun _ _ _ h=>h) (fun W hk _=>(fw ((hB.kp0 k2).kp0 hk)).mono (fun e W' hh=>?_)) (fun q=>?_)
 ·obtain⟨bt',bm',m',he,hB',hp,g1,g2,hk'⟩:=hh
  exact⟨(bt',bm',⟨m',hp⟩),he,⟨hB',Nat.le_trans hk.size g1,Nat.le_trans hk.size g2⟩,hk'⟩
 refine Der.tl (fun w3 hk3 hF _=>?_)
 obtain⟨-,hB3,g1,g2⟩:=hF
 have k3:=k2.trans hk3
 refine SG.AD (t:=74) (v:= .pointer (some ⟨tb,0,none⟩)) rfl rfl rfl (vs:=[]) (ag rfl) True.intro ((fb (hT.kp0 k3)).mono (fun e w4 hh=>?_))
 obtain⟨tb',he,htb',hT4,hk4⟩:=hh
 refine⟨_,he,?_⟩
 have s3:=hk3.size
 refine SG.val rfl rfl rfl rfl (au rfl (bbh q.1 tb')) ?_
 refine SG.aG (l:=bhc q.1 tb' (.slice none 0 0)) rfl rfl (ag rfl) (ag rfl) ((hB2.kp0 hk3).kp0 hk4) rfl rfl rfl (fun w5 hk5 hB5=>?_)
 have r5:Row w5 b2 0 (bhc q.1 tb' (.slice none 0 0)):=Row.all hB5 rfl
 have l2:=hB2.lt
 clear r0 r1
 repeat apply gst
 refine aS (Or.inl rfl) Tryz.results71 (aC.agg rfl rfl r5 rfl) ?_
 have n:∀{z:Nat},w2.heap.size≤z→z∉[b2]:=fun h=>nm1 (by omega)
 exact⟨q.1,q.2.1,tb',q.2.2.1,rfl,⟨(hB3.blk.kp0 hk4).kp hk5 (n g1),(hB3.map.kp0 hk4).kp hk5 (n g2)⟩,q.2.2.2,hT4.kp hk5 (n (by omega)),by omega,by omega,by omega,(k3.trans hk4).ai hk5 (bf (by omega))⟩
end
section
def AK(m:Bk)(t:Tx):Bool:=decide ((bal m t.frm).nonce=t.non)&&decide (t.fee≤(bal m t.frm).money)
attribute [local irreducible] CG NG SG aO Der Row Blk az aH
theorem sx{w:World}{bs bk bm tb:Nat}{m:Bk}{v:Value}(hs:Blk w bs (.cells (bhc bk tb v).toArray 116))(hB:bB w bk bm m)(x:Tm):
  Ret Tryz.prog 81 #[.pointer (some ⟨bs,0,none⟩),txv x] w (.bool (AK m x.t)):=by
 refine bh Tryz.func81 rfl Tryz.ntmps81 rfl ?_
 repeat apply gst
 refine SG.box rfl rfl rfl (ag rfl) (fun b3 w1 hk1 hb3 hB3=>?_)
 have hB3:Blk w1 b3 (.cells (txc x).toArray 52):=hB3
 obtain⟨-,q0,q1,q2,-⟩:=aJ hB3
 obtain⟨r0,-⟩:=vh (hs.kp0 hk1)
 repeat (first|apply gst|(apply gsv;rfl;apply qas<;>rfl))
 refine CG.hZ mixed [0,1,2,3,4,5,6] [(7,8,5,.tmp 12)] (by kernel_rfl) (by kernel_rfl) ?_
 repeat (apply gdv;rfl;rfl;(first|apply qmv|apply qlc|apply qla|apply qfa|apply qnc)<;>first|rfl|assumption|exact List.not_mem_nil|apply ah)
 refine Der.call rfl rfl rfl (vs:=[.pointer (some ⟨bk,0,none⟩),dv x.t.frm]) (Evs.of rfl) (fun W hk _=>ib ((hB.kp0 hk1).kp0 hk) x.t.frm) ?_
 refine Der.one (iM.of (by rfl) rfl rfl rfl (ag rfl) (by exact aF _) (by rfl) (by exact fA _)) (fun b5 w2 hk2 hb5 hB5=>?_)
 have hB5:Blk w2 b5 (.cells (acl (qG x.t.frm (bal m x.t.frm))).toArray 59):=hB5
 have e0:acl (qG x.t.frm (bal m x.t.frm))=dc x.t.frm++[.int .i64 (bal m x.t.frm).money,.int .i64 (bal m x.t.frm).nonce]:=rfl
 have p1:Row w2 b5 8 [.int .i64 (bal m x.t.frm).money]:=Row.of hB5 (dc x.t.frm) [.int .i64 (bal m x.t.frm).nonce] (by simp[e0]) (ah _)
 have p2:Row w2 b5 9 [.int .i64 (bal m x.t.frm).nonce]:=Row.of hB5 (dc x.t.frm++[.int .i64 (bal m x.t.frm).money]) [] (by simp[e0]) (by simp[ah])
 have q1:=q1.kp0 hk2
 have q2:=q2.kp0 hk2
 have k2:=hk1.trans hk2
 clear q0 r0
 unfold AK
 by_cases h1:(bal m x.t.frm).nonce=x.t.non
 rotate_left
 ·rw[decide_eq_false h1]
  repeat (first|apply gst|(apply gsv;rfl;(first|apply qmv|apply qas|apply qlc|apply qfa|apply qpk|apply qei)<;>first|rfl|assumption|(apply dcf;first|assumption|omega)|exact List.not_mem_nil)|refine SG.skip rfl rfl ?_)
  refine aS (Or.inl rfl) Tryz.results81 (aC.tmp rfl) ?_
  exact⟨rfl,k2⟩
 rw[decide_eq_true h1]
 by_cases h2:x.t.fee≤(bal m x.t.frm).money
 ·rw[decide_eq_true h2]
  repeat (first|apply gst|(apply gsv;rfl;(first|apply qmv|apply qas|apply qlc|apply qfa|apply qpk|apply qei|apply qge)<;>first|rfl|assumption|(apply dct;first|assumption|omega)|exact List.not_mem_nil))
  refine aS (Or.inl rfl) Tryz.results81 (aC.tmp rfl) ?_
  exact⟨rfl,k2⟩
 ·rw[decide_eq_false h2]
  repeat (first|apply gst|(apply gsv;rfl;(first|apply qmv|apply qas|apply qlc|apply qfa|apply qpk|apply qei|apply qge)<;>first|rfl|assumption|(apply dct;first|assumption|omega)|(apply dcf;first|assumption|omega)|exact List.not_mem_nil))
  refine aS (Or.inl rfl) Tryz.results81 (aC.tmp rfl) ?_
  exact⟨rfl,k2⟩
end
section
def yg(m:Bk)(h:Int)(t:Tx):Int:=if t.kind=0 then(if dt t.body≠0 then dt t.body else mvE m t.frm (iu t.body)) else tdZ m t.frm t.body
def sC(m:Bk)(h:Int)(t:Tx):Bk:=if t.kind=0 then(if dt t.body≠0 then m else mvM m t.frm (jc t.body) (iu t.body)) else if tdZ m t.frm t.body=0 then tdM m t.frm t.body else m
def mr(a:Tl)(m:Bk)(h:Int)(t:Tx):Tl:=if t.kind=0 then a else if tdZ m t.frm t.body=0 then tdT a h t.frm t.kind t.body else a
def JL(m:Bk)(mk:Dg)(t:Tx):Bk:=mvM (usM m t.frm t.non) t.frm mk t.fee
def Lt(m:Bk)(t:Tx):Int:=if usE m t.frm t.non≠0 then usE m t.frm t.non else mvE (usM m t.frm t.non) t.frm t.fee
end
section
structure gr(w:World)(T:TypeId)(ps:List Value)(bs bk bm tb:Nat)(m:Bk)(t:Tl)(v:Value):Prop where
 blk:Blk w bs (.cells (bhp bk tb v ps).toArray T)
 book:bB w bk bm m
 app:lB w tb t
theorem gr.kp0{w w':World}{bs bk bm tb:Nat}{m:Bk}{t:Tl}{v:Value}{T:TypeId}{ps:List Value}(h:gr w T ps bs bk bm tb m t v)(hk:Kp [] w w'):gr w' T ps bs bk bm tb m t v:=⟨h.blk.kp0 hk,h.book.kp0 hk,h.app.kp0 hk⟩
theorem gr.AG{w w':World}{bs bk bm tb:Nat}{m m':Bk}{t:Tl}{v:Value}{T:TypeId}{ps:List Value}(h:gr w T ps bs bk bm tb m t v)(hk:Kp [bm] w w')(hB:bB w' bk bm m'):gr w' T ps bs bk bm tb m' t v:=⟨h.blk.kp hk (nm1 (fun e=>cS h.blk h.book.map e.symm)),hB,h.app.kp hk (nm1 (fun e=>cS h.app h.book.map e.symm))⟩
def D7(w:World)(T:TypeId)(ps:List Value)(bs bk bm tb:Nat)(m:Bk)(t:Tl)(v:Value)(h:Int)(x:Tx)(e:Ending)(w':World):Prop:=
 ∃bk' bm' tb' m1,m1.Perm m∧e= .returned (.int .i64 (yg m1 h x))∧gr w' T ps bs bk' bm' tb' (sC m1 h x) (mr t m1 h x) v∧Kp [bs,bm] w w'∧(bk'=bk∧bm'=bm∧tb'=tb∨w.heap.size≤bk'∧w.heap.size≤bm'∧w.heap.size≤tb')
attribute [local irreducible] CG NG SG aO Der Row Blk az aH dt jc iu mvE mvM
theorem pG{w:World}{n0 bs bk bm tb:Nat}{m:Bk}{t:Tl}{v:Value}{T:TypeId}{ps:List Value}(hs:gr w T ps bs bk bm tb m t v)(hg:Good m){x:Tm}(hx:x.In n0 w)(h:Int)(hk0:x.t.kind=0):
  Calls Tryz.prog 121 #[.pointer (some ⟨bs,0,none⟩),.int .i64 h,txv x] w (D7 w T ps bs bk bm tb m t v h x.t):=by
 refine c9 Tryz.func121 rfl Tryz.ntmps121 rfl ?_
 have eZ:yg m h x.t=if dt x.t.body≠0 then dt x.t.body else mvE m x.t.frm (iu x.t.body):=by unfold yg;rw[if_pos hk0]
 have eM:sC m h x.t=if dt x.t.body≠0 then m else mvM m x.t.frm (jc x.t.body) (iu x.t.body):=by unfold sC;rw[if_pos hk0]
 have eT:mr t m h x.t=t:=by unfold mr;rw[if_pos hk0]
 repeat apply gst
 refine SG.box rfl rfl rfl (ag rfl) (fun b5 w1 hk1 hb5 hB5=>?_)
 have hB5:Blk w1 b5 (.cells (txc x).toArray 52):=hB5
 obtain⟨-,-,-,-,r3,-⟩:=aJ hB5
 rw[hk0] at r3
 have h00:(0:Int)=0:=rfl
 repeat (first|apply gst|(apply gsv;rfl;(first|apply qas|apply qlc|apply qfa|apply qei)<;>first|rfl|assumption|(apply dct;first|assumption|omega)|exact List.not_mem_nil))
 refine gct rfl ?_
 clear r3
 obtain⟨r,-⟩:=aJ hB5
 repeat (first|apply gst|(apply gsv;rfl;apply qla<;>first|rfl|assumption|exact List.not_mem_nil|apply aj))
 refine SG.call rfl rfl rfl (vs:=[txv x]) (Evs.of rfl) ((nf (hx.kp0 hk1) hk0).mono (fun e w2 hh=>?_))
 obtain⟨d,n,he,hk2,rfl,rfl⟩:=hh
 refine⟨_,he,?_⟩
 clear he r
 have k2:=hk1.trans hk2
 repeat (apply gsv;rfl;(first|apply qmv|apply qxt)<;>rfl)
 refine SG.alloc rfl rfl rfl (fun b7 w3 hk3 hb7 hB7=>?_)
 refine SG.aG (l:=dc (jc x.t.body)) rfl rfl (ag rfl) (ag rfl) hB7 (ah _) rfl (aR _) (fun w4 hk4 hB4=>?_)
 have k4:=k2.trans (hk3.ai hk4 (bf hb7))
 have q7:Row w4 b7 0 (dc (jc x.t.body)):=Row.all hB4 rfl
 by_cases hz:dt x.t.body=0
 rotate_left
 ·rw[if_pos hz] at eZ eM
  repeat (first|apply gst|(apply gsv;rfl;(first|apply qmv|apply qas|apply qni)<;>first|rfl|(apply dcf;first|assumption|omega)))
  refine gct rfl ?_
  repeat (first|apply gst|(apply gsv;rfl;(first|apply qmv|apply qas)<;>rfl))
  refine aS (Or.inl rfl) Tryz.results121 (aC.tmp rfl) ?_
  exact⟨bk,bm,tb,m,List.Perm.refl _,by rw[eZ],by rw[eM,eT];exact hs.kp0 k4,k4.any,Or.inl ⟨rfl,rfl,rfl⟩⟩
 rw[if_neg (fun h=>h hz)] at eZ eM
 rw[hz]
 have hB5:=(hB5.kp0 hk2).kp0 (hk3.ai hk4 (bf hb7))
 obtain⟨-,q0,-⟩:=aJ hB5
 have hs4:=hs.kp0 k4
 obtain⟨r0,-⟩:=dT hs4.blk
 repeat (first|apply gst|(apply gsv;rfl;(first|apply qmv|apply qas|apply qni)<;>first|rfl|(apply dct;first|assumption|omega)))
 refine gcf rfl ?_
 repeat apply gst
 refine CG.tail mixed 8 [0,1,2,3,4,5,6,7] (by kernel_rfl) ?_
 repeat (apply gdv;rfl;rfl;(first|apply qmv|apply qlc|apply qla|apply qfa|apply qnc)<;>first|rfl|assumption|exact List.not_mem_nil|apply ah)
 refine Der.tl (fun w5 hk5 _ _=>?_)
 refine SG.call rfl rfl rfl (vs:=[.pointer (some ⟨bk,0,none⟩),dv x.t.frm,dv (jc x.t.body),.int .i64 (iu x.t.body)]) (Evs.of rfl) ((iG (hs4.kp0 hk5).book hg x.t.frm (jc x.t.body) (iu x.t.body)).mono (fun e w6 hh=>?_))
 obtain⟨he,hB6,hk6⟩:=hh
 refine⟨_,he,?_⟩
 clear r0 q0 q7 he
 repeat (first|apply gst|(apply gsv;rfl;apply qas<;>rfl))
 refine aS (Or.inl rfl) Tryz.results121 (aC.tmp rfl) ?_
 exact⟨bk,bm,tb,m,List.Perm.refl _,by rw[eZ],by rw[eM,eT];exact(hs4.kp0 hk5).AG hk6 hB6,(k4.trans hk5).any.trans (hk6.mono (fun z hz=>by rw[List.mem_singleton] at hz;rw[hz];simp)),Or.inl ⟨rfl,rfl,rfl⟩⟩
end
section
theorem zq{m1 m:Bk}(hb:∀k,bal m1 k=bal m k)(f:Dg)(l:List UInt8):tdZ m1 f l=tdZ m f l:=by
 cases l with
 |nil=>rfl
 |cons u l=>
  have e:mvE m1 f (u.toNat:Int)=mvE m f (u.toNat:Int):=by unfold mvE;rw[hb]
  show(if mvE m1 f (u.toNat:Int)≠0 then mvE m1 f (u.toNat:Int) else if u=13 then 10 else 0)=_
  rw[e]
  rfl
attribute [local irreducible] CG NG SG aO Der Row Blk az aH dt jc iu mvE mvM tdZ tdM tdT
theorem oq{w:World}{n0 bs bk bm tb:Nat}{m:Bk}{t:Tl}{v:Value}{T:TypeId}{ps:List Value}(hs:gr w T ps bs bk bm tb m t v)(hg:Good m){x:Tm}(hx:x.In n0 w)(h:Int)(hk0:¬x.t.kind=0)(ht:t.n≤1000000):
  Calls Tryz.prog 121 #[.pointer (some ⟨bs,0,none⟩),.int .i64 h,txv x] w (D7 w T ps bs bk bm tb m t v h x.t):=by
 refine c9 Tryz.func121 rfl Tryz.ntmps121 rfl ?_
 repeat apply gst
 refine SG.box rfl rfl rfl (ag rfl) (fun b5 w1 hk1 hb5 hB5=>?_)
 have hB5:Blk w1 b5 (.cells (txc x).toArray 52):=hB5
 obtain⟨-,-,-,-,r3,-⟩:=aJ hB5
 repeat (first|apply gst|(apply gsv;rfl;(first|apply qas|apply qlc|apply qfa|apply qei)<;>first|rfl|assumption|(apply dcf;first|assumption|omega)|exact List.not_mem_nil))
 refine gcf rfl ?_
 clear r3
 obtain⟨r0,r1,-⟩:=dT (hs.kp0 hk1).blk
 repeat apply gst
 refine CG.dG mixed 9 [0,1,2,3,5,6,7,8,4] [4] [] (fun _=>True) (by kernel_rfl) trivial (fun _ _ _ _=>trivial) ?_
 repeat (apply gdv;rfl;rfl;(first|apply qmv|apply qlc|apply qfa|apply qnc)<;>first|rfl|assumption|exact List.not_mem_nil)
 refine Der.uX (t:=74) (v:= .pointer (some ⟨tb,0,none⟩)) (X:=Nat) (vs:=[]) (fun q=> .iface 74 (.pointer (some ⟨q,0,none⟩))) (fun q W=>w1.heap.size≤q∧lB W q t) (fun _ _=>True) rfl rfl rfl rfl (ag rfl) True.intro (fun q W W' hk h=>⟨h.1,h.2.kp0 hk⟩) (fun _ _ _ _ _=>trivial) (fun _ _ _ h=>h) (fun W hk _ _=>(fb (((hs.kp0 hk1).app).kp0 hk)).mono (fun e W' hh=>?_)) (fun tb'=>?_)
 ·obtain⟨b',he,hb',hT',hk'⟩:=hh
  exact⟨b',he,⟨Nat.le_trans hk.size hb',hT'⟩,trivial,hk'⟩
 refine Der.tl (fun w2 hk2 hF _=>?_)
 obtain⟨-,htb,hT2⟩:=hF
 have k2:=hk1.trans hk2
 refine SG.call rfl rfl rfl (vs:=[.pointer (some ⟨bk,0,none⟩)]) (Evs.of rfl) ((fw (hs.kp0 k2).book).mono (fun e w3 hh=>?_))
 obtain⟨bk',bm',m1,he,hB3,hp,gk,gm,hk3⟩:=hh
 refine⟨_,he,?_⟩
 clear r0 r1 he
 have k3:=k2.trans hk3
 have hT3:=hT2.kp0 hk3
 have hB5:=(hB5.kp0 hk2).kp0 hk3
 obtain⟨-,q0,-,-,q3,q4,-⟩:=aJ hB5
 have hx3:=hx.kp0 k3
 repeat (first|apply gst|(apply gsv;rfl;apply qas<;>rfl))
 refine CG.dG mixed 13 [0,1,2,3,4,5,6,7,9,10,11,12,8] [8] [] (fun _=>True) (by kernel_rfl) trivial (fun _ _ _ _=>trivial) ?_
 repeat (apply gdv;rfl;rfl;(first|apply qim|apply qmv|apply qlc|apply qla|apply qfa)<;>first|rfl|assumption|exact List.not_mem_nil|apply ah)
 refine Der.val rfl rfl rfl (CU (f:=138) rfl inferInstance) ?_
 repeat (apply gdv;rfl;rfl;apply qmv<;>rfl)
 refine Der.mj (X:=Option Addr×Nat) (vs:=[x.b]) (fun q=> .slice q.1 x.t.body.length q.2) (fun q W=>Bs W q.1 q.2 x.t.body∧∀z off,q.1=some ⟨z,off,none⟩→w3.heap.size≤z) rfl rfl rfl rfl (Evs.of rfl) (fun q W W' hk h=>⟨h.1.kp0 hk,h.2⟩) (fun _ _ _ h=>h) (fun W hk _=>(dM x.c1 (hx3.kp0 hk).b.sl (by have:=hx.l1;omega)).mono (fun e W' hh=>?_)) (fun q=>?_)
 ·obtain⟨v',he,ho,hk'⟩:=hh
  obtain⟨a',c',rfl,hS⟩:=Bs.own ho
  exact⟨(a',c'),he,⟨hS,fun z off e=>Nat.le_trans hk.size (dV ho z off e)⟩,hk'⟩
 refine Der.tl (fun w4 hk4 hF _=>?_)
 obtain⟨-,hS4,hge⟩:=hF
 have lT3:=hT3.lt
 have hbal:∀k,bal m1 k=bal m k:=fun k=>by
  unfold bal
  rw[lz hp hB3.map.nodup]
 have hg1:Good m1:=fun k=>by rw[hbal];exact hg k
 refine SG.AD (t:=74) (v:= .pointer (some ⟨tb',0,none⟩)) rfl rfl rfl (vs:=[.int .i64 h,dv x.t.frm,.int .i64 x.t.kind,.slice q.1 x.t.body.length q.2,.pointer (some ⟨bk',0,none⟩)]) (ag rfl) (Evs.of rfl) ((sY (hT3.kp0 hk4) (hB3.kp0 hk4) hg1 ht hS4 hx.l1 (fun z off e=>by have:=hge z off e;omega) h x.t.kind x.t.frm).mono (fun e w5 hh=>?_))
 obtain⟨he,hT5,hB5',hk5⟩:=hh
 refine⟨_,he,?_⟩
 have k4:=k3.trans hk4
 have lbs:=hs.blk.lt
 have lbk:=hs.book.blk.lt
 have lbm:=hs.book.map.lt
 have ltb:=hs.app.lt
 have s1:=hk1.size
 have s2:=k2.size
 have s4:=k4.size
 have n5:∀{z:Nat},z<w.heap.size→z∉[tb',bm']:=fun h=>nm2 (by omega) (by omega)
 have hs5:gr w5 T ps bs bk bm tb m t v:=⟨(hs.blk.kp0 k4).kp hk5 (n5 lbs),⟨(hs.book.blk.kp0 k4).kp hk5 (n5 lbk),(hs.book.map.kp0 k4).kp hk5 (n5 lbm)⟩,(hs.app.kp0 k4).kp hk5 (n5 ltb)⟩
 have k5:Kp [] w w5:=k4.ai hk5 (oX (by omega) (by omega))
 have eZ:yg m1 h x.t=tdZ m1 x.t.frm x.t.body:=by unfold yg;rw[if_neg hk0]
 have eM:sC m1 h x.t=if tdZ m1 x.t.frm x.t.body=0 then tdM m1 x.t.frm x.t.body else m1:=by unfold sC;rw[if_neg hk0]
 clear q0 q3 q4
 by_cases hz:tdZ m1 x.t.frm x.t.body=0
 ·rw[if_pos hz] at eM
  have eT:mr t m1 h x.t=tdT t h x.t.frm x.t.kind x.t.body:=by unfold mr;rw[if_neg hk0,if_pos hz]
  rw[hz]
  have h00:(0:Int)=0:=rfl
  have eM2:sC m1 h x.t=tdM m1 x.t.frm x.t.body:=eM
  repeat (first|apply gst|(apply gsv;rfl;(first|apply qmv|apply qas|apply qei)<;>first|rfl|(apply dct;first|assumption|omega)))
  refine gct rfl ?_
  repeat (first|apply gst|(apply gsv;rfl;(first|apply qmv|apply qfa|apply qnc)<;>rfl))
  refine SG.bG [.pointer (some ⟨bk,0,none⟩)] [.iface 74 (.pointer (some ⟨tb,0,none⟩))] (v::ps) rfl rfl (ag rfl) (ag rfl) hs5.blk rfl rfl rfl rfl rfl (fun w6 hk6 hB6=>?_)
  repeat (apply gsv;rfl;(first|apply qfa|apply qnc)<;>rfl)
  refine SG.bG [] [.pointer (some ⟨bk,0,none⟩)] (.iface 74 (.pointer (some ⟨tb',0,none⟩))::v::ps) rfl rfl (ag rfl) (ag rfl) hB6 rfl rfl rfl rfl rfl (fun w7 hk7 hB7=>?_)
  repeat (first|apply gst|(apply gsv;rfl;(first|apply qmv|apply qas)<;>rfl))
  refine aS (Or.inl rfl) Tryz.results121 (aC.tmp rfl) ?_
  have k67:Kp [bs] w5 w7:=hk6.trans hk7
  have nbs:∀{z:Nat},w.heap.size≤z→z∉[bs]:=fun h=>nm1 (by omega)
  exact⟨bk',bm',tb',m1,hp,by rw[eZ,hz],by rw[eM2,eT];exact⟨hB7,⟨hB5'.blk.kp k67 (nbs (by omega)),hB5'.map.kp k67 (nbs (by omega))⟩,hT5.kp k67 (nbs (by omega))⟩,k5.any.trans (k67.mono (fun z hz=>by rw[List.mem_singleton] at hz;rw[hz];simp)),Or.inr ⟨by omega,by omega,by omega⟩⟩
 ·have eb:=zq hbal x.t.frm x.t.body
  have eZ':yg m h x.t=tdZ m1 x.t.frm x.t.body:=by unfold yg;rw[if_neg hk0,eb]
  have eM':sC m h x.t=m:=by unfold sC;rw[if_neg hk0,if_neg (by rw[←eb];exact hz)]
  have eT':mr t m h x.t=t:=by unfold mr;rw[if_neg hk0,if_neg (by rw[←eb];exact hz)]
  repeat (first|apply gst|(apply gsv;rfl;(first|apply qmv|apply qas|apply qei)<;>first|rfl|(apply dcf;first|assumption|omega)))
  refine gcf rfl ?_
  repeat (first|apply gst|(apply gsv;rfl;(first|apply qmv|apply qas)<;>rfl))
  refine aS (Or.inl rfl) Tryz.results121 (aC.tmp rfl) ?_
  exact⟨bk,bm,tb,m,List.Perm.refl _,by rw[eZ'],by rw[eM',eT'];exact hs5,k5.any,Or.inl ⟨rfl,rfl,rfl⟩⟩
end
section
abbrev SlE(w:World)(a:Option Addr)(l:List Ac):Prop:=Sl acl 10 w a l
theorem DN(w:World)(a0 a1 a2 a3 a4 a5 a6 a7:UInt8)(x y:Int):(Instr.buildSlice 63 1 #[(0,.agg #[bv a0,bv a1,bv a2,bv a3,bv a4,bv a5,bv a6,bv a7,Value.int .i64 x,Value.int .i64 y])]).run Tryz.prog w= .ok (.slice (some ⟨w.heap.size,0,none⟩) 1 1) {w with heap:=w.heap.push (.cells #[bv a0,bv a1,bv a2,bv a3,bv a4,bv a5,bv a6,bv a7,Value.int .i64 x,Value.int .i64 y] 59)}:=by kernel_rfl
theorem E0(e:Ac)(w:World):(Instr.buildSlice 63 1 #[(0,acv e)]).run Tryz.prog w= .ok (.slice (some ⟨w.heap.size,0,none⟩) 1 1) {w with heap:=w.heap.push (.cells (acl e).toArray 59)}:=by
 obtain⟨⟨l,hl⟩,x,y⟩:=e
 match l,hl with
 |[a0,a1,a2,a3,a4,a5,a6,a7],_=>exact DN w a0 a1 a2 a3 a4 a5 a6 a7 x y
def sI(e:Ac):Prop:=e.money<0∨1125899906842624<e.money∨e.nonce<0∨1099511627776<e.nonce
instance(e:Ac):Decidable (sI e):=by unfold sI;infer_instance
def iy:List Dg→Int→List Ac→Int
 |_,s,[]=>if 1125899906842624<s then 22 else 0
 |ks,s,e::l=>if sI e then 2 else if e.key∈ks then 7 else iy (e.key::ks) (s+e.money) l
def nC(l:List Ac):Int:=if 1024<l.length then 8 else iy [] 0 l
def lL(m:Bk)(l:List Ac):Bk:=l.foldl (fun m e=>jM m e.key ⟨e.money,e.nonce⟩) m
attribute [local irreducible] CG NG SG aO Der Row Blk az aH bz
theorem sq{w:World}{a:Option Addr}{l:List Ac}(c:Nat)(h:SlE w a l)(hl:l.length≤100000):Calls Tryz.prog 34 #[.slice a l.length c] w (fun e w'=>Kp [] w w'∧
  ((nC l≠0∧e= .returned (.tuple #[.pointer none,.int .i64 (nC l)]))∨(nC l=0∧∃bt bm,e= .returned (.tuple #[.pointer (some ⟨bt,0,none⟩),.int .i64 0])∧bB w' bt bm (lL [] l)∧w.heap.size≤bt∧w.heap.size≤bm))):=by
 refine aQ Tryz.func34 rfl Tryz.ntmps34 rfl ?_
 by_cases h8:(1024:Int)<(l.length:Int)
 ·repeat (first|apply gst|(apply gsv;rfl;(first|apply qmv|apply qas|apply qln|apply qgt)<;>first|rfl|(apply dct;first|assumption|omega)))
  refine gct rfl ?_
  repeat (first|apply gst|(apply gsv;rfl;apply qas<;>rfl))
  refine dX (Or.inl rfl) Tryz.results34 (aC.tmp rfl) (aC.tmp rfl) ?_
  have:nC l=8:=by unfold nC;rw[if_pos (by omega)]
  exact⟨Kp.refl _ _,Or.inl ⟨by rw[this];decide,by rw[this]⟩⟩
 have hE:nC l=iy [] 0 l:=by unfold nC;rw[if_neg (by omega)]
 rw[hE]
 repeat (first|apply gst|(apply gsv;rfl;(first|apply qmv|apply qas|apply qln|apply qgt)<;>first|rfl|(apply dcf;first|assumption|omega)))
 refine gcf rfl ?_
 repeat apply gst
 refine SG.makeMap (dv (n:=8)) pnv rfl rfl (fun bm w1 hk1 hbm hm=>?_)
 refine SG.val rfl rfl rfl rfl (au rfl (fun w=>E3 w bm)) ?_
 refine SG.box rfl rfl rfl (ag rfl) (fun bt w2 hk2 hbt hBt=>?_)
 repeat (first|apply gst|(apply gsv;rfl;apply qas<;>rfl))
 refine SG.makeMap (dv (n:=8)) (fun _:Unit=>Value.bool true) rfl rfl (fun bs w3 hk3 hbs hms=>?_)
 repeat (first|apply gst|(apply gsv;rfl;(first|apply qmv|apply qas|apply qln)<;>rfl))
 have hB3:bB w3 bt bm []:=⟨hBt.kp0 hk3,(hm.kp0 hk2).kp0 hk3⟩
 have e1:=hm.lt
 have e2:=hBt.lt
 have e3:=hms.lt
 have s1:=hk1.size
 have s2:=hk2.size
 refine CG.loop (X:=Nat×Int×List Dg×Bk×List (Dg×Unit)) (fun q=>[(2,.pointer none),(3,.int .i64 0),(4,.pointer (some ⟨bt,0,none⟩)),(5,.map (some bs)),(6,.int .i64 q.2.1),(16,.slice a l.length c),(17,.int .i64 l.length),(18,.int .i64 (q.1:Int))])
  (fun q w'=>q.1≤l.length∧Kp [] w w'∧w3.heap.size≤w'.heap.size∧bB w' bt bm q.2.2.2.1∧az w' bs (dv (n:=8)) (fun _:Unit=>Value.bool true) q.2.2.2.2∧(∀k,ar q.2.2.2.2 k=none↔k∉q.2.2.1)∧iy q.2.2.1 q.2.1 (l.drop q.1)=iy [] 0 l∧lL q.2.2.2.1 (l.drop q.1)=lL [] l∧0≤q.2.1∧q.2.1≤(q.1:Int)*1125899906842624)
  (fun q=>l.length-q.1) (0,0,[],[],[]) ⟨Nat.zero_le _,(hk1.trans hk2).trans hk3,Nat.le_refl _,hB3,hms,fun k=>by simp[ar],rfl,rfl,Int.le_refl _,by simp⟩ (aZ.of rfl) ?_
 rintro⟨i,s,ks,m,sn⟩ w4 ⟨hi,hk,hsz,hB,hS,hks,hgo,hpu,hs0,hs1⟩
 simp only at hi hB hS hks hgo hpu hs0 hs1
 refine CG.to [(2,.pointer none),(3,.int .i64 0),(4,.pointer (some ⟨bt,0,none⟩)),(5,.map (some bs)),(6,.int .i64 s),(16,.slice a l.length c),(17,.int .i64 l.length),(18,.int .i64 (i:Int))] (aZ.of rfl) ?_
 by_cases hlt:i<l.length
 case neg=>
  have g1:¬(i:Int)<(l.length:Int):=by omega
  have ei:i=l.length:=by omega
  rw[ei,List.drop_length] at hgo hpu
  simp only[iy] at hgo
  repeat (first|apply gst|(apply gsv;rfl;apply qls<;>first|rfl|(apply dcf;first|assumption|omega)))
  refine gcf rfl ?_
  by_cases g2:1125899906842624<s
  ·rw[if_pos g2] at hgo
   repeat (first|apply gst|(apply gsv;rfl;(first|apply qmv|apply qgt)<;>first|rfl|(apply dct;first|assumption|omega)))
   refine gct rfl ?_
   repeat (first|apply gst|(apply gsv;rfl;apply qas<;>rfl))
   refine dX (Or.inl rfl) Tryz.results34 (aC.tmp rfl) (aC.tmp rfl) ?_
   exact⟨hk,Or.inl ⟨by rw[←hgo];decide,by rw[←hgo]⟩⟩
  ·rw[if_neg g2] at hgo
   repeat (first|apply gst|(apply gsv;rfl;(first|apply qmv|apply qgt)<;>first|rfl|(apply dcf;first|assumption|omega)))
   refine gcf rfl ?_
   repeat (first|apply gst|(apply gsv;rfl;(first|apply qmv|apply qas)<;>rfl))
   refine dX (Or.inl rfl) Tryz.results34 (aC.tmp rfl) (aC.tmp rfl) ?_
   refine⟨hk,Or.inr ⟨hgo.symm,bt,bm,rfl,?_,by omega,by omega⟩⟩
   have:m=lL [] l:=hpu
   rw[←this]
   exact hB
 have g1:(i:Int)<(l.length:Int):=by omega
 obtain⟨ba,oa,rfl,hr⟩:=(h.kp0 hk).at hlt
 obtain⟨x,hx⟩:∃x,x=l[i]:=⟨_,rfl⟩
 rw[←hx] at hr
 have hdrop:l.drop i=x::l.drop (i+1):=by rw[hx];exact List.drop_eq_getElem_cons hlt
 rw[hdrop] at hgo hpu
 simp only[iy] at hgo
 repeat (first|apply gst|(apply gsv;rfl;apply qls<;>first|rfl|(apply dct;first|assumption|omega)))
 refine gct rfl ?_
 repeat (first|apply gst|(apply gsv;rfl;(first|apply qla|apply qix)<;>first|rfl|(apply Ar.mk;omega)|assumption|exact List.not_mem_nil|apply aF))
 refine SG.alloc rfl rfl rfl (fun b8 w5 hk5 hb8 hB8=>?_)
 refine SG.aG (old:=acl ⟨zd,0,0⟩) (l:=acl x) rfl rfl (ag rfl) (ag rfl) hB8 (aF _) (aF _) (fA _) (fun w6 hk6 hB8=>?_)
 have s4:=hk.size
 have s5:=hk5.size
 have k46:Kp [] w4 w6:=hk5.ai hk6 (bf (by omega))
 have hB6:=hB.kp0 k46
 have hS6:=hS.kp0 k46
 have hk:=hk.trans k46
 have s6:=k46.size
 obtain⟨q0,q1,q2,q3⟩:=iK hB8
 clear q3
 by_cases hbad:sI x
 ·rw[if_pos hbad] at hgo
  have hcase:x.money<0∨(¬x.money<0∧1125899906842624<x.money)∨(¬x.money<0∧¬1125899906842624<x.money∧x.nonce<0)∨(¬x.money<0∧¬1125899906842624<x.money∧¬x.nonce<0∧1099511627776<x.nonce):=by
   unfold sI at hbad
   omega
  rcases hcase with g2|⟨g2,g3⟩|⟨g2,g3,g4⟩|⟨g2,g3,g4,g5⟩
  all_goals
   repeat (first|apply gst|(apply gsv;rfl;(first|apply qmv|apply qlc|apply qfa|apply qpk|apply qls|apply qgt)<;>first|rfl|assumption|(apply dct;first|assumption|omega)|(apply dcf;first|assumption|omega)|exact List.not_mem_nil)|refine SG.skip rfl rfl ?_)
   refine gct rfl ?_
   repeat (first|apply gst|(apply gsv;rfl;apply qas<;>rfl))
   refine dX (Or.inl rfl) Tryz.results34 (aC.tmp rfl) (aC.tmp rfl) ?_
   exact⟨hk,Or.inl ⟨by rw[←hgo];decide,by rw[←hgo]⟩⟩
 rw[if_neg hbad] at hgo
 have hcase:¬x.money<0∧¬1125899906842624<x.money∧¬x.nonce<0∧¬1099511627776<x.nonce:=by
  unfold sI at hbad
  omega
 obtain⟨g2,g3,g4,g5⟩:=hcase
 repeat (first|apply gst|(apply gsv;rfl;(first|apply qmv|apply qlc|apply qfa|apply qpk|apply qls|apply qgt)<;>first|rfl|assumption|(apply dcf;first|assumption|omega)|exact List.not_mem_nil))
 refine gcf rfl ?_
 cases hal:ar sn x.key with
 |some u=>
  have:x.key∈ks:=by
   apply Classical.byContradiction
   intro hn
   rw[(hks x.key).2 hn] at hal
   cases hal
  rw[if_pos this] at hgo
  repeat (first|apply gst|(apply gsv;rfl;(first|apply qmv|apply qla|apply qfa|apply qlv)<;>first|rfl|assumption|exact List.not_mem_nil|apply ah|exact lk1 (by assumption)|fail))
  refine gct rfl ?_
  repeat (first|apply gst|(apply gsv;rfl;apply qas<;>rfl))
  refine dX (Or.inl rfl) Tryz.results34 (aC.tmp rfl) (aC.tmp rfl) ?_
  exact⟨hk,Or.inl ⟨by rw[←hgo];decide,by rw[←hgo]⟩⟩
 |none=>
  have hnk:=(hks x.key).1 hal
  rw[if_neg hnk] at hgo
  repeat (first|apply gst|(apply gsv;rfl;(first|apply qmv|apply qla|apply qfa|apply qlv)<;>first|rfl|assumption|exact List.not_mem_nil|apply ah|exact lk0 (by assumption)|fail))
  refine gcf rfl ?_
  repeat (first|apply gst|(apply gsv;rfl;(first|apply qmv|apply qla|apply qfa)<;>first|rfl|assumption|exact List.not_mem_nil|apply ah))
  refine SG.mapUpdate (enc:=dv (n:=8)) (V:=fun _:Unit=>Value.bool true) (kx:=x.key) (vy:=()) rfl rfl (ag rfl) (ag rfl) rfl hS6 ku.key (fun w7 hk7 hS7=>?_)
  have hB7:=hB6.kp hk7 (nm1 (by omega)) (nm1 (by omega))
  have hB8:=hB8.kp hk7 (nm1 (by omega))
  obtain⟨q0,q1,q2,q3⟩:=iK hB8
  clear q3
  repeat (first|apply gst|(apply gsv;rfl;(first|apply qmv|apply qlc|apply qla|apply qfa)<;>first|rfl|assumption|exact List.not_mem_nil|apply ah))
  refine SG.val rfl rfl rfl rfl (au (v:=pnv ⟨x.money,x.nonce⟩) rfl (fun w=>by kernel_rfl)) ?_
  refine SG.call rfl rfl rfl (by repeat' (first|exact True.intro|exact ag rfl|refine And.intro ?_ ?_)) ((ia hB7 x.key ⟨x.money,x.nonce⟩ (by unfold Pu.Fit;simp only;omega)).mono (fun e w8 hh=>?_))
  obtain⟨he8,h8,hk8⟩:=hh
  refine⟨_,he8,?_⟩
  obtain⟨q0,q1,q2,q3⟩:=iK (hB8.kp hk8 (nm1 (by omega)))
  clear q3
  have s7:=hk7.size
  have s8:=hk8.size
  repeat (first|apply gst|(apply gsv;rfl;(first|apply qmv|apply qas|apply qlc|apply qfa|apply qad)<;>first|rfl|(apply Ar.mk;omega)|assumption|exact List.not_mem_nil))
  refine NG.round (i+1,s+x.money,x.key::ks,jM m x.key ⟨x.money,x.nonce⟩,cy sn x.key ()) (aZ.of rfl) ⟨hlt,(hk.ai hk7 (bf (by omega))).ai hk8 (bf (by omega)),by omega,h8,hS7.kp hk8 (nm1 (by omega)),fun k=>?_,hgo,hpu,by simp only;omega,by simp only;omega⟩ (by simp only;omega)
  rw[bu]
  by_cases e:x.key=k
  ·simp[e]
  ·rw[if_neg e,hks k]
   simp[Ne.symm e]
end
section
open Go.Proofs Go.Shelf Go.Sort
theorem sj(l:List UInt8):Lib.bytesOf (l.map (fun u=>(u.toNat:Int)))=l:=by
 unfold Lib.bytesOf
 induction l with
 |nil=>rfl
 |cons u l ih=>simp_all
theorem qi{w:World}{b off:Nat}{x:Dg}(hx:Row w b off (dc x)):(Extern.Bytes.loadBytes ⟨b,off,none⟩ 8 .empty).run Tryz.prog w= .ok ⟨x.1.toArray⟩ w:=by
 have h:=Lib.run_loadBytesX (P:=Tryz.prog) w (x.1.map (fun u=>(u.toNat:Int))) ⟨b,off,none⟩ .empty (fun j z hj=>by
  rw[List.getElem?_map,Option.map_eq_some_iff] at hj
  obtain⟨u,hu,rfl⟩:=hj
  have e:(⟨b,off,none⟩:Addr).add j=⟨b,off+j,none⟩:=by unfold Addr.add;split<;>simp_all
  rw[e]
  exact hx.cell (by unfold dc;rw[List.getElem?_map,hu];rfl))
 rw[List.length_map,x.2,sj] at h
 have e0:ByteArray.empty.data++x.1.toArray=x.1.toArray:=by simp[ByteArray.empty,ByteArray.emptyWithCapacity];rfl
 rw[e0] at h
 exact h
theorem po{w:World}{b off c b' off' c':Nat}{x y:Dg}(hx:Row w b off (dc x))(hy:Row w b' off' (dc y)):
  (Extern.BytealgCompare.compare #[.slice (some ⟨b,off,none⟩) 8 c,.slice (some ⟨b',off',none⟩) 8 c']).run Tryz.prog w= .ok (.int .i64 (Lib.compareBytes x.1 y.1)) w:=by
 change Sem.run Tryz.prog (do pure (goInt (Extern.BytealgCompare.cmp (←Extern.Bytes.loadBytes ⟨b,off,none⟩ 8 .empty) (←Extern.Bytes.loadBytes ⟨b',off',none⟩ 8 .empty)))) w=_
 simp only[Sem.run_bind,qi hx,qi hy,Sem.run_pure,Result.andThen]
 rw[Lib.cmp_eq]
 rfl
theorem call40(args:Array Value)(w:World):(callFunc 115 args).run Tryz.prog w=((Extern.BytealgCompare.compare args).run Tryz.prog w).andThen fun v w'=> .ok (.value v) w':=
 run_callFunc_extern Tryz.func115 (by kernel_rfl) (by kernel_rfl) (by kernel_rfl) (e:=Extern.BytealgCompare.compare) (by kernel_rfl) args w
theorem wm{S:List Nat}{w0:World}{F:World→Prop}{L:Env}{d:Option Nat}{ty:TypeId}{pos:String}{af:Array Edge}{g:Option (Nat×Bool)}{p q:Operand}{tys:Array TypeId}{b off c b' off' c':Nat}{x y:Dg}(hp:rho L p= .slice (some ⟨b,off,none⟩) 8 c)(hq:rho L q= .slice (some ⟨b',off',none⟩) 8 c')(hx:Row w0 b off (dc x))(hy:Row w0 b' off' (dc y))(hb:b∉S)(hb':b'∉S):
  aO Tryz.prog S w0 F L ⟨d,.call ⟨.value (.func 115),#[p,q],tys⟩,ty,pos,af,g⟩ (.int .i64 (Lib.compareBytes x.1 y.1)):=fun w hk _=>by
 have:(execOp (rho L) ⟨d,.call ⟨.value (.func 115),#[p,q],tys⟩,ty,pos,af,g⟩).run Tryz.prog w=(callFunc 115 #[rho L p,rho L q]).run Tryz.prog w:=by
  simp[execOp,resolve,invoke,wW,Deferred.ofValue]
 rw[this,hp,hq,call40,po (hx.kp hk hb) (hy.kp hk hb')]
 rfl
theorem qwa{P:Program}{S:List Nat}{w0:World}{F:World→Prop}{L:Env}{d:Option Nat}{ty:TypeId}{pos:String}{af:Array Edge}{g:Option (Nat×Bool)}{T E:TypeId}{n sz:Nat}[u:Ut P T (.array n E)][f:Sz P E sz]{x:Operand}{b off:Nat}(hx:ro L x=some (.pointer (some ⟨b,off,none⟩))):
  aO P S w0 F L ⟨d,.slice T x none none none,ty,pos,af,g⟩ (.slice (some ⟨b,off,none⟩) n n):=fun w _ _=>by
 obtain⟨i,h2,h3⟩:=f.eq
 subst h3
 simp only[execOp,ag hx,Option.map_none,Instr.sliceAt,Sem.run_bind,run_underlying u.eq,Result.andThen,Instr.sureAddr,Instr.sliceBounds,Sem.run_pure,sizeOf,typeInfo,run_program,h2]
 simp[Addr.add]
def cf(x y:Ac):Int:=Lib.compareBytes x.key.1 y.key.1
attribute [local irreducible] CG NG SG aO Der Row Blk az aH bz
theorem vj{w:World}{b off c b' off' c':Nat}{x y:Dg}(hx:Row w b off (dc x))(hy:Row w b' off' (dc y)):Ret Tryz.prog 63 #[.slice (some ⟨b,off,none⟩) 8 c,.slice (some ⟨b',off',none⟩) 8 c'] w (.int .i64 (Lib.compareBytes x.1 y.1)):=by
 refine bh Tryz.func63 rfl Tryz.ntmps63 rfl ?_
 repeat (first|apply gst|(apply gsv;rfl;(first|apply qmv|apply qas)<;>rfl))
 refine SG.val rfl rfl rfl rfl (wm (ag rfl) (ag rfl) hx hy List.not_mem_nil List.not_mem_nil) ?_
 repeat (first|apply gst|(apply gsv;rfl;apply qas<;>rfl))
 refine aS (Or.inl rfl) Tryz.results63 (aC.tmp rfl) ?_
 exact⟨rfl,Kp.refl _ _⟩
theorem pB(x y:Ac)(w:World):Ret Tryz.prog 62 #[acv x,acv y] w (.int .i64 (cf x y)):=by
 refine bh Tryz.func62 rfl Tryz.ntmps62 rfl ?_
 repeat apply gst
 refine SG.box rfl rfl rfl (ag rfl) (fun b2 w1 hk1 hb2 hB2=>?_)
 refine SG.box rfl rfl rfl (ag rfl) (fun b3 w2 hk2 hb3 hB3=>?_)
 have hB2:Blk w1 b2 (.cells (acl x).toArray 59):=hB2
 have hB3:Blk w2 b3 (.cells (acl y).toArray 59):=hB3
 obtain⟨q0,q1,q2,q3⟩:=iK (hB2.kp0 hk2)
 obtain⟨r0,r1,r2,r3⟩:=iK hB3
 repeat (first|apply gst|(apply gsv;rfl;apply qas<;>rfl))
 refine CG.fq mixed [0,1,2,3,4,5] [] (by kernel_rfl) ?_
 repeat (apply gdv;rfl;rfl;(first|apply qwa|apply qfa)<;>rfl)
 refine Der.call rfl rfl rfl (by repeat' (first|exact True.intro|exact ag rfl|refine And.intro ?_ ?_)) (fun w hk _=>vj (x:=x.key) (y:=y.key) (q0.kp0 hk) (r0.kp0 hk)) ?_
 repeat (apply gdv;rfl;rfl;apply qas<;>rfl)
 refine Der.fin (fun w3 hk3 _ _=>?_)
 repeat apply gst
 refine aS (Or.inl rfl) Tryz.results62 (aC.tmp rfl) ?_
 exact⟨rfl,(hk1.trans hk2).trans hk3⟩
end
section
open Go.Proofs Go.Shelf
def wM:Go.Shelf.Ren:=⟨fun|6=>61|15=>114|14=>113|28=>156|29=>157|20=>148|21=>149|22=>150|23=>151|24=>152|25=>153|26=>154|27=>155|46=>174|47=>175|48=>176|49=>177|50=>178|57=>194|n=>n,fun|22=>63|24=>59|25=>139|3=>3|39=>208|0=>0|53=>259|55=>183|4=>4|46=>253|45=>252|50=>90|5=>5|9=>9|66=>273|70=>277|76=>298|77=>299|n=>n,fun n=>n⟩
theorem Bq:SlLaysF0.n6 Tryz.prog wM where
 mixed:=by kernel_rfl
 f6:=⟨"slices.SortFunc[[]baize/account.Entry,baize/account.Entry]",by decide,Tryz.func61.trans (congrArg some (by kernel_rfl))⟩
 f14:=⟨"slices.pdqsortCmpFunc[baize/account.Entry]",by decide,Tryz.func113.trans (congrArg some (by kernel_rfl))⟩
 f15:=Tryz.func114.trans (congrArg some (by kernel_rfl))
 f20:=⟨"slices.insertionSortCmpFunc[baize/account.Entry]",by decide,Tryz.func148.trans (congrArg some (by kernel_rfl))⟩
 f21:=⟨"slices.heapSortCmpFunc[baize/account.Entry]",by decide,Tryz.func149.trans (congrArg some (by kernel_rfl))⟩
 f22:=⟨"slices.breakPatternsCmpFunc[baize/account.Entry]",by decide,Tryz.func150.trans (congrArg some (by kernel_rfl))⟩
 f23:=⟨"slices.choosePivotCmpFunc[baize/account.Entry]",by decide,Tryz.func151.trans (congrArg some (by kernel_rfl))⟩
 f24:=⟨"slices.reverseRangeCmpFunc[baize/account.Entry]",by decide,Tryz.func152.trans (congrArg some (by kernel_rfl))⟩
 f25:=⟨"slices.partialInsertionSortCmpFunc[baize/account.Entry]",by decide,Tryz.func153.trans (congrArg some (by kernel_rfl))⟩
 f26:=⟨"slices.partitionEqualCmpFunc[baize/account.Entry]",by decide,Tryz.func154.trans (congrArg some (by kernel_rfl))⟩
 f27:=⟨"slices.partitionCmpFunc[baize/account.Entry]",by decide,Tryz.func155.trans (congrArg some (by kernel_rfl))⟩
 f28:=Tryz.func156.trans (congrArg some (by kernel_rfl))
 f29:=Tryz.func157.trans (congrArg some (by kernel_rfl))
 f46:=⟨"slices.siftDownCmpFunc[baize/account.Entry]",by decide,Tryz.func174.trans (congrArg some (by kernel_rfl))⟩
 f47:=Tryz.func175.trans (congrArg some (by kernel_rfl))
 f48:=Tryz.func176.trans (congrArg some (by kernel_rfl))
 f49:=⟨"slices.medianAdjacentCmpFunc[baize/account.Entry]",by decide,Tryz.func177.trans (congrArg some (by kernel_rfl))⟩
 f50:=⟨"slices.medianCmpFunc[baize/account.Entry]",by decide,Tryz.func178.trans (congrArg some (by kernel_rfl))⟩
 f57:=⟨"slices.order2CmpFunc[baize/account.Entry]",by decide,Tryz.func194.trans (congrArg some (by kernel_rfl))⟩
 t0:=Tryz.underlying0
 a0:=Tryz.isAgg0
 z0:=Tryz.sizeOf0
 v0:=Tryz.zeroValue0
 t3:=Tryz.underlying3
 a3:=Tryz.isAgg3
 z3:=Tryz.sizeOf3
 v3:=Tryz.zeroValue3
 t4:=Tryz.underlying4
 a4:=Tryz.isAgg4
 z4:=Tryz.sizeOf4
 v4:=Tryz.zeroValue4
 t5:=Tryz.underlying5
 a5:=Tryz.isAgg5
 z5:=Tryz.sizeOf5
 v5:=Tryz.zeroValue5
 t9:=Tryz.underlying9
 a9:=Tryz.isAgg9
 z9:=Tryz.sizeOf9
 v9:=Tryz.zeroValue9
 t22:=Tryz.underlying63
 a22:=Tryz.isAgg63
 z22:=Tryz.sizeOf63
 v22:=Tryz.zeroValue63
 t25:=Tryz.underlying139
 a25:=Tryz.isAgg139
 z25:=Tryz.sizeOf139
 v25:=Tryz.zeroValue139
 t39:=Tryz.underlying208
 a39:=Tryz.isAgg208
 z39:=Tryz.sizeOf208
 v39:=Tryz.zeroValue208
 t45:=Tryz.underlying252
 a45:=Tryz.isAgg252
 z45:=Tryz.sizeOf252
 v45:=Tryz.zeroValue252
 t46:=Tryz.underlying253
 a46:=Tryz.isAgg253
 z46:=Tryz.sizeOf253
 v46:=Tryz.zeroValue253
 t50:=Tryz.underlying90
 a50:=Tryz.isAgg90
 z50:=Tryz.sizeOf90
 v50:=Tryz.zeroValue90
 t53:=Tryz.underlying259
 a53:=Tryz.isAgg259
 z53:=Tryz.sizeOf259
 v53:=Tryz.zeroValue259
 t55:=Tryz.underlying183
 a55:=Tryz.isAgg183
 z55:=Tryz.sizeOf183
 v55:=Tryz.zeroValue183
 t66:=Tryz.underlying273
 a66:=Tryz.isAgg273
 z66:=Tryz.sizeOf273
 v66:=Tryz.zeroValue273
 t70:=Tryz.underlying277
 a70:=Tryz.isAgg277
 z70:=Tryz.sizeOf277
 v70:=Tryz.zeroValue277
 t76:=Tryz.underlying298
 a76:=Tryz.isAgg298
 z76:=Tryz.sizeOf298
 v76:=Tryz.zeroValue298
 t77:=Tryz.underlying299
 a77:=Tryz.isAgg299
 z77:=Tryz.sizeOf299
 v77:=Tryz.zeroValue299
end
section
open Go.Proofs Go.Shelf Go.Sort
abbrev cb:=Lib.compareBytes
theorem mi(a b:UInt8)(x y:List UInt8):cb (a::x) (b::y)=if a.toNat<b.toNat then-1 else if b.toNat<a.toNat then 1 else cb x y:=by
 simp only[cb,Lib.compareBytes,UInt8.lt_iff_toNat_lt]
theorem x8(b:UInt8)(y:List UInt8):cb [] (b::y)= -1:=by simp only[cb,Lib.compareBytes]
theorem sf(b:UInt8)(y:List UInt8):cb (b::y) []=1:=by simp only[cb,Lib.compareBytes]
theorem om:∀x y:List UInt8,cb y x= -cb x y
 |[],[]=>by simp only[cb,Lib.compareBytes];rfl
 |[],_::_=>by rw[x8,sf];rfl
 |_::_,[]=>by rw[x8,sf]
 |a::x,b::y=>by
  rw[mi,mi,om x y]
  by_cases h1:a.toNat<b.toNat
  ·rw[if_neg (by omega),if_pos h1,if_pos h1];rfl
  ·rw[if_neg h1]
   by_cases h2:b.toNat<a.toNat
   ·rw[if_pos h2,if_pos h2,if_neg h1]
   ·rw[if_neg h2,if_neg h2,if_neg h1]
theorem pr:∀x y:List UInt8,cb x y=0→x=y
 |[],[],_=>rfl
 |[],_::_,h=>by rw[x8] at h;cases h
 |_::_,[],h=>by rw[sf] at h;cases h
 |a::x,b::y,h=>by
  rw[mi] at h
  by_cases h1:a.toNat<b.toNat
  ·rw[if_pos h1] at h;cases h
  ·rw[if_neg h1] at h
   by_cases h2:b.toNat<a.toNat
   ·rw[if_pos h2] at h;cases h
   ·rw[if_neg h2] at h
    have:a=b:=UInt8.toNat_inj.1 (by omega)
    rw[this,pr x y h]
theorem uW(x:List UInt8):cb x x=0:=by have:=om x x;omega
theorem mh:∀x y z:List UInt8,cb x y<0→cb y z<0→cb x z<0
 |[],[],_,h,_=>by rw[uW] at h;omega
 |[],_::_,[],_,h=>by rw[sf] at h;omega
 |[],_::_,_::_,_,_=>by rw[x8];decide
 |_::_,[],_,h,_=>by rw[sf] at h;omega
 |_::_,_::_,[],_,h=>by rw[sf] at h;omega
 |a::x,b::y,c::z,h,h'=>by
  rw[mi] at h h'⊢
  by_cases h1:a.toNat<b.toNat
  ·by_cases h2:b.toNat<c.toNat
   ·rw[if_pos (by omega)];decide
   ·rw[if_neg h2] at h'
    by_cases h3:c.toNat<b.toNat
    ·rw[if_pos h3] at h';exact absurd h' (by decide)
    ·rw[if_pos (by omega)];decide
  ·rw[if_neg h1] at h
   by_cases h2:b.toNat<a.toNat
   ·rw[if_pos h2] at h;exact absurd h (by decide)
   ·rw[if_neg h2] at h
    by_cases h3:b.toNat<c.toNat
    ·rw[if_pos (by omega)];decide
    ·rw[if_neg h3] at h'
     by_cases h4:c.toNat<b.toNat
     ·rw[if_pos h4] at h';exact absurd h' (by decide)
     ·rw[if_neg h4] at h'
      rw[if_neg (by omega),if_neg (by omega)]
      exact mh x y z h h'
theorem Ck:SWO (ltOf cf) where
 irrefl x:=by
  refine decide_eq_false ?_
  have:=uW x.key.1
  show ¬cb x.key.1 x.key.1<0
  omega
 trans x y z h1 h2:=decide_eq_true (mh _ _ _ (of_decide_eq_true h1) (of_decide_eq_true h2))
 ntrans x y z h1 h2:=by
  have h1:¬cb x.key.1 y.key.1<0:=of_decide_eq_false h1
  have h2:¬cb y.key.1 z.key.1<0:=of_decide_eq_false h2
  refine decide_eq_false ?_
  show ¬cb x.key.1 z.key.1<0
  intro h
  have n1:=om x.key.1 y.key.1
  have n2:=om y.key.1 z.key.1
  have n3:=om x.key.1 z.key.1
  by_cases e1:cb x.key.1 y.key.1=0
  ·rw[pr _ _ e1] at h;exact h2 h
  ·by_cases e2:cb y.key.1 z.key.1=0
   ·rw[←pr _ _ e2] at h;exact h1 h
   ·have:=mh _ _ _ (show cb z.key.1 y.key.1<0 by omega) (show cb y.key.1 x.key.1<0 by omega)
    omega
instance:Inhabited Ac:=⟨⟨zd,0,0⟩⟩
def acE(p:Dg×Pu):Ac:=qG p.1 p.2
def Asc(l:List Ac):Prop:=l.Pairwise (fun x y=>ltOf cf y x=false)
theorem pA{w:World}{base:Nat}{v:Value}{l:List Ac}(ho:w.ownsRow base 59 10 v l.length (flt acl l))(hl:l.length≤1000000):Calls Tryz.prog 61 #[v,.func (.func 62) #[] #[]] w (fun e w'=>e= .returned (.tuple #[])∧Kp (aT v) w w'∧∃l',l'.Perm l∧Asc l'∧w'.ownsRow base 59 10 v l.length (flt acl l')):=
 wL Bq Tryz.isAgg59 Tryz.sizeOf59 (by omega) aF fA cf Ck 62 (fun args w=>fn.i62.run w args) (fun x y W=>pB x y W) ho (by omega)
attribute [local irreducible] CG NG SG aO Der Row Blk az aH bz
theorem sr{w:World}{bt bm:Nat}{m:Bk}(hB:bB w bt bm m)(hl:m.length≤100000):Calls Tryz.prog 21 #[.pointer (some ⟨bt,0,none⟩)] w (fun e w'=>∃v l,e= .returned v∧w'.ownsRow w.heap.size 59 10 v l.length (flt acl l)∧l.Perm (m.map acE)∧Asc l∧Kp [] w w'):=by
 refine aQ Tryz.func21 rfl Tryz.ntmps21 rfl ?_
 have hr0:=hB.r0
 have hnd:=hB.map.nodup
 repeat (first|apply gst|(apply gsv;rfl;(first|apply qmv|apply qas|apply qep)<;>rfl))
 refine gcf rfl ?_
 repeat (first|apply gst|(apply gsv;rfl;(first|apply qmv|apply qas|apply qlc|apply qfa|apply qnc)<;>first|rfl|assumption|exact List.not_mem_nil))
 refine SG.range rfl rfl rfl (ag rfl) hB.map (fun r w2 hk2 hr2 hI=>?_)
 repeat apply gst
 have eM:=hB.map.lt
 have eT:=hB.blk.lt
 refine CG.loop (X:=Value×Bk×Bk×Option (Dg×Pu)) (fun x=>[(0,.pointer (some ⟨bt,0,none⟩)),(3,x.1),(11,.pointer (some ⟨r,0,none⟩))])
  (fun x w'=>Kp [] w w'∧r<w'.heap.size∧aH w' r bm (dv (n:=8)) pnv m x.2.2.1 x.2.2.2∧(x.2.1++x.2.2.1).Perm m∧w'.ownsRow w.heap.size 59 10 x.1 x.2.1.length (flt acl (x.2.1.map acE))∧x.1.ownBlock≠some r)
  (fun x=>x.2.2.1.length) (.slice none 0 0,[],m,none) ⟨hk2,hI.ltr,hI,by simp,⟨rfl,Or.inl ⟨rfl,rfl⟩⟩,by simp[Value.ownBlock]⟩ (aZ.of rfl) ?_
 rintro⟨v,done,left,cur⟩ w3 ⟨hk,hrs,hI,hp,ho,hnr⟩
 simp only at hI hp ho hnr
 refine CG.to [(0,.pointer (some ⟨bt,0,none⟩)),(3,v),(11,.pointer (some ⟨r,0,none⟩))] (aZ.of rfl) ?_
 have hlen:(done++left).length=m.length:=hp.length_eq
 rw[List.length_append] at hlen
 repeat apply gst
 refine SG.next rfl rfl rfl (ag rfl) hI (fun h0=>?_) (fun pre p post w4 hl4 hk4 hI4=>?_)
 ·repeat (first|apply gst|(apply gsv;rfl;apply qxt<;>rfl))
  refine gcf rfl ?_
  subst h0
  rw[List.append_nil] at hp
  have ho':w3.ownsRow w.heap.size 59 10 v (done.map acE).length (flt acl (done.map acE)):=by rw[List.length_map];exact ho
  repeat (first|apply gst|(apply gsv;rfl;apply qmv<;>rfl))
  refine SG.call rfl rfl rfl (by repeat' (first|exact True.intro|exact ag rfl|refine And.intro ?_ ?_)) ((pA ho' (by rw[List.length_map];omega)).mono (fun e w5 hh=>?_))
  obtain⟨he5,hk5,l',hp',ha,ho5⟩:=hh
  refine⟨_,he5,?_⟩
  repeat (first|apply gst|(apply gsv;rfl;(first|apply qmv|apply qas)<;>rfl))
  refine aS (Or.inl rfl) Tryz.results21 (aC.tmp rfl) ?_
  refine⟨v,l',rfl,?_,hp'.trans (hp.map _),ha,hk.ai hk5 (cP ho (Nat.le_refl _))⟩
  rw[hp'.length_eq]
  exact ho5
 ·have hpm:p∈m:=hp.mem_iff.1 (by rw[hl4];simp)
  rw[hl4,List.length_append,List.length_cons] at hlen
  repeat (first|apply gst|(apply gsv;rfl;apply qxt<;>rfl))
  refine gct rfl ?_
  repeat (first|apply gst|(apply gsv;rfl;(first|apply qxt|apply qen)<;>first|rfl|assumption|exact List.not_mem_nil))
  refine SG.alloc rfl rfl rfl (fun b4 w5 hk5 hb4 hB4=>?_)
  refine SG.aG (old:=dc zd) rfl rfl (ag rfl) (ag rfl) hB4 (ah _) (ah _) (aR _) (fun w6 hk6 hB4=>?_)
  have s0:=hk.size
  have s4:=hk4.size
  have s5:=hk5.size
  have hk46:Kp [] w4 w6:=hk5.ai hk6 (bf (by omega))
  have hrw:w.heap.size≤r:=by omega
  have hk':Kp [] w w6:=hk.ai (hk4.trans hk46.any) (bf (by omega))
  have hR4:Row w6 b4 0 (dc p.1):=Row.all hB4 rfl
  have ho6:=aI (cG ho hk4 (fun z hz hm=>by rw[List.mem_singleton] at hm;subst hm;exact hnr hz)) hk46
  repeat (first|apply gst|(apply gsv;rfl;(first|apply qmv|apply qla)<;>first|rfl|assumption|exact List.not_mem_nil|apply ah))
  refine SG.ret rfl rfl rfl (by repeat' (first|exact True.intro|exact ag rfl|refine And.intro ?_ ?_)) (ib (hB.kp0 hk') p.1) (fun w7 hk7=>?_)
  have e1:qG p.1 (bal m p.1)=acE p:=by unfold acE;rw[vk hnd hpm]
  rw[e1]
  refine SG.buildSlice rfl rfl rfl rfl (E0 _) (fun bn w8 hk8 hbn hBn=>?_)
  have hRn:Row w8 bn 0 (acl (acE p)):=Row.all hBn rfl
  have s6:=hk46.size
  have s7:=hk7.size
  have s8:=hk8.size
  refine SG.vB rfl rfl rfl (ag rfl) (ag rfl) rfl rfl rfl (aI (aI ho6 hk7) hk8) hRn (aF _) (fA _) (by simp only[maxLen];omega) (by show(done.length+1)*24≤_;omega) (by omega) (fun v' w9 hk9 ho9 hwh=>?_)
  repeat (first|apply gst|(apply gsv;rfl;apply qas<;>rfl))
  have hI8:=((hI4.kp0 hk46).kp0 hk7).kp0 hk8
  have s9:=hk9.size
  have hnb:∀z,z<w.heap.size→z∉aT v:=yF ho
  have hnr2:r∉aT v:=fun hm=>by
   unfold aT at hm
   cases hv:v.ownBlock with
   |none=>rw[hv] at hm;cases hm
   |some z=>
    rw[hv] at hm
    simp at hm
    subst hm
    exact hnr hv
  refine NG.round (v',done++[p],pre++post,some p) (aZ.of rfl) ⟨((hk'.trans hk7).trans hk8).ai hk9 (cP ho (Nat.le_refl _)),by omega,hI8.kp hk9 hnr2 (hnb bm eM),?_,?_,?_⟩ (by simp only[hl4];simp)
  ·show((done++[p])++(pre++post)).Perm m
   refine List.Perm.trans ?_ hp
   rw[hl4]
   simp only[List.append_assoc,List.singleton_append]
   exact List.Perm.append_left done (List.perm_middle.symm)
  ·simp only[List.length_append,List.length_singleton,List.map_append,List.map_cons,List.map_nil]
   rw[bU,eR]
   exact ho9
  ·simp only
   intro hv
   rcases hwh r hv with h|h
   ·exact hnr h
   ·omega
end
section
theorem ox(m:Bk)(k x:Dg):ar (m.filter (fun q=>decide (q.1≠k))) x=if k=x then none else ar m x:=by
 induction m with
 |nil=>simp[ar]
 |cons p m ih=>
  obtain⟨a,y⟩:=p
  by_cases h:a=k
  ·rw[List.filter_cons_of_neg (by simp[h]),ih]
   by_cases e:k=x
   ·simp[e]
   ·rw[if_neg e,if_neg e]
    show _=if a=x then some y else ar m x
    rw[if_neg (by rw[h];exact e)]
  ·rw[List.filter_cons_of_pos (by simp[h])]
   show(if a=x then some y else ar (m.filter _) x)=if k=x then none else if a=x then some y else ar m x
   rw[ih]
   by_cases e:k=x
   ·subst e;simp[h]
   ·simp[e]
theorem j9(m:Bk)(k x:Dg)(p:Pu):bal (jM m k p) x=if k=x then p else bal m x:=by
 unfold jM
 by_cases h:p=pz
 ·rw[if_pos h]
  unfold bal
  rw[ox]
  by_cases e:k=x
  ·simp[e,h]
  ·simp[e]
 ·rw[if_neg h]
  unfold bal
  rw[bu]
  by_cases e:k=x
  ·simp[e]
  ·simp[e]
theorem jk{m:Bk}{k:Dg}{p:Pu}{q:Dg×Pu}(h:q∈cy m k p):q=(k,p)∨q∈m:=by
 induction m with
 |nil=>simp[cy] at h;exact Or.inl h
 |cons a m ih=>
  obtain⟨x,y⟩:=a
  unfold cy at h
  by_cases e:x=k
  ·rw[if_pos e] at h
   rcases List.mem_cons.1 h with h|h
   ·exact Or.inl (by rw[h,e])
   ·exact Or.inr (by simp[h])
  ·rw[if_neg e] at h
   rcases List.mem_cons.1 h with h|h
   ·exact Or.inr (by simp[h])
   ·rcases ih h with h|h
    ·exact Or.inl h
    ·exact Or.inr (by simp[h])
theorem wy(m:Bk)(k:Dg)(p:Pu):tot (cy m k p)=tot m-(bal m k).money+p.money:=by
 induction m with
 |nil=>simp[cy,tot,bal,ar,pz]
 |cons a m ih=>
  obtain⟨x,y⟩:=a
  unfold cy bal ar
  by_cases e:x=k
  ·rw[if_pos e,if_pos e,bS,bS]
   simp
   omega
  ·rw[if_neg e,if_neg e,bS,bS,ih]
   show y.money+(tot m-((ar m k).getD pz).money+p.money)=y.money+tot m-((ar m k).getD pz).money+p.money
   omega
theorem qT(m:Bk)(hn:(m.map (·.1)).Nodup)(k:Dg):tot (m.filter (fun q=>decide (q.1≠k)))=tot m-(bal m k).money:=by
 induction m with
 |nil=>simp[tot,bal,ar,pz]
 |cons a m ih=>
  obtain⟨x,y⟩:=a
  rw[List.map_cons,List.nodup_cons] at hn
  by_cases e:x=k
  ·rw[List.filter_cons_of_neg (by simp[e]),bS,ih hn.2]
   have h0:ar m k=none:=by
    rw[dE]
    intro q hq he
    exact hn.1 (List.mem_map.2 ⟨q,hq,by rw[he,e]⟩)
   unfold bal
   rw[h0]
   simp[ar,e,pz]
   omega
  ·rw[List.filter_cons_of_pos (by simp[e]),bS,bS,ih hn.2]
   unfold bal
   simp only[ar,if_neg e]
   omega
theorem zn(m:Bk)(hn:(m.map (·.1)).Nodup)(k:Dg)(p:Pu):tot (jM m k p)=tot m-(bal m k).money+p.money:=by
 unfold jM
 by_cases h:p=pz
 ·rw[if_pos h,qT m hn,h]
  simp[pz]
 ·rw[if_neg h,wy]
theorem um{m:Bk}{k:Dg}{p:Pu}(hn:(m.map (·.1)).Nodup):((cy m k p).map (·.1)).Nodup:=by
 induction m with
 |nil=>simp[cy]
 |cons a m ih=>
  obtain⟨x,y⟩:=a
  unfold cy
  by_cases e:x=k
  ·rw[if_pos e]
   subst e
   simpa using hn
  ·rw[if_neg e,List.map_cons,List.nodup_cons]
   rw[List.map_cons,List.nodup_cons] at hn
   refine⟨fun hm=>?_,ih hn.2⟩
   obtain⟨q,hq,he⟩:=List.mem_map.1 hm
   rcases jk hq with h|h
   ·subst h
    exact e he.symm
   ·exact hn.1 (List.mem_map.2 ⟨q,h,he⟩)
theorem o4(m:Bk)(k:Dg)(p:Pu):(cy m k p).length≤m.length+1:=by
 induction m with
 |nil=>simp[cy]
 |cons a m ih=>
  obtain⟨x,y⟩:=a
  unfold cy
  by_cases e:x=k
  ·rw[if_pos e];simp
  ·rw[if_neg e];simp;exact ih
structure Ok(T N:Int)(m:Bk):Prop where
 nd:(m.map (·.1)).Nodup
 nz:∀p∈m,p.2≠pz
 mon:∀p∈m,0≤p.2.money
 non:∀p∈m,0≤p.2.nonce∧p.2.nonce≤N
 tot:tot m=T
theorem nD{m:Bk}{k:Dg}{p:Pu}(h:ar m k=some p):(k,p)∈m:=by
 induction m with
 |nil=>simp[ar] at h
 |cons a m ih=>
  obtain⟨x,y⟩:=a
  unfold ar at h
  by_cases e:x=k
  ·rw[if_pos e] at h
   simp only[Option.some.injEq] at h
   subst e
   subst h
   simp
  ·rw[if_neg e] at h
   exact List.mem_cons_of_mem _ (ih h)
theorem Bh{m:Bk}(h:∀p∈m,0≤p.2.money){q:Dg×Pu}(hq:q∈m):q.2.money≤tot m:=by
 induction m with
 |nil=>cases hq
 |cons a m ih=>
  rw[bS]
  have h0:=h a (by simp)
  have h1:=pS (m:=m) (fun p hp=>h p (by simp[hp]))
  rcases List.mem_cons.1 hq with rfl|hq
  ·omega
  ·have:=ih (fun p hp=>h p (by simp[hp])) hq
   omega
theorem Ok.t0{T N:Int}{m:Bk}(h:Ok T N m):0≤T:=by rw[←h.tot];exact pS h.mon
theorem Ok.bnd{T N:Int}{m:Bk}(h:Ok T N m)(hN:0≤N)(k:Dg):0≤(bal m k).money∧(bal m k).money≤T∧0≤(bal m k).nonce∧(bal m k).nonce≤N:=by
 have ht:=h.t0
 unfold bal
 cases e:ar m k with
 |none=>simp[pz];exact⟨ht,hN⟩
 |some p=>
  have hm:=nD e
  have h1:=h.mon _ hm
  have h2:=h.non _ hm
  have h3:=Bh h.mon hm
  rw[h.tot] at h3
  exact⟨h1,h3,h2⟩
theorem Ok.Ah{T N:Int}{m:Bk}(h:Ok T N m)(hN:0≤N)(hT:T≤2000000000000000000)(hN':N≤2000000000000000000):Good m:=fun k=>by
 have:=h.bnd hN k
 omega
theorem Ok.put{T N N':Int}{m:Bk}(h:Ok T N m)(hN:N≤N')(k:Dg)(p:Pu)(h1:0≤p.money)(h2:0≤p.nonce∧p.nonce≤N'):Ok (T-(bal m k).money+p.money) N' (jM m k p):=by
 refine⟨?_,?_,?_,?_,by rw[zn m h.nd,h.tot]⟩
 all_goals unfold jM
 all_goals by_cases e:p=pz
 ·rw[if_pos e]
  exact h.nd.sublist (List.filter_sublist.map _)
 ·rw[if_neg e]
  exact um h.nd
 ·rw[if_pos e]
  exact fun q hq=>h.nz q (List.mem_filter.1 hq).1
 ·rw[if_neg e]
  intro q hq
  rcases jk hq with rfl|hq
  ·exact e
  ·exact h.nz q hq
 ·rw[if_pos e]
  exact fun q hq=>h.mon q (List.mem_filter.1 hq).1
 ·rw[if_neg e]
  intro q hq
  rcases jk hq with rfl|hq
  ·exact h1
  ·exact h.mon q hq
 ·rw[if_pos e]
  intro q hq
  have:=h.non q (List.mem_filter.1 hq).1
  omega
 ·rw[if_neg e]
  intro q hq
  rcases jk hq with rfl|hq
  ·exact h2
  ·have:=h.non q hq
   omega
theorem fE(m:Bk)(k:Dg)(p:Pu):(jM m k p).length≤m.length+1:=by
 unfold jM
 by_cases e:p=pz
 ·rw[if_pos e]
  have:=List.length_filter_le (fun q:Dg×Pu=>decide (q.1≠k)) m
  omega
 ·rw[if_neg e]
  exact o4 m k p
theorem xq{m:Bk}{f:Dg}{n:Int}(h:mvE m f n=0):0≤n∧n≤1125899906842624∧n≤(bal m f).money:=by
 unfold mvE at h
 split at h
 ·cases h
 ·split at h
  ·cases h
  ·omega
theorem Ok.move{T N:Int}{m:Bk}(h:Ok T N m)(hN:0≤N)(f t:Dg)(n:Int):Ok T N (mvM m f t n):=by
 unfold mvM
 by_cases e:mvE m f n=0∧f≠t
 ·rw[if_pos e]
  obtain⟨a1,a2,a3⟩:=xq e.1
  have hf:=h.bnd hN f
  have ht:=h.bnd hN t
  have h1:=h.put (Int.le_refl N) f ⟨(bal m f).money-n,(bal m f).nonce⟩ (by simp only;omega) ⟨hf.2.2.1,hf.2.2.2⟩
  have h2:=h1.put (Int.le_refl N) t ⟨(bal m t).money+n,(bal m t).nonce⟩ (by simp only;omega) ⟨ht.2.2.1,ht.2.2.2⟩
  rw[j9,if_neg e.2] at h2
  simp only at h2
  have:T-(bal m f).money+((bal m f).money-n)-(bal m t).money+((bal m t).money+n)=T:=by omega
  rw[this] at h2
  exact h2
 ·rw[if_neg e]
  exact h
theorem o0(m:Bk)(f t:Dg)(n:Int):(mvM m f t n).length≤m.length+2:=by
 unfold mvM
 split
 ·have h1:=fE m f ⟨(bal m f).money-n,(bal m f).nonce⟩
  have h2:=fE (jM m f ⟨(bal m f).money-n,(bal m f).nonce⟩) t ⟨(bal m t).money+n,(bal m t).nonce⟩
  omega
 ·omega
theorem rH(m:Bk)(k:Dg)(n:Int):(usM m k n).length≤m.length+2:=by
 unfold usM
 split
 ·have h1:=fE m k ⟨(bal m k).money,(bal m k).nonce+1⟩
  omega
 ·omega
theorem wx{m m':Bk}(hp:m.Perm m'):tot m=tot m':=by
 induction hp with
 |nil=>rfl
 |cons x _ ih=>rw[bS,bS,ih]
 |swap x y l=>rw[bS,bS,bS,bS];omega
 |trans _ _ a b=>exact a.trans b
theorem Ok.perm{T N:Int}{m m':Bk}(h:Ok T N m)(hp:m'.Perm m):Ok T N m'∧∀k,bal m' k=bal m k:=by
 refine⟨⟨(hp.map _).nodup_iff.2 h.nd,fun p hp'=>h.nz p (hp.mem_iff.1 hp'),fun p hp'=>h.mon p (hp.mem_iff.1 hp'),fun p hp'=>h.non p (hp.mem_iff.1 hp'),?_⟩,fun k=>?_⟩
 ·rw[←h.tot]
  exact wx hp
 ·unfold bal
  rw[lz hp ((hp.map _).nodup_iff.2 h.nd)]
end
section
abbrev Fb:=Dg→Pu
def upF(f:Fb)(k:Dg)(p:Pu):Fb:=fun x=>if k=x then p else f x
def mvz(f:Fb)(a:Dg)(n:Int):Int:=if n<0∨1125899906842624<n then 2 else if(f a).money<n then 21 else 0
def mvf(f:Fb)(a b:Dg)(n:Int):Fb:=if mvz f a n=0∧a≠b then upF (upF f a ⟨(f a).money-n,(f a).nonce⟩) b ⟨(f b).money+n,(f b).nonce⟩ else f
def usz(f:Fb)(k:Dg)(n:Int):Int:=if n<(f k).nonce then 17 else if(f k).nonce<n then 20 else if 1099511627776≤n then 2 else 0
def usf(f:Fb)(k:Dg)(n:Int):Fb:=if usz f k n=0 then upF f k ⟨(f k).money,(f k).nonce+1⟩ else f
def tdz(f:Fb)(a:Dg)(l:List UInt8):Int:=match l with
 |[]=>3
 |u::_=>if mvz f a (u.toNat:Int)≠0 then mvz f a (u.toNat:Int) else if u=13 then 10 else 0
def tdf(f:Fb)(a:Dg)(l:List UInt8):Fb:=match l with
 |[]=>f
 |u::_=>mvf f a xG (u.toNat:Int)
def pE(f:Fb)(t:Tx):Int:=if t.kind=0 then(if dt t.body≠0 then dt t.body else mvz f t.frm (iu t.body)) else tdz f t.frm t.body
def vv(f:Fb)(t:Tx):Fb:=if t.kind=0 then(if dt t.body≠0 then f else mvf f t.frm (jc t.body) (iu t.body)) else if tdz f t.frm t.body=0 then tdf f t.frm t.body else f
def sJ(a:Tl)(f:Fb)(h:Int)(t:Tx):Tl:=if t.kind=0 then a else if tdz f t.frm t.body=0 then tdT a h t.frm t.kind t.body else a
def gJ(f:Fb)(t:Tx):Int:=if usz f t.frm t.non≠0 then usz f t.frm t.non else mvz (usf f t.frm t.non) t.frm t.fee
def lN(f:Fb)(mk:Dg)(t:Tx):Fb:=mvf (usf f t.frm t.non) t.frm mk t.fee
theorem uc(m:Bk)(k:Dg)(p:Pu):bal (jM m k p)=upF (bal m) k p:=funext (fun x=>j9 m k x p)
theorem Ds(m:Bk)(a b:Dg)(n:Int):bal (mvM m a b n)=mvf (bal m) a b n:=by
 unfold mvM mvf
 show bal (if mvE m a n=0∧a≠b then _ else m)=if mvE m a n=0∧a≠b then _ else _
 split
 ·rw[uc,uc]
 ·rfl
theorem E5(m:Bk)(k:Dg)(n:Int):bal (usM m k n)=usf (bal m) k n:=by
 unfold usM usf
 show bal (if usE m k n=0 then _ else m)=if usE m k n=0 then _ else _
 split
 ·rw[uc]
 ·rfl
theorem Db(m:Bk)(a:Dg)(l:List UInt8):tdZ m a l=tdz (bal m) a l:=by cases l<;>rfl
theorem Jx(m:Bk)(a:Dg)(l:List UInt8):bal (tdM m a l)=tdf (bal m) a l:=by
 cases l
 ·rfl
 ·exact Ds _ _ _ _
theorem DX(m:Bk)(h:Int)(t:Tx):yg m h t=pE (bal m) t:=by
 unfold yg pE
 rw[Db]
 rfl
theorem DZ(m:Bk)(h:Int)(t:Tx):bal (sC m h t)=vv (bal m) t:=by
 unfold sC vv
 rw[Db]
 split
 ·split
  ·rfl
  ·exact Ds _ _ _ _
 ·split
  ·exact Jx _ _ _
  ·rfl
theorem DY(a:Tl)(m:Bk)(h:Int)(t:Tx):mr a m h t=sJ a (bal m) h t:=by
 unfold mr sJ
 rw[Db]
structure BkI(T:Int)(n:Nat)(m:Bk)(f:Fb):Prop where
 ok:Ok T 1099511627776 m
 len:m.length≤n
 eq:bal m=f
theorem BkI.Ah{T:Int}{n:Nat}{m:Bk}{f:Fb}(h:BkI T n m f)(hT:T≤1000000000):Good m:=h.ok.Ah (by omega) (by omega) (by omega)
theorem BkI.perm{T:Int}{n:Nat}{m m':Bk}{f:Fb}(h:BkI T n m f)(hp:m'.Perm m):BkI T n m' f:=⟨(h.ok.perm hp).1,by rw[hp.length_eq];exact h.len,(funext (h.ok.perm hp).2).trans h.eq⟩
theorem BkI.mono{T:Int}{n n':Nat}{m:Bk}{f:Fb}(h:BkI T n m f)(hn:n≤n'):BkI T n' m f:=⟨h.ok,Nat.le_trans h.len hn,h.eq⟩
theorem wu{m:Bk}{k:Dg}{n:Int}(h:usE m k n=0):(bal m k).nonce=n∧n<1099511627776:=by
 unfold usE at h
 repeat' split at h
 all_goals first|(cases h;done)|omega
theorem BkI.use{T:Int}{n:Nat}{m:Bk}{f:Fb}(h:BkI T n m f)(k:Dg)(i:Int):BkI T (n+2) (usM m k i) (usf f k i):=by
 refine⟨?_,Nat.le_trans (rH m k i) (Nat.add_le_add_right h.len 2),by rw[E5,h.eq]⟩
 have hk:=h.ok.bnd (by omega) k
 unfold usM
 by_cases e:usE m k i=0
 ·rw[if_pos e]
  obtain⟨e1,e2⟩:=wu e
  have h1:=h.ok.put (Int.le_refl _) k ⟨(bal m k).money,(bal m k).nonce+1⟩ hk.1 ⟨by simp only;omega,by simp only;omega⟩
  simp only at h1
  have:T-(bal m k).money+(bal m k).money=T:=by omega
  rw[this] at h1
  exact h1
 ·rw[if_neg e]
  exact h.ok
theorem BkI.move{T:Int}{n:Nat}{m:Bk}{f:Fb}(h:BkI T n m f)(a b:Dg)(i:Int):BkI T (n+2) (mvM m a b i) (mvf f a b i):=
 ⟨h.ok.move (by omega) a b i,Nat.le_trans (o0 m a b i) (Nat.add_le_add_right h.len 2),by rw[Ds,h.eq]⟩
theorem BkI.pay{T:Int}{n:Nat}{m:Bk}{f:Fb}(h:BkI T n m f)(mk:Dg)(t:Tx):BkI T (n+4) (JL m mk t) (lN f mk t):=(h.use t.frm t.non).move t.frm mk t.fee
theorem BkI.ask{T:Int}{n:Nat}{m:Bk}{f:Fb}(h:BkI T n m f)(i:Int)(t:Tx):BkI T (n+2) (sC m i t) (vv f t):=by
 have key:∀{m':Bk},m'=sC m i t→(m'=m∨∃b j,m'=mvM m t.frm b j)→BkI T (n+2) m' (vv f t):=fun{m'} e hh=>by
  have ef:bal m'=vv f t:=by rw[e,DZ,h.eq]
  rcases hh with rfl|⟨b,j,rfl⟩
  ·exact⟨h.ok,Nat.le_trans h.len (Nat.le_add_right _ _),ef⟩
  ·have:=h.move t.frm b j
   exact⟨this.ok,this.len,ef⟩
 refine key rfl ?_
 unfold sC
 split
 ·split
  ·exact Or.inl rfl
  ·exact Or.inr ⟨_,_,rfl⟩
 ·split
  ·unfold tdM
   split
   ·exact Or.inl rfl
   ·exact Or.inr ⟨_,_,rfl⟩
  ·exact Or.inl rfl
theorem CJ(a:Tl)(f:Fb)(h:Int)(t:Tx):(sJ a f h t).n≤a.n+1:=by
 unfold sJ
 split
 ·omega
 ·split
  ·unfold tdT
   split
   ·omega
   ·exact Nat.le_refl _
  ·omega
end
section
def okC(Ts:List TypeId)(A:List Nat)(b:Nat):Obj→Prop
 | .cells _ T _=>T∈Ts
 | .map _ _=>b∈A
 |_=>True
def Cnd(n:Nat)(Ts:List TypeId)(A:List Nat)(w:World)(S:List Nat):Prop:=
 ∀b∈S,n≤b∧(w.heap.size≤b∨∃o,w.heap[b]?=some o∧okC Ts A b o)
def Kt(n:Nat)(Ts:List TypeId)(A:List Nat)(w w':World):Prop:=∃S,Kp S w w'∧Cnd n Ts A w S
theorem Cnd.nil{n:Nat}{Ts:List TypeId}{A:List Nat}{w:World}:Cnd n Ts A w []:=fun _ h=>by cases h
theorem Cnd.app{n:Nat}{Ts:List TypeId}{A:List Nat}{w:World}{S S':List Nat}(h:Cnd n Ts A w S)(h':Cnd n Ts A w S'):Cnd n Ts A w (S++S'):=fun b hb=>(List.mem_append.1 hb).elim (h b) (h' b)
theorem Cnd.obj{n:Nat}{Ts:List TypeId}{A:List Nat}{w:World}{b:Nat}{o:Obj}(hn:n≤b)(h:Blk w b o)(hT:okC Ts A b o):Cnd n Ts A w [b]:=fun z hz=>by
 rw[List.mem_singleton] at hz
 subst hz
 exact⟨hn,Or.inr ⟨o,h,hT⟩⟩
theorem Cnd.cells{n:Nat}{Ts:List TypeId}{A:List Nat}{w:World}{b:Nat}{cs:Array Value}{T:TypeId}(hn:n≤b)(h:Blk w b (.cells cs T))(hT:T∈Ts):Cnd n Ts A w [b]:=Cnd.obj hn h hT
theorem Cnd.map{n:Nat}{Ts:List TypeId}{A:List Nat}{w:World}{b:Nat}{κ ν:Type}{enc:κ→Value}{V:ν→Value}{m:List (κ×ν)}(hn:n≤b)(h:az w b enc V m)(hA:b∈A):Cnd n Ts A w [b]:=by
 obtain⟨es,c,hb⟩:=h.blk
 exact Cnd.obj hn hb hA
theorem Cnd.own{n m sz base:Nat}{Ts:List TypeId}{A:List Nat}{w:World}{T:TypeId}{v:Value}{xs:List Value}(ho:w.ownsRow base T sz v m xs)(hn:n≤base)(hT:T∈Ts):Cnd n Ts A w (aT v):=fun b hb=>by
 have hb':=ay hb
 refine⟨Nat.le_trans hn (bE ho b hb'),Or.inr ?_⟩
 rcases ho.2 with⟨rfl,_⟩|⟨g,cap,cur,rfl,_,hg,_⟩
 ·cases hb'
 ·simp only[Value.ownBlock,Option.some.injEq] at hb'
  subst hb'
  exact⟨_,hg,hT⟩
theorem Cnd.no{n:Nat}{Ts:List TypeId}{A:List Nat}{w:World}{S:List Nat}(h:Cnd n Ts A w S){b:Nat}{o:Obj}(hb:Blk w b o)(ho:¬okC Ts A b o):b∉S:=fun hm=>by
 rcases(h b hm).2 with g|⟨o',g,g'⟩
 ·have:=hb.lt
  omega
 ·rw[Blk.uniq hb g] at ho
  exact ho g'
theorem Cnd.not{n:Nat}{Ts:List TypeId}{A:List Nat}{w:World}{S:List Nat}(h:Cnd n Ts A w S){T:TypeId}(hT:T∉Ts):NoT T n w S:=fun b hb=>⟨(h b hb).1,fun cs f e=>h.no e hT hb⟩
theorem Cnd.blk{n:Nat}{Ts:List TypeId}{A:List Nat}{w w':World}{S:List Nat}(h:Cnd n Ts A w S)(hk:Kp S w w'){b:Nat}{cs:Array Value}{T:TypeId}(hB:Blk w b (.cells cs T))(hT:T∉Ts):Blk w' b (.cells cs T):=hB.kp hk (h.no hB hT)
theorem Cnd.zU{n:Nat}{Ts:List TypeId}{A:List Nat}{w w':World}{S:List Nat}(h:Cnd n Ts A w S)(hk:Kp S w w'){κ ν:Type}{b:Nat}{enc:κ→Value}{V:ν→Value}{m:List (κ×ν)}(hM:az w b enc V m)(hA:b∉A):az w' b enc V m:=by
 obtain⟨es,c,hb⟩:=hM.blk
 exact hM.kp hk (h.no hb hA)
end
section
section
variable {P:Program} {L:Env} {ty:TypeId} {pos:String} {af:Array Edge} {g:Option (Nat×Bool)} {S:List Nat} {w0:World} {ops:List Oper} {gh:List Nat} {K:Env→(World→Prop)→(World→Prop)→Prop} {j:Nat} {ord:List Nat} {F R0:World→Prop}
theorem Der.yh{base:Nat}{t e:TypeId}{i:TypeInfo}[u:Ut P t (.slice e)][f:Inf P e i]{z:Value}{d:Nat}{s x:Operand}{v:Value}{nn:Nat}{xs:List Value}{b off m c:Nat}{news:List Value}
  (ho:ops[j]?=some ⟨some d,.call {callee:= .builtin .append,args:= #[s,x],argTypes:= #[t,t]},ty,pos,af,g⟩) (hw:want ops L ⟨some d,.call {callee:= .builtin .append,args:= #[s,x],argTypes:= #[t,t]},ty,pos,af,g⟩=some true) (hg:gh.elem j=true) (hk:(known L s&&known L x)=true)
  (hs:rho L s=v) (hx:rho L x= .slice (some ⟨b,off,none⟩) m c) (hz:i.zero=some z) (hzs:Nat.beq z.cells.size i.size=true) (hsz:Nat.blt 0 i.size=true) (hr:∀w,Kp S w0 w→F w→Row w b off news) (hl:news.length=m*i.size) (h1:aW news=true)
  (h63:nn+m≤maxLen) (hbytes:(nn+m)*i.bytes≤140737488355328) (hbase:base≤w0.heap.size) (hS:∀b∈aT v,b∈S) (hFo:∀w w',w.ownsRow base e i.size v nn xs→Kp (aT v) w w'→R0 w→F w→F w')
  (hR1:cp [] R0) (hR0:∀w w',w.ownsRow base e i.size v nn xs→Kp (aT v) w w'→R0 w→R0 w')
  (h:∀v',Der P S w0 ops gh K ord ((d,v')::L) (fun w=>F w∧∀g,v'.ownBlock=some g→v.ownBlock=some g∨w0.heap.size≤g) (fun w=>R0 w∧w.ownsRow base e i.size v' (nn+m) (xs++news))):
  Der P S w0 ops gh K (j::ord) L F (fun w=>R0 w∧w.ownsRow base e i.size v nn xs):=by
 refine Der.nK (X:=Value) (fun v'=>v') (fun v' _=>∀g,v'.ownBlock=some g→v.ownBlock=some g∨w0.heap.size≤g) (fun v' w=>R0 w∧w.ownsRow base e i.size v' (nn+m) (xs++news)) ho hw hg (by simpa[Op.operands,Call.operands] using hk) (fun _ _ _ _ h=>h) (fun v' w w' hk h=>⟨hR1 _ _ hk h.1,aI h.2 hk⟩) (fun w hk1 hF hown=>?_) h
 obtain⟨hR,hown⟩:=hown
 have hrow:=hr w hk1 hF
 have hb:base≤w.heap.size:=Nat.le_trans hbase hk1.size
 obtain⟨v',w',h2,h3,h4⟩:=dC (P:=P) (ty:=ty) (d:= .bool) (c:=c) (u:=u) (f:=f) hz (Nat.eq_of_beq_eq_true hzs) (by simpa[Nat.blt_eq] using hsz) hown hl hrow h1 h63 hbytes hb
 have hwh:=fy (P:=P) (ty:=ty) (c:=c) (u:=u) (f:=f) hz hown hl hrow h1 h63 hbytes h2
 unfold aX
 have:(execOp (rho L) ⟨some d,.call {callee:= .builtin .append,args:= #[s,x],argTypes:= #[t,t]},ty,pos,af,g⟩).run P w= .ok (.value v') w':=by
  simp only[execOp,resolve,invoke,builtin,Sem.run_bind,Sem.run_pure,Result.andThen_ok,List.map_toArray,List.map_cons,List.map_nil,hs,hx,h2]
 rw[this]
 refine⟨v',rfl,⟨hFo _ _ hown h4 hR hF,fun g hg=>?_⟩,⟨hR0 _ _ hown h4 hR,h3⟩,hk1.trans (h4.mono hS)⟩
 rcases hwh g hg with h|h
 ·exact Or.inl h
 ·exact Or.inr (by rw[h];exact hk1.size)
theorem Der.Cv{R:World→Prop}{X:Type}{d:Nat}{f:FuncId}[Fnc P f]{args:List Operand}{vs:List Value}{tys:Array TypeId}(val:X→Value)(F' R':X→World→Prop)
  (ho:ops[j]?=some ⟨some d,.call ⟨.value (.func f),args.toArray,tys⟩,ty,pos,af,g⟩) (hw:want ops L ⟨some d,.call ⟨.value (.func f),args.toArray,tys⟩,ty,pos,af,g⟩=some true) (hg:gh.elem j=true) (hk:(Op.call ⟨.value (.func f),args.toArray,tys⟩).operands.toList.all (known L)=true)
  (he:Evs L args vs) (hF:∀x,cp [] (F' x)) (hR:∀x,cp [] (R' x)) (hc:∀w,Kp S w0 w→F w→R w→Calls P f vs.toArray w (fun e w'=>∃x,e= .returned (val x)∧(F w'∧F' x w')∧R' x w'∧Kp S w w'))
  (hd:∀x,Der P S w0 ops gh K ord ((d,val x)::L) (fun w=>F w∧F' x w) (R' x)):Der P S w0 ops gh K (j::ord) L F R:=
 Der.nK val F' R' ho hw hg hk hF hR (fun w h1 h2 h3=>du (by rw[he.arr];exact(hc w h1 h2 h3).mono (fun e w' ⟨x,g1,g2,g3,g4⟩=>⟨val x,g1,x,rfl,g2,g3,h1.trans g4⟩))) hd
theorem Der.Cx{R:World→Prop}{d:Nat}{T E:TypeId}{b:Nat}{parts:List (Nat×Operand)}{vs:List (Nat×Value)}{cs:Array Value}
  (ho:ops[j]?=some ⟨some d,.buildSlice T b parts.toArray,ty,pos,af,g⟩) (hw:want ops L ⟨some d,.buildSlice T b parts.toArray,ty,pos,af,g⟩=some true) (hg:gh.elem j=true) (hk:(Op.buildSlice T b parts.toArray).operands.toList.all (known L)=true)
  (he:(parts.map fun p=>(p.1,rho L p.2))=vs) (hrun:∀w:World,(Instr.buildSlice T b vs.toArray).run P w= .ok (.slice (some ⟨w.heap.size,0,none⟩) b b) {w with heap:=w.heap.push (.cells cs E)}) (hFs:cp [] F) (hRs:cp [] R)
  (h:∀bn,Der P S w0 ops gh K ord ((d,.slice (some ⟨bn,0,none⟩) b b)::L) (fun w=>F w∧(w0.heap.size≤bn∧Blk w bn (.cells cs E))) R):Der P S w0 ops gh K (j::ord) L F R:=by
 refine Der.nK (X:=Nat) (fun bn=> .slice (some ⟨bn,0,none⟩) b b) (fun bn w=>w0.heap.size≤bn∧Blk w bn (.cells cs E)) (fun _=>R) ho hw hg hk (fun bn w w' hk h=>⟨h.1,h.2.kp0 hk⟩) (fun _=>hRs) (fun w hk1 hF hR=>?_) h
 unfold aX
 have e:(parts.toArray.map fun(p:Nat×Operand)=>(p.1,rho L p.2))=vs.toArray:=by simp[he]
 have:(execOp (rho L) ⟨some d,.buildSlice T b parts.toArray,ty,pos,af,g⟩).run P w= .ok (.value (.slice (some ⟨w.heap.size,0,none⟩) b b)) {w with heap:=w.heap.push (.cells cs E)}:=by
  simp only[execOp,e,Sem.run_bind,hrun w,Result.andThen,Sem.run_pure]
 rw[this]
 have hp:=Kp.push w (.cells cs E) rfl
 exact⟨w.heap.size,rfl,⟨hFs _ _ hp hF,hk1.size,Blk.push w _⟩,hRs _ _ hp hR,hk1.trans hp.any⟩
theorem qlF{d:Nat}{T:TypeId}{x:Operand}[c:cX P T]{b off:Nat}{v:Value}(hx:ro L x=some (.pointer (some ⟨b,off,none⟩)))(hr:∀w,F w→Row w b off [v]):aO P S w0 F L ⟨some d,.load T x,ty,pos,af,g⟩ v:=fun w _ hF=>
 qlc (S:=[]) (w0:=w) (F:=fun _=>True) hx (hr w hF) List.not_mem_nil w (Kp.refl _ _) trivial
end
end
section
def dof(f:Fb)(mk:Dg)(t:Tx):Fb:=if gJ f t=0 then vv (lN f mk t) t else usf f t.frm t.non
def dot(a:Tl)(f:Fb)(h:Int)(mk:Dg)(t:Tx):Tl:=if gJ f t=0 then sJ a (lN f mk t) h t else a
def doa(es:List Int)(f:Fb)(mk:Dg)(t:Tx):List Int:=if gJ f t=0 then es++[pE (lN f mk t) t] else es
def Dos(w:World)(base:Nat)(T:TypeId)(ps:List Value)(bs bm:Nat)(f:Fb)(t:Tl)(v:Value)(es:List Int)(h:Int)(mk:Dg)(x:Tx)(tot:Int)(n:Nat)(e:Ending)(w':World):Prop:=
 ∃bk' bm' tb' v' m',e= .returned (.int .i64 (gJ f x))∧gr w' T ps bs bk' bm' tb' m' (dot t f h mk x) v'∧BkI tot (n+6) m' (dof f mk x)∧w'.ownsRow base 36 1 v' (doa es f mk x).length (flt ziL (doa es f mk x))∧Kp (bs::bm::aT v) w w'∧(bm'=bm∨w.heap.size≤bm')∧(∀g,v'.ownBlock=some g→v.ownBlock=some g∨w.heap.size≤g)
theorem KW(n:Int)(w:World):(Instr.buildSlice 114 1 #[(0,.int .i64 n)]).run Tryz.prog w= .ok (.slice (some ⟨w.heap.size,0,none⟩) 1 1) {w with heap:=w.heap.push (.cells #[.int .i64 n] 36)}:=by kernel_rfl
theorem fM{w:World}{base k sz:Nat}{T:TypeId}{v:Value}{xs:List Value}(h:w.ownsRow base T sz v k xs):∃a c,v= .slice a k c:=by
 rcases h.2 with⟨rfl,h0⟩|⟨g',cap,cur,rfl,_⟩
 ·have:k=0:=h0
  subst this
  exact⟨_,_,rfl⟩
 ·exact⟨_,_,rfl⟩
theorem iw{κ ν:Type}{enc:κ→Value}{V:ν→Value}{m:List (κ×ν)}{w:World}{base k sz b:Nat}{T:TypeId}{v:Value}{xs:List Value}(ho:w.ownsRow base T sz v k xs)(hm:az w b enc V m):∀g,v.ownBlock=some g→g∉[b]:=fun g hg=>nm1 (fun e=>by
 rcases ho.2 with⟨rfl,_⟩|⟨g',cap,cur,rfl,_,hg',_⟩
 ·cases hg
 ·simp only[Value.ownBlock,Option.some.injEq] at hg
  exact cS hg' hm (hg.trans e).symm)
theorem gr.kpO{w w':World}{bs bk bm tb base k sz:Nat}{m:Bk}{t:Tl}{v v':Value}{T:TypeId}{ps xs:List Value}(h:gr w T ps bs bk bm tb m t v)(ho:w.ownsRow base 36 sz v' k xs)(hT:T≠36)(hk:Kp (aT v') w w'):gr w' T ps bs bk bm tb m t v:=by
 have key:∀{b:Nat} {cs:Array Value} {T':TypeId},T'≠36→Blk w b (.cells cs T')→b∉aT v':=fun hT' hB hm=>(NoT.own ho (Nat.le_refl _) (fun e=>hT' e.symm) _ hm).2 _ _ hB
 exact⟨h.blk.kp hk (key hT h.blk),⟨h.book.blk.kp hk (key (by decide) h.book.blk),h.book.map.kp hk (fun hm=>iw ho h.book.map _ (ay hm) (List.mem_singleton.2 rfl))⟩,h.app.kp hk (key (by decide) h.app)⟩
theorem yf{w:World}{n0 bs bk bm tb:Nat}{m:Bk}{t:Tl}{v:Value}{T:TypeId}{ps:List Value}{f:Fb}{tot:Int}{n:Nat}(hs:gr w T ps bs bk bm tb m t v)(hb:BkI tot n m f)(ht:tot≤1000000000){x:Tm}(hx:x.In n0 w)(h:Int)(htn:t.n≤1000000):
  Calls Tryz.prog 121 #[.pointer (some ⟨bs,0,none⟩),.int .i64 h,txv x] w (fun e w'=>∃bk' bm' tb' m',e= .returned (.int .i64 (pE f x.t))∧gr w' T ps bs bk' bm' tb' m' (sJ t f h x.t) v∧BkI tot (n+2) m' (vv f x.t)∧Kp [bs,bm] w w'∧(bm'=bm∨w.heap.size≤bm')):=by
 have key:∀{e:Ending} {w':World},D7 w T ps bs bk bm tb m t v h x.t e w'→∃bk' bm' tb' m',e= .returned (.int .i64 (pE f x.t))∧gr w' T ps bs bk' bm' tb' m' (sJ t f h x.t) v∧BkI tot (n+2) m' (vv f x.t)∧Kp [bs,bm] w w'∧(bm'=bm∨w.heap.size≤bm'):=fun{e w'} hh=>by
  obtain⟨bk',bm',tb',m1,hp,he,hs',hk,hc⟩:=hh
  have h1:=hb.perm hp
  refine⟨bk',bm',tb',_,by rw[he,DX,h1.eq],by rw[←h1.eq,←DY];exact hs',h1.ask h x.t,hk,?_⟩
  rcases hc with hc|hc
  ·exact Or.inl hc.2.1
  ·exact Or.inr hc.2.1
 by_cases hk:x.t.kind=0
 ·exact(pG hs (hb.Ah ht) hx h hk).mono (fun _ _=>key)
 ·exact(oq hs (hb.Ah ht) hx h hk htn).mono (fun _ _=>key)
theorem BD{f:Fb}{x:Tx}(h:usz f x.frm x.non≠0):gJ f x=usz f x.frm x.non:=by unfold gJ;rw[if_pos h]
theorem Dr{f:Fb}{x:Tx}(h:usz f x.frm x.non=0):gJ f x=mvz (usf f x.frm x.non) x.frm x.fee:=by unfold gJ;rw[if_neg (fun g=>g h)]
theorem gr.kpb{w w':World}{bs bk bm tb:Nat}{m:Bk}{t:Tl}{v:Value}{T:TypeId}{ps:List Value}(h:gr w T ps bs bk bm tb m t v)(v':Value){ps':List Value}(hk:Kp [bs] w w')(hB:Blk w' bs (.cells (bhp bk tb v' ps').toArray T))(h1:T≠136)(h2:T≠76):gr w' T ps' bs bk bm tb m t v':=by
 have ne:∀{b:Nat} {cs:Array Value} {T':TypeId},T≠T'→Blk w b (.cells cs T')→b∉[bs]:=fun hT' hB'=>nm1 (fun e=>by
  subst e
  have:=h.blk.uniq hB'
  simp only[Obj.cells.injEq] at this
  exact hT' this.2.1)
 exact⟨hB,⟨h.book.blk.kp hk (ne h1 h.book.blk),h.book.map.kp hk (nm1 (fun e=>cS h.blk h.book.map e))⟩,h.app.kp hk (ne h2 h.app)⟩
attribute [local irreducible] CG NG SG aO Der Row Blk az aH gJ lN pE vv sJ usz usf mvz mvf usE usM mvE mvM
theorem uO{w:World}{n0 base bs bk bm tb:Nat}{m:Bk}{t:Tl}{v:Value}{T:TypeId}{ps:List Value}{f:Fb}{tot:Int}{n:Nat}{es:List Int}(hs:gr w T ps bs bk bm tb m t v)(hb:BkI tot n m f)(ht:tot≤1000000000)(ho:w.ownsRow base 36 1 v es.length (flt ziL es))(hbase:base≤w.heap.size)(hn0:n0≤bm)(hel:es.length≤1000000)(hT:T≠36)(hT1:T≠136)(hT2:T≠76){x:Tm}(hx:x.In n0 w)(h:Int)(mk:Dg)(htn:t.n≤1000000):
  Calls Tryz.prog 73 #[.pointer (some ⟨bs,0,none⟩),.int .i64 h,dv mk,txv x] w (Dos w base T ps bs bm f t v es h mk x.t tot n):=by
 refine nZ Tryz.func73 rfl Tryz.ntmps73 rfl ?_
 have hlm:=hs.book.map.lt
 repeat apply gst
 refine SG.box rfl rfl rfl (ag rfl) (fun b6 w1 hk1 hb6 hB6=>?_)
 have hB6:Blk w1 b6 (.cells (dc mk).toArray 47):=hB6
 refine SG.box rfl rfl rfl (ag rfl) (fun b7 w2 hk2 hb7 hB7=>?_)
 have hB7:Blk w2 b7 (.cells (txc x).toArray 52):=hB7
 have k2:=hk1.trans hk2
 have q6:Row w2 b6 0 (dc mk):=Row.all (hB6.kp0 hk2) rfl
 obtain⟨q,q0,q1,q2,q3,q4,q5⟩:=aJ hB7
 obtain⟨r0,-,r2⟩:=dT (hs.kp0 k2).blk
 repeat (first|apply gst|(apply gsv;rfl;apply qas<;>rfl))
 refine CG.tail mixed 8 [0,1,2,3,4,5,6,7] (by kernel_rfl) ?_
 repeat (apply gdv;rfl;rfl;(first|apply qmv|apply qlc|apply qla|apply qfa|apply qnc)<;>first|rfl|assumption|exact List.not_mem_nil|apply ah)
 refine Der.tl (fun w3 hk3 _ _=>?_)
 have k3:=k2.trans hk3
 have hs3:=hs.kp0 k3
 refine SG.call rfl rfl rfl (vs:=[.pointer (some ⟨bk,0,none⟩),dv x.t.frm,.int .i64 x.t.non]) (Evs.of rfl) ((uZ hs3.book (hb.Ah ht) x.t.frm x.t.non).mono (fun e w4 hh=>?_))
 obtain⟨he,hB4,hk4⟩:=hh
 have eu:usE m x.t.frm x.t.non=usz f x.t.frm x.t.non:=by rw[←hb.eq];unfold usE usz;rfl
 rw[eu] at he
 refine⟨_,he,?_⟩
 clear he q r0 q0 q1 q2 q3 q4 q5 r2 q6
 have hs4:gr w4 T ps bs bk bm tb (usM m x.t.frm x.t.non) t v:=hs3.AG hk4 hB4
 have hb4:BkI tot (n+2) (usM m x.t.frm x.t.non) (usf f x.t.frm x.t.non):=hb.use x.t.frm x.t.non
 have k4:Kp (bs::bm::aT v) w w4:=k3.any.trans (hk4.mono (fun z hz=>by rw[List.mem_singleton] at hz;rw[hz];simp))
 have hO4:=iw ho hs.book.map
 have ho4:=bA (aI ho k3) hk4 hO4
 have hB7:=(hB7.kp0 hk3).kp hk4 (nm1 (by have:=hk1.size;omega))
 have q6:Row w4 b6 0 (dc mk):=Row.all (((hB6.kp0 hk2).kp0 hk3).kp hk4 (nm1 (by omega))) rfl
 by_cases hz:usz f x.t.frm x.t.non=0
 rotate_left
 ·have ep:=BD hz
  have e1:dof f mk x.t=usf f x.t.frm x.t.non:=by unfold dof;rw[if_neg (by rw[ep];exact hz)]
  have e2:dot t f h mk x.t=t:=by unfold dot;rw[if_neg (by rw[ep];exact hz)]
  have e3:doa es f mk x.t=es:=by unfold doa;rw[if_neg (by rw[ep];exact hz)]
  repeat (first|apply gst|(apply gsv;rfl;(first|apply qmv|apply qas|apply qni)<;>first|rfl|(apply dcf;first|assumption|omega)))
  refine gct rfl ?_
  repeat (first|apply gst|(apply gsv;rfl;(first|apply qmv|apply qas)<;>rfl))
  refine aS (Or.inl rfl) Tryz.results73 (aC.tmp rfl) ?_
  exact⟨bk,bm,tb,v,_,by rw[ep],by rw[e2];exact hs4,by rw[e1];exact hb4.mono (by omega),by rw[e3];exact ho4,k4,Or.inl rfl,fun _ hg=>Or.inl hg⟩
 have ep:=Dr hz
 rw[hz]
 obtain⟨q,q0,q1,q2,q3,q4,q5⟩:=aJ hB7
 obtain⟨r0,-,r2⟩:=dT hs4.blk
 repeat (first|apply gst|(apply gsv;rfl;(first|apply qmv|apply qas|apply qni)<;>first|rfl|(apply dct;first|assumption|omega)))
 refine gcf rfl ?_
 repeat apply gst
 refine CG.tail mixed 9 [0,1,2,3,4,5,6,7,8] (by kernel_rfl) ?_
 repeat (apply gdv;rfl;rfl;(first|apply qmv|apply qlc|apply qla|apply qfa|apply qnc)<;>first|rfl|assumption|exact List.not_mem_nil|apply ah)
 refine Der.tl (fun w5 hk5 _ _=>?_)
 have hs5:=hs4.kp0 hk5
 refine SG.call rfl rfl rfl (vs:=[.pointer (some ⟨bk,0,none⟩),dv x.t.frm,dv mk,.int .i64 x.t.fee]) (Evs.of rfl) ((iG hs5.book (hb4.Ah ht) x.t.frm mk x.t.fee).mono (fun e w6 hh=>?_))
 obtain⟨he,hB6',hk6⟩:=hh
 have eu:mvE (usM m x.t.frm x.t.non) x.t.frm x.t.fee=gJ f x.t:=by rw[ep,←hb4.eq];unfold mvE mvz;rfl
 rw[eu] at he
 refine⟨_,he,?_⟩
 clear he q r0 q0 q1 q2 q3 q4 q5 r2
 have hs6:gr w6 T ps bs bk bm tb (mvM (usM m x.t.frm x.t.non) x.t.frm mk x.t.fee) t v:=hs5.AG hk6 hB6'
 have ho6:=bA (aI ho4 hk5) hk6 hO4
 have k6:Kp (bs::bm::aT v) w w6:=(k4.trans hk5.any).trans (hk6.mono (fun z hz=>by rw[List.mem_singleton] at hz;rw[hz];simp))
 have hb6:BkI tot (n+4) (mvM (usM m x.t.frm x.t.non) x.t.frm mk x.t.fee) (lN f mk x.t):=hb.pay mk x.t
 by_cases hz2:gJ f x.t=0
 rotate_left
 ·have e0:mvM (usM m x.t.frm x.t.non) x.t.frm mk x.t.fee=usM m x.t.frm x.t.non:=by unfold mvM;rw[if_neg (fun g=>hz2 (eu.symm.trans g.1))]
  have e1:dof f mk x.t=usf f x.t.frm x.t.non:=by unfold dof;rw[if_neg hz2]
  have e2:dot t f h mk x.t=t:=by unfold dot;rw[if_neg hz2]
  have e3:doa es f mk x.t=es:=by unfold doa;rw[if_neg hz2]
  rw[e0] at hs6
  repeat (first|apply gst|(apply gsv;rfl;(first|apply qmv|apply qas|apply qni)<;>first|rfl|(apply dcf;first|assumption|omega)))
  refine gct rfl ?_
  repeat (first|apply gst|(apply gsv;rfl;(first|apply qmv|apply qas)<;>rfl))
  refine aS (Or.inl rfl) Tryz.results73 (aC.tmp rfl) ?_
  exact⟨bk,bm,tb,v,_,rfl,by rw[e2];exact hs6,by rw[e1];exact hb4.mono (by omega),by rw[e3];exact ho6,k6,Or.inl rfl,fun _ hg=>Or.inl hg⟩
 have e1:dof f mk x.t=vv (lN f mk x.t) x.t:=by unfold dof;rw[if_pos hz2]
 have e2:dot t f h mk x.t=sJ t (lN f mk x.t) h x.t:=by unfold dot;rw[if_pos hz2]
 have e3:doa es f mk x.t=es++[pE (lN f mk x.t) x.t]:=by unfold doa;rw[if_pos hz2]
 have hx6:x.In n0 w6:=(((hx.kp0 k3).kpO hk4 (hs3.book.map.CX hn0)).kp0 hk5).kpO hk6 (hs5.book.map.CX hn0)
 have hB7:=(hB7.kp0 hk5).kp hk6 (nm1 (by have:=hk1.size;omega))
 have q:=(aJ hB7).1
 obtain⟨-,-,r2⟩:=dT hs6.blk
 rw[hz2]
 repeat (first|apply gst|(apply gsv;rfl;(first|apply qmv|apply qas|apply qni)<;>first|rfl|(apply dct;first|assumption|omega)))
 refine gcf rfl ?_
 repeat apply gst
 have s6:=k6.size
 have hSl:∀z∈bs::bm::aT v,z<w6.heap.size:=fun z hz=>by
  rcases List.mem_cons.1 hz with rfl|hz
  ·exact hs6.blk.lt
  rcases List.mem_cons.1 hz with rfl|hz
  ·exact hs6.book.map.lt
  ·exact bR ho6 z (ay hz)
 have nb7:b7∉bs::bm::aT v:=fun hm=>by
  rcases List.mem_cons.1 hm with e|hm
  ·have:=hs.blk.lt;have:=hk1.size;omega
  rcases List.mem_cons.1 hm with e|hm
  ·have:=hk1.size;omega
  ·have:=bR ho b7 (ay hm);have:=hk1.size;omega
 refine CG.Dd mixed 11 [0,1,2,3,4,5,6,7,8,9,10] [8,9,10] (bs::bm::aT v) (fun w=>Row w bs 2 [v]) (fun w=>(gr w T ps bs bk bm tb (mvM (usM m x.t.frm x.t.non) x.t.frm mk x.t.fee) t v∧x.In n0 w)∧w.ownsRow base 36 1 v es.length (flt ziL es)) (by kernel_rfl) r2 (fun _ _ hk h=>h.kp0 hk) ⟨⟨hs6,hx6⟩,ho6⟩ (fun _ _ hk h=>⟨⟨h.1.1.kp0 hk,h.1.2.kp0 hk⟩,aI h.2 hk⟩) ?_
 clear r2
 iterate 4 (refine Der.val rfl rfl rfl (by first|((first|apply qmv|apply qfa|apply qnc)<;>(exact rfl))|fail) ?_)
 refine Der.val rfl rfl rfl (qlF rfl (fun _ hF=>hF)) ?_
 iterate 2 (refine Der.val rfl rfl rfl (by first|(apply qmv<;>(exact rfl))|fail) ?_)
 refine Der.val rfl rfl rfl (qla rfl q nb7 (aj _)) ?_
 refine Der.Cv (vs:=[.pointer (some ⟨bs,0,none⟩),.int .i64 h,txv x]) (X:=Nat×Nat×Nat×Bk) (fun _=> .int .i64 (pE (lN f mk x.t) x.t)) (fun q _=>BkI tot (n+6) q.2.2.2 (vv (lN f mk x.t) x.t)∧(q.2.1=bm∨w.heap.size≤q.2.1)) (fun q W=>gr W T ps bs q.1 q.2.1 q.2.2.1 q.2.2.2 (sJ t (lN f mk x.t) h x.t) v∧W.ownsRow base 36 1 v es.length (flt ziL es)) rfl rfl rfl rfl (Evs.of rfl) (fun _ _ _ _ h=>h) (fun _ _ _ hk h=>⟨h.1.kp0 hk,aI h.2 hk⟩) (fun W hk hF hR=>?_) (fun q=>?_)
 ·refine(yf hR.1.1 hb6 ht hR.1.2 h htn).mono (fun e W' hh=>?_)
  obtain⟨bk',bm',tb',m',he,hs',hb',hk',hc⟩:=hh
  have hbW:=hR.1.1.blk
  exact⟨(bk',bm',tb',m'),he,⟨(dT hs'.blk).2.2,hb',hc.elim Or.inl (fun g=>Or.inr (Nat.le_trans s6 (Nat.le_trans hk.size g)))⟩,⟨hs',bA hR.2 hk' (fun g hg=>nm2 (fun e=>by subst e;exact(bL hR.2 hT hbW g hg) (List.mem_singleton.2 rfl)) (fun e=>by subst e;exact iw hR.2 hR.1.1.book.map g hg (List.mem_singleton.2 rfl)))⟩,hk'.mono (fun z hz=>by rcases List.mem_cons.1 hz with rfl|hz;simp;rw[List.mem_singleton] at hz;rw[hz];simp)⟩
 obtain⟨bk',bm',tb',m'⟩:=q
 refine Der.Cx (cs:= #[.int .i64 (pE (lN f mk x.t) x.t)]) (E:=36) rfl rfl rfl rfl rfl (fun W=>KW _ W) (fun W W' hk h=>⟨h.1.kp0 hk,h.2⟩) (fun _ _ hk h=>⟨h.1.kp0 hk,aI h.2 hk⟩) (fun bn=>?_)
 apply Der.yh (P:=Tryz.prog) (t:=114) (base:=base) (e:=36) (i:=Tryz.t36) (f:=ty.i36) (v:=v) (nn:=es.length) (xs:=flt ziL es) (b:=bn) (off:=0) (m:=1) (c:=1) (news:=[.int .i64 (pE (lN f mk x.t) x.t)])
 iterate 4 exact rfl
 iterate 2 exact ag rfl
 iterate 3 exact rfl
 ·exact fun W hk hF=>Row.all hF.2.2 rfl
 ·exact rfl
 ·exact rfl
 ·simp only[maxLen];omega
 ·show(es.length+1)*8≤_;omega
 ·omega
 ·exact fun _ h=>by simp[h]
 ·exact fun W W' hoW hk hR hF=>⟨⟨(dT (hR.kpO hoW hT hk).blk).2.2,hF.1.2⟩,hF.2.1,hF.2.2.kp hk (fun hm=>by have:=bR ho6 _ (ay hm);omega)⟩
 ·exact fun W W' hk h=>h.kp0 hk
 ·exact fun W W' hoW hk hR=>hR.kpO hoW hT hk
 intro v7
 refine Der.tl (fun w7 hk7 hF hR=>?_)
 obtain⟨⟨⟨-,hb7',hc7⟩,hbn,hBn⟩,hv7⟩:=hF
 obtain⟨hs7,ho7⟩:=hR
 have eel:(es++[pE (lN f mk x.t) x.t]).length=es.length+1:=by rw[List.length_append];rfl
 have ho7:w7.ownsRow base 36 1 v7 (es++[pE (lN f mk x.t) x.t]).length (flt ziL (es++[pE (lN f mk x.t) x.t])):=by
  rw[eel,bU,eR]
  exact ho7
 obtain⟨a7,c7,rfl⟩:=fM ho7
 repeat (apply gsv;rfl;(first|apply qfa|apply qnc)<;>rfl)
 refine SG.bG [.pointer (some ⟨bk',0,none⟩),.iface 74 (.pointer (some ⟨tb',0,none⟩))] [v] ps rfl rfl (ag rfl) (ag rfl) hs7.blk rfl rfl rfl rfl rfl (fun w8 hk8 hB8=>?_)
 have hs8:=hs7.kpb _ hk8 hB8 hT1 hT2
 repeat (first|apply gst|(apply gsv;rfl;apply qas<;>rfl))
 refine aS (Or.inl rfl) Tryz.results73 (aC.tmp rfl) ?_
 refine⟨bk',bm',tb',_,m',by rw[hz2],by rw[e2];exact hs8,by rw[e1];exact hb7',by rw[e3];exact bA ho7 hk8 (bL ho7 hT hs7.blk),(k6.trans hk7).trans (hk8.mono (fun z hz=>by rw[List.mem_singleton] at hz;rw[hz];simp)),hc7,fun g hg=>?_⟩
 rcases hv7 g hg with e|e
 ·exact Or.inl e
 ·exact Or.inr (by omega)
end
section
structure Bd where
 fork:Int
 leave:Int
 sleep:Int
def bdL(b:Bd):List Value:=[.int .i64 b.fork,.int .i64 b.leave,.int .i64 b.sleep]
structure Nm where
 bk:Nat
 bm:Nat
 tb:Nat
 f:Fb
 t:Tl
 ae:Option Addr
 ce:Nat
 es:List Int
 x:Bm
 an:Option Addr
 cn:Nat
def Nm.nms(q:Nm):List Dg:=q.x.xs.map (fun x=>aN x.t)
def ndc(q:Nm):List Value:=bhp q.bk q.tb (.slice q.ae q.es.length q.ce) (bkc q.x++[.slice q.an q.x.xs.length q.cn])
def ndN(q:Nm):Nat:=1000+400*q.x.ht.toNat
structure sG(w:World)(n:Nat)(A:List Nat)(tot:Int)(b:Nat)(q:Nm):Prop where
 blk:Blk w b (.cells (ndc q).toArray 118)
 book:∃m,bB w q.bk q.bm m∧BkI tot (ndN q) m q.f
 nA:q.bm∉A
 nb:n≤q.bm
 app:lB w q.tb q.t
 ans:Sl ziL 1 w q.ae q.es
 anT:Tg 36 n w q.ae q.es
 x:q.x.In n w
 nam:Sl dc 8 w q.an q.nms
 naT:Tg 47 n w q.an q.nms
 el:q.es.length=q.x.xs.length
def IM:List TypeId:=[118,136,76,36,47,5]
def CT:List TypeId:=[200,214,216]
theorem Tm.In.cnd{n:Nat}{Ts:List TypeId}{A S:List Nat}{w w':World}{x:Tm}(h:x.In n w)(hk:Kp S w w')(hS:Cnd n Ts A w S)(hT:5∉Ts):x.In n w':=h.kpO hk (hS.not hT)
theorem Bm.In.pT{n:Nat}{Ts:List TypeId}{A S:List Nat}{w w':World}{x:Bm}(h:x.In n w)(hk:Kp S w w')(hS:Cnd n Ts A w S)(hT:5∉Ts)(hT2:52∉Ts):x.In n w':=
 ⟨⟨(h.tx.sl.kpT h.tx.tg hk (hS.not hT2)).1,(h.tx.sl.kpT h.tx.tg hk (hS.not hT2)).2,fun y hy=>(h.tx.ins y hy).cnd hk hS hT⟩,h.len⟩
theorem sG.kp{w w':World}{n:Nat}{Ts:List TypeId}{A A' S:List Nat}{tot:Int}{b:Nat}{q:Nm}(h:sG w n A tot b q)(hk:Kp S w w')(hS:Cnd n Ts A' w S)(hA:∀z∈A',z∈A)(hT:∀T∈IM,T∉Ts)(hx:q.x.In n w'):sG w' n A tot b q:=by
 obtain⟨m,hb,hi⟩:=h.book
 have t:∀{T:TypeId},T∈IM→NoT T n w S:=fun hm=>hS.not (hT _ hm)
 exact⟨hS.blk hk h.blk (hT _ (by decide)),⟨m,⟨hS.blk hk hb.blk (hT _ (by decide)),hS.zU hk hb.map (fun g=>h.nA (hA _ g))⟩,hi⟩,h.nA,h.nb,hS.blk hk h.app (hT _ (by decide)),(h.ans.kpT h.anT hk (t (by decide))).1,(h.ans.kpT h.anT hk (t (by decide))).2,hx,(h.nam.kpT h.naT hk (t (by decide))).1,(h.nam.kpT h.naT hk (t (by decide))).2,h.el⟩
theorem sG.kp0{w w':World}{n:Nat}{A:List Nat}{tot:Int}{b:Nat}{q:Nm}(h:sG w n A tot b q)(hk:Kp [] w w'):sG w' n A tot b q:=h.kp (Ts:=[]) (A':=[]) hk Cnd.nil (fun _ h=>by cases h) (fun _ _ h=>by cases h) (h.x.kp0 hk)
theorem dI{w:World}{b:Nat}{q:Nm}{T:TypeId}(h:Blk w b (.cells (ndc q).toArray T)):Row w b 0 (bhc q.bk q.tb (.slice q.ae q.es.length q.ce))∧Row w b 2 [.slice q.ae q.es.length q.ce]∧Row w b 3 (bkc q.x)∧Row w b 11 [.int .i64 q.x.ht]∧Row w b 20 [.slice q.x.a q.x.xs.length q.x.c]∧Row w b 21 [.slice q.an q.x.xs.length q.cn]∧Row w b 0 [.pointer (some ⟨q.bk,0,none⟩)]∧Row w b 1 [.iface 74 (.pointer (some ⟨q.tb,0,none⟩))]:=by
 have e:ndc q=bhc q.bk q.tb (.slice q.ae q.es.length q.ce)++(bkc q.x++[.slice q.an q.x.xs.length q.cn]):=rfl
 have h1:=Row.of h [] (bkc q.x++[.slice q.an q.x.xs.length q.cn]) (by rw[e,List.nil_append]) rfl
 have h3:=Row.of h (bhc q.bk q.tb (.slice q.ae q.es.length q.ce)) [.slice q.an q.x.xs.length q.cn] (l:=bkc q.x) (by rw[e]) rfl
 have h6:=Row.of h (bhc q.bk q.tb (.slice q.ae q.es.length q.ce)++bkc q.x) [] (l:=[.slice q.an q.x.xs.length q.cn]) (by rw[e,List.append_assoc,List.append_nil]) (by rw[List.length_append,aB])
 obtain⟨-,h4,-,h5⟩:=j7 h3
 obtain⟨g0,g1,g2⟩:=dT h
 exact⟨h1,g2,h3,h4,h5,h6,g0,g1⟩
structure Cm where
 cb:Nat
 tb:Nat
 tm:Nat
 pb:Nat
 nm:Nat
 vb:Nat
 pv:Value
 bd:Bd
 first:Dg
 tr:Tr
 ps:List Em
 ns:List (Dg×Nat×Nm)
def chc(c:Cm):List Value:=bdL c.bd++(.iface 40 (.pointer (some ⟨c.vb,0,none⟩))::(dc c.first++[.pointer (some ⟨c.tb,0,none⟩),.pointer (some ⟨c.pb,0,none⟩),.map (some c.nm)]))
abbrev ndP(q:Nat×Nm):Value:= .pointer (some ⟨q.1,0,none⟩)
structure dA(w:World)(n:Nat)(A:List Nat)(tot:Int)(c:Cm):Prop where
 blk:Blk w c.cb (.cells (chc c).toArray 127)
 tree:bO w c.tb c.tm c.tr
 pool:Pl w n c.pb c.pv 256 c.ps
 map:az w c.nm (dv (n:=8)) ndP c.ns
 nd:∀p∈c.ns,sG w n A tot p.2.1 p.2.2
 tA:c.tm∈A
 nA:c.nm∈A
 ne:c.tm≠c.nm
 tn:n≤c.tm
 nn:n≤c.nm
 bn:n≤c.tb
 w0:n≤w.heap.size
theorem dA.kp0{w w':World}{n:Nat}{A:List Nat}{tot:Int}{c:Cm}(h:dA w n A tot c)(hk:Kp [] w w'):dA w' n A tot c:=
 ⟨h.blk.kp0 hk,h.tree.kp0 hk,h.pool.kp0 hk,h.map.kp0 hk,fun p hp=>(h.nd p hp).kp0 hk,h.tA,h.nA,h.ne,h.tn,h.nn,h.bn,Nat.le_trans h.w0 hk.size⟩
theorem cj{w:World}{n:Nat}{A:List Nat}{tot:Int}{c:Cm}(h:dA w n A tot c):Row w c.cb 0 (bdL c.bd)∧Row w c.cb 0 [.int .i64 c.bd.fork]∧Row w c.cb 3 [.iface 40 (.pointer (some ⟨c.vb,0,none⟩))]∧Row w c.cb 4 (dc c.first)∧Row w c.cb 12 [.pointer (some ⟨c.tb,0,none⟩)]∧Row w c.cb 13 [.pointer (some ⟨c.pb,0,none⟩)]∧Row w c.cb 14 [.map (some c.nm)]:=by
 have h:=h.blk
 have l8:(dc c.first).length=8:=ah _
 refine⟨Row.of h [] (.iface 40 (.pointer (some ⟨c.vb,0,none⟩))::(dc c.first++[.pointer (some ⟨c.tb,0,none⟩),.pointer (some ⟨c.pb,0,none⟩),.map (some c.nm)])) rfl rfl,Row.of h [] (.int .i64 c.bd.leave:: .int .i64 c.bd.sleep:: .iface 40 (.pointer (some ⟨c.vb,0,none⟩))::(dc c.first++[.pointer (some ⟨c.tb,0,none⟩),.pointer (some ⟨c.pb,0,none⟩),.map (some c.nm)])) rfl rfl,Row.of h (bdL c.bd) (dc c.first++[.pointer (some ⟨c.tb,0,none⟩),.pointer (some ⟨c.pb,0,none⟩),.map (some c.nm)]) rfl rfl,Row.of h (bdL c.bd++[.iface 40 (.pointer (some ⟨c.vb,0,none⟩))]) [.pointer (some ⟨c.tb,0,none⟩),.pointer (some ⟨c.pb,0,none⟩),.map (some c.nm)] rfl rfl,?_,?_,?_⟩
 ·exact Row.of h (bdL c.bd++(.iface 40 (.pointer (some ⟨c.vb,0,none⟩))::dc c.first)) [.pointer (some ⟨c.pb,0,none⟩),.map (some c.nm)] (by simp[chc]) (by simp[bdL,l8])
 ·exact Row.of h (bdL c.bd++(.iface 40 (.pointer (some ⟨c.vb,0,none⟩))::(dc c.first++[.pointer (some ⟨c.tb,0,none⟩)]))) [.map (some c.nm)] (by simp[chc]) (by simp[bdL,l8])
 ·exact Row.of h (bdL c.bd++(.iface 40 (.pointer (some ⟨c.vb,0,none⟩))::(dc c.first++[.pointer (some ⟨c.tb,0,none⟩),.pointer (some ⟨c.pb,0,none⟩)]))) [] (by simp[chc]) (by simp[bdL,l8])
end
section
def bdv(b:Bd):Value:= .agg (bdL b).toArray
def bdA(b:Bd)(j:Nat):Int:=[b.fork,b.leave,b.sleep].getD j 0
def bdB(z:Int):Prop:=z<0∨1024<z
instance(z:Int):Decidable (bdB z):=by unfold bdB;infer_instance
def bdz(b:Bd):Int:=if bdB b.fork∨bdB b.leave∨bdB b.sleep then 2 else 0
theorem CF(b:Bd){j:Nat}(h:j<3):(bdL b)[j]?=some (.int .i64 (bdA b j)):=by
 match j,h with
 |0,_=>rfl
 |1,_=>rfl
 |2,_=>rfl
theorem AL{b:Bd}{j:Nat}(h:j<3)(hb:bdB (bdA b j)):bdz b=2:=by
 unfold bdz
 match j,h with
 |0,_=>exact if_pos (Or.inl hb)
 |1,_=>exact if_pos (Or.inr (Or.inl hb))
 |2,_=>exact if_pos (Or.inr (Or.inr hb))
theorem CC{b:Bd}(h:∀j,j<3→¬bdB (bdA b j)):bdz b=0:=if_neg (fun g=>by
 rcases g with g|g|g
 ·exact h 0 (by omega) g
 ·exact h 1 (by omega) g
 ·exact h 2 (by omega) g)
theorem Lg(b:Bd)(w:World):(Instr.build 165 #[(0,.int .i64 b.fork),(1,.int .i64 b.leave),(2,.int .i64 b.sleep)]).run Tryz.prog w= .ok (.agg (bdL b).toArray) w:=by kernel_rfl
attribute [local irreducible] CG NG SG aO Der Row Blk az aH
theorem sy(b:Bd)(w:World):Ret Tryz.prog 35 #[bdv b] w (.int .i64 (bdz b)):=by
 refine aQ Tryz.func35 rfl Tryz.ntmps35 rfl ?_
 repeat apply gst
 refine SG.box rfl rfl rfl (ag rfl) (fun b1 w1 hk1 hb1 hB1=>?_)
 have hB1:Blk w1 b1 (.cells (bdL b).toArray 31):=hB1
 have r0:Row w1 b1 0 [.int .i64 b.fork]:=Row.of hB1 [] [.int .i64 b.leave,.int .i64 b.sleep] rfl rfl
 have r1:Row w1 b1 1 [.int .i64 b.leave]:=Row.of hB1 [.int .i64 b.fork] [.int .i64 b.sleep] rfl rfl
 have r2:Row w1 b1 2 [.int .i64 b.sleep]:=Row.of hB1 [.int .i64 b.fork,.int .i64 b.leave] [] rfl rfl
 repeat (first|apply gst|(apply gsv;rfl;(first|apply qas|apply qlc|apply qfa)<;>first|rfl|assumption|exact List.not_mem_nil))
 refine SG.val rfl rfl rfl rfl (au rfl (Lg b)) ?_
 repeat (first|apply gst|(apply gsv;rfl;apply qmv<;>rfl))
 refine CG.loop (X:=Nat) (fun q=>[(11,.agg (bdL b).toArray),(12,.int .i64 (q:Int))])
  (fun q w'=>q≤3∧w'=w1∧∀j,j<q→¬bdB (bdA b j)) (fun q=>3-q) 0 ⟨by omega,rfl,fun j h=>by omega⟩ (aZ.of rfl) ?_
 rintro i w3 ⟨hi,rfl,hok⟩
 refine CG.to [(11,.agg (bdL b).toArray),(12,.int .i64 (i:Int))] (aZ.of rfl) ?_
 clear r0 r1 r2
 by_cases hlt:i<3
 ·have g1:(i:Int)<3:=by omega
  have hat:=CF b hlt
  repeat (first|apply gst|(apply gsv;rfl;apply qls<;>first|rfl|(apply dct;first|assumption|omega)))
  refine gct rfl ?_
  by_cases hz:bdB (bdA b i)
  ·have hbad:=AL hlt hz
   unfold bdB at hz
   by_cases h1:bdA b i<0
   ·repeat (first|apply gst|(apply gsv;rfl;(first|apply qid|apply qmv|apply qas|apply qpk|apply qls)<;>first|rfl|(apply Ar.mk;omega)|assumption|(apply dct;first|assumption|omega))|refine SG.skip rfl rfl ?_)
    refine gct rfl ?_
    repeat (first|apply gst|(apply gsv;rfl;apply qas<;>rfl))
    refine aS (Or.inl rfl) Tryz.results35 (aC.tmp rfl) ?_
    exact⟨by rw[hbad],hk1⟩
   ·have h2:1024<bdA b i:=by omega
    repeat (first|apply gst|(apply gsv;rfl;(first|apply qid|apply qmv|apply qas|apply qpk|apply qls|apply qgt)<;>first|rfl|(apply Ar.mk;omega)|assumption|(apply dct;first|assumption|omega)|(apply dcf;first|assumption|omega)))
    refine gct rfl ?_
    repeat (first|apply gst|(apply gsv;rfl;apply qas<;>rfl))
    refine aS (Or.inl rfl) Tryz.results35 (aC.tmp rfl) ?_
    exact⟨by rw[hbad],hk1⟩
  ·have h1:¬bdA b i<0:=fun h=>hz (Or.inl h)
   have h2:¬1024<bdA b i:=fun h=>hz (Or.inr h)
   repeat (first|apply gst|(apply gsv;rfl;(first|apply qid|apply qmv|apply qas|apply qpk|apply qls|apply qgt)<;>first|rfl|(apply Ar.mk;omega)|assumption|(apply dcf;first|assumption|omega)))
   refine gcf rfl ?_
   repeat (first|apply gst|(apply gsv;rfl;(first|apply qmv|apply qad)<;>first|rfl|(apply Ar.mk;omega)))
   refine NG.round (i+1) (aZ.of rfl) ⟨by omega,rfl,fun j hj=>?_⟩ (by omega)
   by_cases e:j=i
   ·rw[e];exact hz
   ·exact hok j (by omega)
 ·have g1:¬(i:Int)<3:=by omega
  repeat (first|apply gst|(apply gsv;rfl;apply qls<;>first|rfl|(apply dcf;first|assumption|omega)))
  refine gcf rfl ?_
  repeat (first|apply gst|(apply gsv;rfl;apply qas<;>rfl))
  refine aS (Or.inl rfl) Tryz.results35 (aC.tmp rfl) ?_
  exact⟨by rw[CC (fun j hj=>hok j (by omega))],hk1⟩
theorem lG{w:World}{n:Nat}{A:List Nat}{tot:Int}{c:Cm}(h:dA w n A tot c){q:Nat×Nm}(hq:ar c.ns c.tr.tip=some q):Ret Tryz.prog 53 #[.pointer (some ⟨c.cb,0,none⟩)] w (ndP q):=by
 refine aQ Tryz.func53 rfl Tryz.ntmps53 rfl ?_
 obtain⟨-,-,-,-,r3,-,r5⟩:=cj h
 have hM:=h.map
 repeat (first|apply gst|(apply gsv;rfl;apply qas<;>rfl))
 refine CG.tail mixed 9 [0,1,2,3,4,5,6,7,8] (by kernel_rfl) ?_
 repeat (apply gdv;rfl;rfl;(first|apply qmv|apply qlc|apply qfa|apply qnc)<;>first|rfl|assumption|exact List.not_mem_nil)
 refine Der.call rfl rfl rfl (vs:=[.pointer (some ⟨c.tb,0,none⟩)]) (Evs.of rfl) (fun W hk _=>gR (h.tree.kp0 hk)) ?_
 refine Der.tl (fun w1 hk1 _ _=>?_)
 have hM:=hM.kp0 hk1
 repeat (first|apply gst|(apply gsv;rfl;(first|apply qas|apply qlv)<;>first|rfl|assumption|exact List.not_mem_nil|exact lk1 (by assumption)|fail))
 refine aS (Or.inl rfl) Tryz.results53 (aC.tmp rfl) ?_
 exact⟨rfl,hk1⟩
end
section
theorem yj{κ ν:Type}[DecidableEq κ]{m:List (κ×ν)}{k:κ}{v:ν}(h:ar m k=some v):(k,v)∈m:=by
 induction m with
 |nil=>simp[ar] at h
 |cons p m ih=>
  obtain⟨a,y⟩:=p
  unfold ar at h
  by_cases e:a=k
  ·rw[if_pos e] at h
   simp only[Option.some.injEq] at h
   rw[e,h]
   exact List.mem_cons_self
  ·rw[if_neg e] at h
   exact List.mem_cons_of_mem _ (ih h)
theorem dA.ndA{w:World}{n:Nat}{A:List Nat}{tot:Int}{c:Cm}(h:dA w n A tot c){d:Dg}{q:Nat×Nm}(hq:ar c.ns d=some q):sG w n A tot q.1 q.2:=h.nd _ (yj hq)
def ixZ(l:List Dg)(d:Dg):Int:=if l.findIdx (fun x=>decide (x=d))<l.length then(l.findIdx (fun x=>decide (x=d)):Int) else-1
theorem xH{l:List Dg}{d:Dg}(h:∀j (hj:j<l.length),l[j]≠d):ixZ l d= -1:=if_neg (fun g=>by
 have:=List.findIdx_getElem (w:=g)
 simp only[decide_eq_true_eq] at this
 exact h _ g this)
theorem B8{l:List Dg}{d:Dg}{i:Nat}(hi:i<l.length)(he:l[i]=d)(h:∀j (hj:j<i),l[j]≠d):ixZ l d=(i:Int):=by
 have:l.findIdx (fun x=>decide (x=d))=i:=(List.findIdx_eq hi).2 ⟨by simp[he],fun j hj=>by simp[h j hj]⟩
 unfold ixZ
 rw[this,if_pos hi]
attribute [local irreducible] CG NG SG aO Der Row Blk az aH aN
theorem uS{w:World}{n:Nat}{A:List Nat}{tot:Int}{c:Cm}(h:dA w n A tot c){q:Nat×Nm}(hq:ar c.ns c.tr.tip=some q):Calls Tryz.prog 30 #[.pointer (some ⟨c.cb,0,none⟩)] w (fun e w'=>∃y:Bm,y.b=q.2.x.b∧e= .returned (bkv y)∧y.In 0 w'∧Kp [] w w'):=by
 refine aQ Tryz.func30 rfl Tryz.ntmps30 rfl ?_
 repeat apply gst
 refine SG.alloc rfl rfl rfl (fun b2 w1 hk1 hb2 hB2=>?_)
 repeat (first|apply gst|(apply gsv;rfl;(first|apply qep|apply qmv)<;>rfl))
 refine gcf rfl ?_
 repeat (first|apply gst|(apply gsv;rfl;apply qmv<;>rfl))
 refine SG.ret rfl rfl rfl (vs:=[.pointer (some ⟨c.cb,0,none⟩)]) (Evs.of rfl) (lG (h.kp0 hk1) hq) (fun w2 hk2=>?_)
 have k2:=hk1.trans hk2
 obtain⟨-,-,r,-⟩:=dI ((h.ndA hq).kp0 k2).blk
 repeat (apply gsv;rfl;(first|apply qla|apply qfa|apply qnc)<;>first|rfl|assumption|exact List.not_mem_nil|apply aB)
 refine SG.call rfl rfl rfl (vs:=[bkv q.2.x]) (Evs.of rfl) ((ic ((h.ndA hq).kp0 k2).x).mono (fun e w3 hh=>?_))
 obtain⟨y,hy,rfl,hY,hk3,-⟩:=hh
 refine⟨_,rfl,?_⟩
 refine SG.aG (l:=bkc y) rfl rfl (ag rfl) (ag rfl) ((hB2.kp0 hk2).kp0 hk3) (aB _) rfl (dh _) (fun w4 hk4 hB4=>?_)
 have hr:Row w4 b2 0 (bkc y):=Row.all hB4 rfl
 have hO:Oth 0 w3 [b2]:=vK ((hB2.kp0 hk2).kp0 hk3) (by decide)
 repeat apply gst
 refine aS (Or.inl rfl) Tryz.results30 (aC.agg rfl rfl hr (aB _)) ?_
 exact⟨y,hy,rfl,⟨hY.tx.kp hk4 hO (NoT.cons (Nat.zero_le _) (NoT.cells ((hB2.kp0 hk2).kp0 hk3) (by decide)) NoT.nil),hY.len⟩,(k2.trans hk3).ai hk4 (bf hb2)⟩
theorem j3{w:World}{n:Nat}{A:List Nat}{tot:Int}{c:Cm}(h:dA w n A tot c){q:Nat×Nm}(hq:ar c.ns c.tr.tip=some q):Calls Tryz.prog 15 #[.pointer (some ⟨c.cb,0,none⟩)] w (fun e w'=>∃bt bm m,e= .returned (.pointer (some ⟨bt,0,none⟩))∧bB w' bt bm m∧BkI tot (ndN q.2) m q.2.f∧w.heap.size≤bt∧w.heap.size≤bm∧Kp [] w w'):=by
 refine aQ Tryz.func15 rfl Tryz.ntmps15 rfl ?_
 repeat (first|apply gst|(apply gsv;rfl;(first|apply qep|apply qmv|apply qas)<;>rfl))
 refine gcf rfl ?_
 repeat (first|apply gst|(apply gsv;rfl;apply qmv<;>rfl))
 refine SG.ret rfl rfl rfl (vs:=[.pointer (some ⟨c.cb,0,none⟩)]) (Evs.of rfl) (lG h hq) (fun w1 hk1=>?_)
 have hN:=(h.ndA hq).kp0 hk1
 obtain⟨-,-,-,-,-,-,r,-⟩:=dI hN.blk
 obtain⟨m,hm,hi⟩:=hN.book
 repeat (apply gsv;rfl;(first|apply qlc|apply qfa|apply qnc)<;>first|rfl|assumption|exact List.not_mem_nil)
 refine SG.call rfl rfl rfl (vs:=[.pointer (some ⟨q.2.bk,0,none⟩)]) (Evs.of rfl) ((fw hm).mono (fun e w3 hh=>?_))
 obtain⟨bt',bm',m',rfl,hB,hp,g1,g2,hk3⟩:=hh
 refine⟨_,rfl,?_⟩
 have s1:=hk1.size
 repeat (first|apply gst|(apply gsv;rfl;apply qas<;>rfl))
 refine aS (Or.inl rfl) Tryz.results15 (aC.tmp rfl) ?_
 exact⟨bt',bm',m',rfl,hB,hi.perm hp,by omega,by omega,hk1.trans hk3⟩
theorem rN{w:World}{a:Option Addr}{cc:Nat}{l:List Dg}(hS:Sl dc 8 w a l)(hl:l.length≤1000000)(d:Dg):Ret Tryz.prog 58 #[.slice a l.length cc,dv d] w (.int .i64 (ixZ l d)):=by
 refine bh Tryz.func58 rfl Tryz.ntmps58 rfl ?_
 repeat apply gst
 refine SG.box rfl rfl rfl (ag rfl) (fun b3 w1 hk1 hb3 hB3=>?_)
 have hB3:Blk w1 b3 (.cells (dc d).toArray 47):=hB3
 have r3:Row w1 b3 0 (dc d):=Row.all hB3 rfl
 repeat (first|apply gst|(apply gsv;rfl;(first|apply qmv|apply qas|apply qln)<;>rfl))
 refine CG.loop (X:=Nat) (fun q=>[(0,.slice a l.length cc),(3,.pointer (some ⟨b3,0,none⟩)),(7,.int .i64 (l.length:Int)),(8,.int .i64 (q:Int))])
  (fun q w'=>q≤l.length∧Kp [] w1 w'∧∀j (hj:j<l.length),j<q→l[j]≠d) (fun q=>l.length-q) 0 ⟨Nat.zero_le _,Kp.refl _ _,fun j _ h=>by omega⟩ (aZ.of rfl) ?_
 rintro i w3 ⟨hi,hk3,hok⟩
 refine CG.to [(0,.slice a l.length cc),(3,.pointer (some ⟨b3,0,none⟩)),(7,.int .i64 (l.length:Int)),(8,.int .i64 (i:Int))] (aZ.of rfl) ?_
 have r3:=r3.kp0 hk3
 have k3:=hk1.trans hk3
 by_cases hlt:i<l.length
 ·have g1:(i:Int)<(l.length:Int):=by omega
  obtain⟨ba,off,rfl,hrow⟩:=(hS.kp0 k3).at hlt
  repeat (first|apply gst|(apply gsv;rfl;apply qls<;>first|rfl|(apply dct;first|assumption|omega)))
  refine gct rfl ?_
  by_cases he:l[i]=d
  ·have he':d=l[i]:=he.symm
   repeat (first|apply gst|(apply gsv;rfl;(first|apply qmv|apply qas)<;>rfl))
   refine CG.tail mixed 5 [0,1,2,3,4] (by kernel_rfl) ?_
   repeat (apply gdv;rfl;rfl;(first|apply qmv|apply qla|apply qix)<;>first|rfl|(apply Ar.mk;omega)|assumption|exact List.not_mem_nil|apply ah)
   refine Der.tl (fun w4 hk4 _ _=>?_)
   repeat (first|apply gst|(apply gsv;rfl;apply qed<;>first|rfl|(apply dct;first|assumption|omega)))
   refine gct rfl ?_
   repeat (first|apply gst|(apply gsv;rfl;(first|apply qmv|apply qas)<;>rfl))
   refine aS (Or.inl rfl) Tryz.results58 (aC.tmp rfl) ?_
   exact⟨by rw[B8 hlt he (fun j hj=>hok j (by omega) hj)],k3.trans hk4⟩
  ·have he':¬d=l[i]:=fun e=>he e.symm
   repeat (first|apply gst|(apply gsv;rfl;(first|apply qmv|apply qas)<;>rfl))
   refine CG.tail mixed 5 [0,1,2,3,4] (by kernel_rfl) ?_
   repeat (apply gdv;rfl;rfl;(first|apply qmv|apply qla|apply qix)<;>first|rfl|(apply Ar.mk;omega)|assumption|exact List.not_mem_nil|apply ah)
   refine Der.tl (fun w4 hk4 _ _=>?_)
   repeat (first|apply gst|(apply gsv;rfl;apply qed<;>first|rfl|(apply dcf;first|assumption|omega)))
   refine gcf rfl ?_
   repeat (first|apply gst|(apply gsv;rfl;(first|apply qmv|apply qad)<;>first|rfl|(apply Ar.mk;omega)))
   refine NG.round (i+1) (aZ.of rfl) ⟨hlt,hk3.trans hk4,fun j hj hlt'=>?_⟩ (by omega)
   by_cases e:j=i
   ·subst e;exact he
   ·exact hok j hj (by omega)
 ·have g1:¬(i:Int)<(l.length:Int):=by omega
  repeat (first|apply gst|(apply gsv;rfl;apply qls<;>first|rfl|(apply dcf;first|assumption|omega)))
  refine gcf rfl ?_
  repeat (first|apply gst|(apply gsv;rfl;apply qas<;>rfl))
  refine aS (Or.inl rfl) Tryz.results58 (aC.tmp rfl) ?_
  exact⟨by rw[xH (fun j hj=>hok j hj (by omega))],k3⟩
end
section
def jd(ns:List (Dg×Nat×Nm))(d:Dg):List Dg→Option (Int×Int)
 |[]=>none
 |i::l=>match ar ns i with
  |some q=>if 0≤ixZ q.2.nms d then some (q.2.x.ht,q.2.es.getD (ixZ q.2.nms d).toNat 0) else jd ns d l
  |none=>jd ns d l
def dnc(p:Int×Int):List Value:=[.int .i64 p.1,.int .i64 p.2]
theorem bdn(a b:Int)(w:World):(Instr.build 54 #[(0,.int .i64 a),(1,.int .i64 b)]).run Tryz.prog w= .ok (.agg (dnc (a,b)).toArray) w:=by kernel_rfl
theorem La(w:World):(Instr.build 54 #[]).run Tryz.prog w= .ok (.agg (dnc (0,0)).toArray) w:=by kernel_rfl
theorem B7{l:List Dg}{d:Dg}(h:0≤ixZ l d):(ixZ l d).toNat<l.length∧ixZ l d=((ixZ l d).toNat:Int):=by
 unfold ixZ at*
 split at h
 ·rename_i g
  rw[if_pos g]
  exact⟨by simpa using g,rfl⟩
 ·omega
attribute [local irreducible] CG NG SG aO Der Row Blk az aH aN ixZ
theorem pq{w:World}{n:Nat}{a:Option Addr}{c:Nat}{xs:List Tm}(hX:pH w n a xs)(hl:xs.length≤1000000):oC Tryz.prog 47 dc 8 84 #[.slice a xs.length c] w (xs.map (fun x=>aN x.t)):=by
 refine aQ Tryz.func84 rfl Tryz.ntmps84 rfl ?_
 have hS:=hX.sl
 have hI:=hX.ins
 clear hX
 repeat (first|apply gst|(apply gsv;rfl;(first|apply qmv|apply qas|apply qln)<;>rfl))
 refine CG.loop (X:=Nat×Value) (fun q=>[(3,q.2),(6,.slice a xs.length c),(7,.int .i64 (xs.length:Int)),(8,.int .i64 (q.1:Int))])
  (fun q w'=>q.1≤xs.length∧Kp [] w w'∧w'.ownsRow w.heap.size 47 8 q.2 q.1 (flt dc ((xs.map (fun x=>aN x.t)).take q.1)))
  (fun q=>xs.length-q.1) (0,.slice none 0 0) ⟨Nat.zero_le _,Kp.refl _ _,cO⟩ (aZ.of rfl) ?_
 rintro⟨i,v⟩ w3 ⟨hi,k3,ho3⟩
 simp only at hi ho3
 refine CG.to [(3,v),(6,.slice a xs.length c),(7,.int .i64 (xs.length:Int)),(8,.int .i64 (i:Int))] (aZ.of rfl) ?_
 by_cases hlt:i<xs.length
 ·have g1:(i:Int)<(xs.length:Int):=by omega
  obtain⟨ba,off,rfl,hrow⟩:=(hS.kp0 k3).at hlt
  repeat (first|apply gst|(apply gsv;rfl;apply qls<;>first|rfl|(apply dct;first|assumption|omega)))
  refine gct rfl ?_
  repeat (first|apply gst|(apply gsv;rfl;(first|apply qla|apply qix)<;>first|rfl|(apply Ar.mk;omega)|assumption|exact List.not_mem_nil|apply aj))
  refine SG.alloc rfl rfl rfl (fun b5 w5 hk5 hb5 hB5=>?_)
  refine SG.aG (l:=txc xs[i]) rfl rfl (ag rfl) (ag rfl) hB5 (aj _) rfl (bD _) (fun w6 hk6 hB6=>?_)
  have k36:=hk5.ai hk6 (bf hb5)
  obtain⟨q2,-⟩:=aJ hB6
  clear hrow
  repeat (first|apply gst|(apply gsv;rfl;(first|apply qmv|apply qla)<;>first|rfl|assumption|exact List.not_mem_nil|apply aj))
  refine SG.ret rfl rfl rfl (vs:=[txv xs[i]]) (Evs.of rfl) (fk ((hI _ (List.getElem_mem hlt)).kp0 (k3.trans k36))) (fun w6' hk6'=>?_)
  have k36:=k36.trans hk6'
  refine SG.buildSlice rfl rfl rfl rfl (C1 _) (fun b7 w7 hk7 hb7 hB7=>?_)
  have s3:=k3.size
  have s36:=k36.size
  have s7:=hk7.size
  have k37:=k36.trans hk7
  have ho7:=aI ho3 k37
  have e7:((xs.map (fun x=>aN x.t)).take i).length=i:=by rw[List.length_take,List.length_map];omega
  have ho7:=xi e7.symm ho7
  refine SG.ou (enc:=dc) (xs:=(xs.map (fun x=>aN x.t)).take i) (ys:=[aN xs[i].t]) (base:=w.heap.size) rfl rfl rfl (ag rfl) (ag rfl) rfl rfl rfl rfl ah aR ho7 (fL (enc:=dc) (sz:=8) (x:=aN xs[i].t) ah hB7) (by rw[e7];simp only[maxLen,List.length_singleton];omega) (by rw[e7];show(i+1)*8≤_;omega) (by omega) (fun v8 w8 hk8 ho8 hv8=>?_)
  rw[←take_one (fun x:Tm=>aN x.t) hlt] at ho8
  have e8:((xs.map (fun x=>aN x.t)).take (i+1)).length=i+1:=by rw[List.length_take,List.length_map];omega
  rw[e8] at ho8
  repeat (first|apply gst|(apply gsv;rfl;(first|apply qmv|apply qas|apply qad)<;>first|rfl|(apply Ar.mk;omega)))
  refine NG.round (i+1,v8) (aZ.of rfl) ⟨hlt,(k3.trans k37).ai hk8 (cP ho7 (Nat.le_refl _)),ho8⟩ (by simp only;omega)
 ·have g1:¬(i:Int)<(xs.length:Int):=by omega
  have e8:i=xs.length:=by omega
  subst e8
  rw[List.take_of_length_le (by rw[List.length_map];exact Nat.le_refl _)] at ho3
  repeat (first|apply gst|(apply gsv;rfl;apply qls<;>first|rfl|(apply dcf;first|assumption|omega)))
  refine gcf rfl ?_
  repeat (first|apply gst|(apply gsv;rfl;(first|apply qmv|apply qas)<;>rfl))
  refine aS (Or.inl rfl) Tryz.results84 (aC.tmp rfl) ?_
  exact⟨v,rfl,by rw[List.length_map];exact ho3,k3⟩
theorem qN{w:World}{n:Nat}{A:List Nat}{tot:Int}{c:Cm}(h:dA w n A tot c)(hI:dY 256 (c.ps.map Em.en)):oC Tryz.prog 47 dc 8 39 #[.pointer (some ⟨c.cb,0,none⟩)] w ((nq (c.ps.map Em.en)).map (fun e=>aN e.t)):=by
 refine aQ Tryz.func39 rfl Tryz.ntmps39 rfl ?_
 obtain⟨-,-,-,-,-,r,-⟩:=cj h
 repeat (first|apply gst|(apply gsv;rfl;(first|apply qep|apply qmv|apply qas)<;>rfl))
 refine gcf rfl ?_
 repeat (first|apply gst|(apply gsv;rfl;(first|apply qmv|apply qlc|apply qfa|apply qnc)<;>first|rfl|assumption|exact List.not_mem_nil))
 refine SG.call rfl rfl rfl (vs:=[.pointer (some ⟨c.pb,0,none⟩)]) (Evs.of rfl) ((yk h.pool hI (by omega)).mono (fun e w1 hh=>?_))
 obtain⟨v1,xs,rfl,hk1,hX,hm⟩:=hh
 obtain⟨a1,c1,rfl,hc1,hT⟩:=hX.toI (n:=w1.heap.size)
 have hlx:xs.length≤256:=by
  have e1:xs.length=(nq (c.ps.map Em.en)).length:=by have:=congrArg List.length hm;simpa using this
  have e2:=hI.len
  rw[e1,jI]
  omega
 refine⟨_,rfl,?_⟩
 refine SG.call rfl rfl rfl (vs:=[.slice a1 xs.length c1]) (Evs.of rfl) ((pq hT (by omega)).mono (fun e w2 hh=>?_))
 obtain⟨v2,rfl,ho,hk2⟩:=hh
 refine⟨_,rfl,?_⟩
 have e2:xs.map (fun x=>aN x.t)=(nq (c.ps.map Em.en)).map (fun e=>aN e.t):=by
  have:=congrArg (List.map aN) hm
  rw[List.map_map,List.map_map] at this
  exact this
 rw[e2] at ho
 clear r
 repeat (first|apply gst|(apply gsv;rfl;apply qas<;>rfl))
 refine aS (Or.inl rfl) Tryz.results39 (aC.tmp rfl) ?_
 exact⟨v2,rfl,bW ho hk1.size,hk1.trans hk2⟩
theorem rZ{w:World}{n:Nat}{A:List Nat}{tot:Int}{c:Cm}(h:dA w n A tot c)(wf:c.tr.WF)(hl:(c.tr.line c.tr.tip).length≤100000)(hq:∀d∈c.tr.line c.tr.tip,∃q,ar c.ns d=some q)(d:Dg):Ret Tryz.prog 17 #[.pointer (some ⟨c.cb,0,none⟩),dv d] w
  (match jd c.ns d (c.tr.line c.tr.tip) with|some p=> .tuple #[.agg (dnc p).toArray,.bool true]|none=> .tuple #[.agg (dnc (0,0)).toArray,.bool false]):=by
 refine bh Tryz.func17 rfl Tryz.ntmps17 rfl ?_
 repeat apply gst
 refine SG.box rfl rfl rfl (ag rfl) (fun b3 w1 hk1 hb3 hB3=>?_)
 have hB3:Blk w1 b3 (.cells (dc d).toArray 47):=hB3
 have r3:Row w1 b3 0 (dc d):=Row.all hB3 rfl
 refine SG.alloc rfl rfl rfl (fun b4 w2 hk2 hb4 hB4=>?_)
 have k2:=hk1.trans hk2
 have r3:=r3.kp0 hk2
 have h2:=h.kp0 k2
 obtain⟨-,-,-,-,r5,-,r7⟩:=cj h2
 repeat (first|apply gst|(apply gsv;rfl;(first|apply qep|apply qmv|apply qas)<;>rfl))
 refine gcf rfl ?_
 repeat apply gst
 refine CG.draw mixed [0,1,2,3,4,5,6,7,8,11,9,10] [9] [] [] (fun _=>True) (by kernel_rfl) (by simp) (by simp) trivial (fun _ _ _ _=>trivial) (Or.inl rfl) ?_
 repeat (apply gdv;rfl;rfl;(first|apply qmv|apply qlc|apply qfa|apply qnc)<;>first|rfl|assumption|exact List.not_mem_nil)
 refine Der.call rfl rfl rfl (vs:=[.pointer (some ⟨c.tb,0,none⟩)]) (Evs.of rfl) (fun W hk _=>gR (h2.tree.kp0 hk)) ?_
 repeat (apply gdv;rfl;rfl;apply qmv<;>rfl)
 refine Der.AB (c.tr.line c.tr.tip) rfl rfl rfl rfl (vs:=[.pointer (some ⟨c.tb,0,none⟩),dv c.tr.tip]) (Evs.of rfl) De (fun W hk _=>rM (h2.tree.kp0 hk) wf c.tr.tip) (fun a cc=>?_)
 repeat (apply gdv;rfl;rfl;apply qln<;>rfl)
 refine Der.fin (fun w3 hk3 hF _=>?_)
 obtain⟨-,hSF⟩:=hF
 have k3:=k2.trans hk3
 have hS:=hSF.sl
 clear r5 r7 hSF
 obtain⟨l,hle⟩:∃l,l=c.tr.line c.tr.tip:=⟨_,rfl⟩
 rw[←hle] at hl hq hS⊢
 repeat apply gst
 refine CG.loop (X:=Nat) (fun q=>[(0,.pointer (some ⟨c.cb,0,none⟩)),(3,.pointer (some ⟨b3,0,none⟩)),(4,.pointer (some ⟨b4,0,none⟩)),(22,.slice a l.length cc),(23,.int .i64 (l.length:Int)),(24,.int .i64 (q:Int))])
  (fun q w'=>q≤l.length∧Kp [] w2 w'∧Sl dc 8 w' a l∧jd c.ns d l=jd c.ns d (l.drop q)) (fun q=>l.length-q) 0 ⟨Nat.zero_le _,hk3,hS,rfl⟩ (by rw[hle];(repeat' (first|exact True.intro|exact rfl|refine And.intro ?_ ?_))) ?_
 rintro i w4 ⟨hi,k4,hS4,hok⟩
 refine CG.to [(0,.pointer (some ⟨c.cb,0,none⟩)),(3,.pointer (some ⟨b3,0,none⟩)),(4,.pointer (some ⟨b4,0,none⟩)),(22,.slice a l.length cc),(23,.int .i64 (l.length:Int)),(24,.int .i64 (i:Int))] (aZ.of rfl) ?_
 have k24:=k2.trans k4
 have hB44:=hB4.kp0 k4
 by_cases hlt:i<l.length
 ·have g1:(i:Int)<(l.length:Int):=by omega
  obtain⟨ba,off,rfl,hrow⟩:=hS4.at hlt
  obtain⟨q,hqa⟩:=hq _ (List.getElem_mem hlt)
  rw[List.drop_eq_getElem_cons hlt] at hok
  have hok:jd c.ns d l=if 0≤ixZ q.2.nms d then some (q.2.x.ht,q.2.es.getD (ixZ q.2.nms d).toNat 0) else jd c.ns d (l.drop (i+1)):=by
   rw[hok]
   simp only[jd,hqa]
  repeat (first|apply gst|(apply gsv;rfl;apply qls<;>first|rfl|(apply dct;first|assumption|omega)))
  refine gct rfl ?_
  repeat (first|apply gst|(apply gsv;rfl;(first|apply qla|apply qix)<;>first|rfl|(apply Ar.mk;omega)|assumption|exact List.not_mem_nil|apply ah))
  refine SG.alloc rfl rfl rfl (fun b5 w5 hk5 hb5 hB5=>?_)
  refine SG.aG (l:=dc l[i]) rfl rfl (ag rfl) (ag rfl) hB5 (ah _) rfl (aR _) (fun w6 hk6 hB6=>?_)
  have k46:=hk5.ai hk6 (bf hb5)
  have k6:=k24.trans k46
  have h6:=h.kp0 k6
  have r3:Row w6 b3 0 (dc d):=r3.kp0 (k4.trans k46)
  have q6:Row w6 b5 0 (dc l[i]):=Row.all hB6 rfl
  obtain⟨-,-,-,-,-,-,r7⟩:=cj h6
  have hM:=h6.map
  clear hrow
  repeat apply gst
  refine CG.tail mixed 5 [0,1,2,3,4] (by kernel_rfl) ?_
  repeat (apply gdv;rfl;rfl;(first|apply qmv|apply qlc|apply qla|apply qfa|apply qnc)<;>first|rfl|assumption|exact List.not_mem_nil|apply ah)
  refine Der.tl (fun w7 hk7 _ _=>?_)
  have hM:=hM.kp0 hk7
  repeat (first|apply gst|(apply gsv;rfl;(first|apply qas|apply qlv)<;>first|rfl|assumption|exact List.not_mem_nil|exact lk1 (by assumption)|fail))
  have hN:=(h6.ndA hqa).kp0 hk7
  have r3:=r3.kp0 hk7
  obtain⟨-,t2,-,t4,-,t6,-⟩:=dI hN.blk
  clear r7 q6
  skip
  refine CG.tail mixed 5 [0,1,2,3,4] (by kernel_rfl) ?_
  repeat (apply gdv;rfl;rfl;(first|apply qmv|apply qlc|apply qla|apply qfa|apply qnc)<;>first|rfl|assumption|exact List.not_mem_nil|apply ah)
  refine Der.tl (fun w8 hk8 _ _=>?_)
  have hN8:=hN.kp0 hk8
  have k8:=(k46.trans hk7).trans hk8
  have enl:q.2.x.xs.length=q.2.nms.length:=(List.length_map _).symm
  have hll:=hN.x.len
  refine SG.ret rfl rfl rfl (vs:=[.slice q.2.an q.2.x.xs.length q.2.cn,dv d]) (Evs.of rfl) (by rw[enl];exact rN hN8.nam (by omega) d) (fun w9 hk9=>?_)
  have k9:=k8.trans hk9
  clear r3 t6
  by_cases h0:0≤ixZ q.2.nms d
  ·rw[if_pos h0] at hok
   rw[hok]
   obtain⟨j1,j2⟩:=B7 h0
   generalize (ixZ q.2.nms d).toNat=j at*
   generalize ixZ q.2.nms d=z at*
   subst j2
   have hje:j<q.2.es.length:=by rw[hN.el];omega
   obtain⟨ba,oa,hae,hrow⟩:=(hN8.ans.kp0 hk9).at hje
   have hge:q.2.es.getD j 0=q.2.es[j]:=by simp[List.getD_eq_getElem?_getD,hje]
   rw[hge]
   rw[hae] at t2
   have t2:=(t2.kp0 hk8).kp0 hk9
   have t4:=(t4.kp0 hk8).kp0 hk9
   have hrow:Row w9 ba (oa+j*1) [.int .i64 q.2.es[j]]:=hrow
   repeat (first|apply gst|(apply gsv;rfl;(first|apply qmv|apply qas|apply qge)<;>first|rfl|(apply dct;first|assumption|omega)))
   refine gct rfl ?_
   repeat apply gst
   refine CG.tail mixed 13 [0,1,2,3,4,5,6,7,8,9,10,11,12] (by kernel_rfl) ?_
   repeat (apply gdv;rfl;rfl;(first|apply qmv|apply qlc|apply qfa|apply qnc|apply qix)<;>first|rfl|(apply Ar.mk;omega)|assumption|exact List.not_mem_nil)
   refine Der.tl (fun w10 hk10 _ _=>?_)
   refine SG.val rfl rfl rfl rfl (au rfl (bdn q.2.x.ht q.2.es[j])) ?_
   refine SG.aG (l:=dnc (q.2.x.ht,q.2.es[j])) rfl rfl (ag rfl) (ag rfl) ((hB44.kp0 k9).kp0 hk10) rfl rfl rfl (fun w11 hk11 hB11=>?_)
   have hr:Row w11 b4 0 (dnc (q.2.x.ht,q.2.es[j])):=Row.all hB11 rfl
   clear t2 t4 hrow
   repeat (first|apply gst|(apply gsv;rfl;apply qas<;>rfl))
   refine dX (Or.inl rfl) Tryz.results17 (aC.agg rfl rfl hr rfl) (aC.tmp rfl) ?_
   exact⟨rfl,((k24.trans k9).trans hk10).ai hk11 (bf (by have:=hk1.size;omega))⟩
  ·rw[if_neg h0] at hok
   repeat (first|apply gst|(apply gsv;rfl;(first|apply qmv|apply qas|apply qge)<;>first|rfl|(apply dcf;first|assumption|omega)))
   refine gcf rfl ?_
   repeat (first|apply gst|(apply gsv;rfl;(first|apply qmv|apply qad)<;>first|rfl|(apply Ar.mk;omega)))
   refine NG.round (i+1) (aZ.of rfl) ⟨hlt,k4.trans k9,hS4.kp0 k9,hok⟩ (by omega)
 ·have g1:¬(i:Int)<(l.length:Int):=by omega
  rw[List.drop_eq_nil_of_le (by omega)] at hok
  rw[hok]
  repeat (first|apply gst|(apply gsv;rfl;apply qls<;>first|rfl|(apply dcf;first|assumption|omega)))
  refine gcf rfl ?_
  repeat apply gst
  refine SG.val rfl rfl rfl rfl (au rfl La) ?_
  refine SG.aG (l:=dnc (0,0)) rfl rfl (ag rfl) (ag rfl) hB44 rfl rfl rfl (fun w5 hk5 hB5=>?_)
  have hr:Row w5 b4 0 (dnc (0,0)):=Row.all hB5 rfl
  repeat (first|apply gst|(apply gsv;rfl;apply qas<;>rfl))
  refine dX (Or.inl rfl) Tryz.results17 (aC.agg rfl rfl hr rfl) (aC.tmp rfl) ?_
  exact⟨rfl,k24.ai hk5 (bf (by have:=hk1.size;omega))⟩
end
section
theorem Cnd.cons{n:Nat}{Ts:List TypeId}{A:List Nat}{w:World}{b:Nat}{S:List Nat}(h:Cnd n Ts A w [b])(h':Cnd n Ts A w S):Cnd n Ts A w (b::S):=h.app h'
theorem dA.nodes{w w':World}{n:Nat}{A:List Nat}{tot:Int}{c:Cm}{S:List Nat}(h:dA w n A tot c)(hk:Kp S w w')(hS:Cnd n CT A w S):∀p∈c.ns,sG w' n A tot p.2.1 p.2.2:=fun p hp=>
 (h.nd p hp).kp hk hS (fun _ hz=>hz) (by decide) ((h.nd p hp).x.pT hk hS (by decide) (by decide))
theorem Pl.cnd{w:World}{n p:Nat}{v:Value}{room:Int}{ms:List Em}{A:List Nat}(h:Pl w n p v room ms):Cnd n CT A w (p::aT v):=(Cnd.cells h.bp h.blk (by decide)).cons (Cnd.own h.own (Nat.le_refl _) (by decide))
theorem Pl.Ed{κ ν:Type}{enc:κ→Value}{V:ν→Value}{m:List (κ×ν)}{w:World}{n p b:Nat}{v:Value}{room:Int}{ms:List Em}(h:Pl w n p v room ms)(hm:az w b enc V m):b∉p::aT v:=fun hz=>by
 rcases List.mem_cons.1 hz with e|hz
 ·exact cS h.blk hm e
 ·exact iw h.own hm _ (ay hz) (List.mem_singleton.2 rfl)
theorem Pl.Ee{w:World}{n p b:Nat}{v:Value}{room:Int}{ms:List Em}{cs:Array Value}{T:TypeId}(h:Pl w n p v room ms)(hB:Blk w b (.cells cs T))(h1:T≠214)(h2:T≠216):b∉p::aT v:=fun hz=>(h.noT (fun e=>h1 e.symm) (fun e=>h2 e.symm) _ hz).2 _ _ hB
theorem dA.BC{w w':World}{n:Nat}{A:List Nat}{tot:Int}{c:Cm}{pv':Value}{ps':List Em}(h:dA w n A tot c)(hk:Kp (c.pb::aT c.pv) w w')(hP:Pl w' n c.pb pv' 256 ps'):dA w' n A tot {c with pv:=pv',ps:=ps'}:=by
 have hS:Cnd n CT A w (c.pb::aT c.pv):=h.pool.cnd
 exact⟨h.blk.kp hk (h.pool.Ee h.blk (by decide) (by decide)),h.tree.kp hk (h.pool.Ee h.tree.blk (by decide) (by decide)) (h.pool.Ed h.tree.map),hP,h.map.kp hk (h.pool.Ed h.map),h.nodes hk hS,h.tA,h.nA,h.ne,h.tn,h.nn,h.bn,Nat.le_trans h.w0 hk.size⟩
theorem cQ{w:World}{base k sz n:Nat}{T:TypeId}{v:Value}{xs:List Value}{S:List Nat}(ho:w.ownsRow base T sz v k xs)(hS:NoT T n w S):∀g,v.ownBlock=some g→g∉S:=fun g hg hm=>by
 rcases ho.2 with⟨rfl,_⟩|⟨g',cap,cur,rfl,_,hb,_⟩
 ·cases hg
 ·simp only[Value.ownBlock,Option.some.injEq] at hg
  subst hg
  exact(hS _ hm).2 _ _ hb
def LM:List TypeId:=127::(CT++IM)
theorem dA.kpA{w w':World}{n:Nat}{A A':List Nat}{tot:Int}{c:Cm}{S:List Nat}{Ts:List TypeId}(h:dA w n A tot c)(hk:Kp S w w')(hS:Cnd n Ts A' w S)(hA:∀z∈A',z∈A∧z≠c.tm∧z≠c.nm)(hT:∀T∈LM,T∉Ts)(hx:∀p∈c.ns,p.2.2.x.In n w'):dA w' n A tot c:=by
 have t:∀{T:TypeId},T∈LM→NoT T n w S:=fun hm=>hS.not (hT _ hm)
 exact⟨hS.blk hk h.blk (hT _ (by decide)),⟨hS.blk hk h.tree.blk (hT _ (by decide)),hS.zU hk h.tree.map (fun g=>(hA _ g).2.1 rfl)⟩,h.pool.kp hk (hS.no h.pool.blk (hT _ (by decide))) (cQ h.pool.own (t (by decide))) (t (by decide)),hS.zU hk h.map (fun g=>(hA _ g).2.2 rfl),fun p hp=>(h.nd p hp).kp hk hS (fun z hz=>(hA z hz).1) (fun T hm=>hT T (List.mem_cons_of_mem _ (List.mem_append_right _ hm))) (hx p hp),h.tA,h.nA,h.ne,h.tn,h.nn,h.bn,Nat.le_trans h.w0 hk.size⟩
theorem dA.kpL{w w':World}{n:Nat}{A:List Nat}{tot:Int}{c:Cm}{S:List Nat}{Ts:List TypeId}(h:dA w n A tot c)(hk:Kp S w w')(hS:Cnd n Ts [] w S)(hT:∀T∈LM,T∉Ts)(hx:∀p∈c.ns,p.2.2.x.In n w'):dA w' n A tot c:=h.kpA hk hS (fun _ hz=>by cases hz) hT hx
open Classical in
noncomputable def oR(nb:Nbk)(q:Nm)(ps:List En)(t:Tx):Int:=if gv nb t≠0 then gv nb t else if t.non<(q.f t.frm).nonce then 17 else fP 256 ps q.x.ht t
open Classical in
noncomputable def wH(nb:Nbk)(q:Nm)(ps:List En)(t:Tx):List En:=if oR nb q ps t=0 then sK 256 ps q.x.ht t else ps
theorem Eo{w:World}{L:Env}{d:Option Nat}{ty:TypeId}{pos:String}{af:Array Edge}{g:Option (Nat×Bool)}{S:List Nat}{F:World→Prop}{x:Operand}{k:Dg}{p:Pu}(hx:rho L x=acv (qG k p)):aO Tryz.prog S w F L ⟨d,.field 59 x 2,ty,pos,af,g⟩ (.int .i64 p.nonce):=
 dF (dc k++[.int .i64 p.money]) [] hx rfl (by simp[acl,qG]) (by simp[ah])
attribute [local irreducible] CG NG SG aO Der Row Blk az aH aN gv fP sK
theorem jy{w:World}{n:Nat}{A:List Nat}{tot:Int}{c:Cm}(h:dA w n A tot c){base pm:Nat}{v:Value}{nb:Nbk}(hN:dP w base c.vb pm v nb)(hI:dY 256 (c.ps.map Em.en)){x:Tm}(hx:x.In n w){q:Nat×Nm}(hq:ar c.ns c.tr.tip=some q):
  Calls Tryz.prog 38 #[.pointer (some ⟨c.cb,0,none⟩),txv x] w (fun e w'=>e= .returned (.int .i64 (oR nb q.2 (c.ps.map Em.en) x.t))∧∃pv' ps',dA w' n A tot {c with pv:=pv',ps:=ps'}∧ps'.map Em.en=wH nb q.2 (c.ps.map Em.en) x.t∧Kp (c.pb::aT c.pv) w w'∧∀g,pv'.ownBlock=some g→c.pv.ownBlock=some g∨w.heap.size≤g):=by
 refine bh Tryz.func38 rfl Tryz.ntmps38 rfl ?_
 have hno:∀{W:World} {z:Int},Kp [] w W→oR nb q.2 (c.ps.map Em.en) x.t=z→z≠0→(Ending.returned (.int .i64 z)= .returned (.int .i64 (oR nb q.2 (c.ps.map Em.en) x.t))∧∃pv' ps',dA W n A tot {c with pv:=pv',ps:=ps'}∧ps'.map Em.en=wH nb q.2 (c.ps.map Em.en) x.t∧Kp (c.pb::aT c.pv) w W∧∀g,pv'.ownBlock=some g→c.pv.ownBlock=some g∨w.heap.size≤g):=fun hk hz h0=>by
  refine⟨by rw[hz],c.pv,c.ps,h.kp0 hk,?_,hk.any,fun g hg=>Or.inl hg⟩
  unfold wH
  rw[hz,if_neg h0]
 repeat apply gst
 refine SG.box rfl rfl rfl (ag rfl) (fun b3 w1 hk1 hb3 hB3=>?_)
 have hB3:Blk w1 b3 (.cells (txc x).toArray 52):=hB3
 obtain⟨r,-⟩:=aJ hB3
 obtain⟨-,-,t3,-⟩:=cj (h.kp0 hk1)
 repeat (first|apply gst|(apply gsv;rfl;(first|apply qep|apply qmv|apply qas)<;>rfl))
 refine gcf rfl ?_
 repeat apply gst
 refine CG.tail mixed 5 [0,1,2,3,4] (by kernel_rfl) ?_
 repeat (apply gdv;rfl;rfl;(first|apply qmv|apply qlc|apply qla|apply qfa|apply qnc)<;>first|rfl|assumption|exact List.not_mem_nil|apply aj)
 refine Der.tl (fun w2 hk2 _ _=>?_)
 have k2:=hk1.trans hk2
 refine SG.ret rfl rfl rfl (vs:=[txv x,.iface 40 (.pointer (some ⟨c.vb,0,none⟩))]) (Evs.of rfl) (iP (hN.kp0 k2) (hx.kp0 k2)) (fun w3 hk3=>?_)
 have k3:=k2.trans hk3
 have hB3:=(hB3.kp0 hk2).kp0 hk3
 clear r t3
 by_cases hv:gv nb x.t=0
 rotate_left
 ·have ez:oR nb q.2 (c.ps.map Em.en) x.t=gv nb x.t:=by unfold oR;rw[if_pos hv]
  repeat (first|apply gst|(apply gsv;rfl;(first|apply qmv|apply qas|apply qni)<;>first|rfl|(apply dcf;first|assumption|omega)))
  refine gct rfl ?_
  repeat (first|apply gst|(apply gsv;rfl;(first|apply qmv|apply qas)<;>rfl))
  refine aS (Or.inl rfl) Tryz.results38 (aC.tmp rfl) ?_
  exact hno k3 ez hv
 rw[hv]
 repeat (first|apply gst|(apply gsv;rfl;(first|apply qmv|apply qas|apply qni)<;>first|rfl|(apply dct;first|assumption|omega)))
 refine gcf rfl ?_
 repeat (first|apply gst|(apply gsv;rfl;apply qmv<;>rfl))
 refine SG.ret rfl rfl rfl (vs:=[.pointer (some ⟨c.cb,0,none⟩)]) (Evs.of rfl) (lG (h.kp0 k3) hq) (fun w4 hk4=>?_)
 have k4:=k3.trans hk4
 have hB3:=hB3.kp0 hk4
 have hQ:=(h.ndA hq).kp0 k4
 obtain⟨m,hm,hi⟩:=hQ.book
 obtain⟨-,q0,q1,-⟩:=aJ hB3
 obtain⟨-,-,-,-,-,-,t0,-⟩:=dI hQ.blk
 repeat (first|apply gst|(apply gsv;rfl;apply qas<;>rfl))
 have hbo:∀W,Kp [] w4 W→Ret Tryz.prog 19 #[.pointer (some ⟨q.2.bk,0,none⟩),dv x.t.frm] W (acv (qG x.t.frm (q.2.f x.t.frm))):=fun W hk=>by
  rw[←hi.eq]
  exact ib (hm.kp0 hk) x.t.frm
 by_cases hn:x.t.non<(q.2.f x.t.frm).nonce
 ·have ez:oR nb q.2 (c.ps.map Em.en) x.t=17:=by unfold oR;rw[if_neg (fun g=>g hv),if_pos hn]
  refine CG.tail mixed 11 [0,1,2,3,4,5,6,7,8,9,10] (by kernel_rfl) ?_
  repeat (apply gdv;rfl;rfl;(first|apply qmv|apply qlc|apply qla|apply qfa|apply qnc)<;>first|rfl|assumption|exact List.not_mem_nil|apply ah)
  refine Der.call rfl rfl rfl (vs:=[.pointer (some ⟨q.2.bk,0,none⟩),dv x.t.frm]) (Evs.of rfl) (fun W hk _=>hbo W hk) ?_
  refine Der.val rfl rfl rfl (Eo rfl) ?_
  refine Der.tl (fun w5 hk5 _ _=>?_)
  repeat (first|apply gst|(apply gsv;rfl;apply qls<;>first|rfl|(apply dct;first|assumption|omega)))
  refine gct rfl ?_
  repeat (first|apply gst|(apply gsv;rfl;apply qas<;>rfl))
  refine aS (Or.inl rfl) Tryz.results38 (aC.tmp rfl) ?_
  exact hno (k4.trans hk5) ez (by decide)
 have ez:oR nb q.2 (c.ps.map Em.en) x.t=fP 256 (c.ps.map Em.en) q.2.x.ht x.t:=by unfold oR;rw[if_neg (fun g=>g hv),if_neg hn]
 refine CG.tail mixed 11 [0,1,2,3,4,5,6,7,8,9,10] (by kernel_rfl) ?_
 repeat (apply gdv;rfl;rfl;(first|apply qmv|apply qlc|apply qla|apply qfa|apply qnc)<;>first|rfl|assumption|exact List.not_mem_nil|apply ah)
 refine Der.call rfl rfl rfl (vs:=[.pointer (some ⟨q.2.bk,0,none⟩),dv x.t.frm]) (Evs.of rfl) (fun W hk _=>hbo W hk) ?_
 refine Der.val rfl rfl rfl (Eo rfl) ?_
 refine Der.tl (fun w5 hk5 _ _=>?_)
 clear q0 q1 t0
 have k5:=k4.trans hk5
 repeat (first|apply gst|(apply gsv;rfl;apply qls<;>first|rfl|(apply dcf;first|assumption|omega)))
 refine gcf rfl ?_
 obtain⟨r,-⟩:=aJ (hB3.kp0 hk5)
 obtain⟨-,-,-,t1,-⟩:=dI (hQ.kp0 hk5).blk
 obtain⟨-,-,-,-,-,t4,-⟩:=cj (h.kp0 k5)
 repeat apply gst
 refine CG.tail mixed 10 [0,1,2,3,4,5,6,7,8,9] (by kernel_rfl) ?_
 repeat (apply gdv;rfl;rfl;(first|apply qmv|apply qlc|apply qla|apply qfa|apply qnc)<;>first|rfl|assumption|exact List.not_mem_nil|apply aj)
 refine Der.tl (fun w6 hk6 _ _=>?_)
 have k6:=k5.trans hk6
 refine SG.call rfl rfl rfl (vs:=[.pointer (some ⟨c.pb,0,none⟩),.int .i64 q.2.x.ht,txv x]) (Evs.of rfl) ((qC (h.kp0 k6).pool (hx.kp0 k6) hI (by omega)).mono (fun e w7 hh=>?_))
 obtain⟨rfl,pv',ps',hP',hps,hk7,hg⟩:=hh
 refine⟨_,rfl,?_⟩
 clear r t1 t4
 repeat (first|apply gst|(apply gsv;rfl;apply qas<;>rfl))
 refine aS (Or.inl rfl) Tryz.results38 (aC.tmp rfl) ?_
 refine⟨by rw[ez],pv',ps',(h.kp0 k6).BC hk7 hP',?_,k6.any.trans hk7,fun g hg'=>(hg g hg').elim Or.inl (fun e=>Or.inr (Nat.le_trans k6.size e))⟩
 rw[hps]
 unfold wH
 split
 ·rfl
 ·rename_i g
  unfold sK
  rw[if_neg (by rw[←ez];exact g)]
end
section
def j8(f:Fb)(t:Tx):Bool:=decide ((f t.frm).nonce=t.non)&&decide (t.fee≤(f t.frm).money)
def mkL(mk:Dg):Fb→List Tx→List Tx→List Tx
 |_,acc,[]=>acc
 |f,acc,x::l=>if 64≤acc.length then acc else if j8 f x then mkL mk (dof f mk x) (if gJ f x=0 then acc++[x] else acc) l else mkL mk f acc l
noncomputable def tkL(ps:List En)(ns:List Dg):List Tx:=(((nq ps).filter (fun e=> !exB (nh ps ns) e)).take 1024).map (·.t)
theorem Bj(ps:List En)(ns:List Dg):(((nq ps).filter (fun e=> !exB (nh ps ns) e)).take (Int.toNat 1024)).map (·.t)=tkL ps ns:=rfl
theorem xr{mk:Dg}{f:Fb}{acc:List Tx}(h:64≤acc.length)(l:List Tx):mkL mk f acc l=acc:=by
 cases l with
 |nil=>rfl
 |cons x l=>exact if_pos h
theorem BO{mk:Dg}{f:Fb}{acc l:List Tx}{x:Tx}(h:¬64≤acc.length)(hb:j8 f x=false):mkL mk f acc (x::l)=mkL mk f acc l:=by
 show(if 64≤acc.length then acc else if j8 f x then _ else mkL mk f acc l)=_
 rw[if_neg h,hb]
 rfl
theorem lR{mk:Dg}{f:Fb}{acc l:List Tx}{x:Tx}(h:¬64≤acc.length)(hb:j8 f x=true):mkL mk f acc (x::l)=mkL mk (dof f mk x) (if gJ f x=0 then acc++[x] else acc) l:=by
 show(if 64≤acc.length then acc else if j8 f x then mkL mk (dof f mk x) (if gJ f x=0 then acc++[x] else acc) l else _)=_
 rw[if_neg h,hb]
 rfl
theorem az.noT{κ ν:Type}{enc:κ→Value}{V:ν→Value}{m:List (κ×ν)}{w:World}{b:Nat}(h:az w b enc V m)(T:TypeId):∀cs f,w.heap[b]?≠some (.cells cs T f):=fun cs f e=>by
 obtain⟨es,c,hb⟩:=h.blk
 have:=hb.symm.trans e
 cases this
def bkp(p:Dg)(h:Int)(mk:Dg)(v:Value):List Value:=dc p++(.int .i64 h::(dc mk++[v]))
theorem jo{w:World}{b:Nat}{p mk:Dg}{h:Int}{v:Value}{T:TypeId}(hB:Blk w b (.cells (bkp p h mk v).toArray T)):Row w b 0 (bkp p h mk v)∧Row w b 8 [.int .i64 h]∧Row w b 17 [v]:=
 ⟨Row.all hB rfl,Row.of hB (dc p) (dc mk++[v]) (by simp[bkp]) (ah _),Row.of hB (dc p++(.int .i64 h::dc mk)) [] (by simp[bkp]) (by simp[ah])⟩
theorem K5(w:World)(a0 a1 a2 a3 a4 a5 a6 a7 b0 b1 b2 b3 b4 b5 b6 b7:UInt8)(h:Int):(Instr.build 50 #[(0,.agg #[bv a0,bv a1,bv a2,bv a3,bv a4,bv a5,bv a6,bv a7]),(1,.int .i64 h),(2,.agg #[bv b0,bv b1,bv b2,bv b3,bv b4,bv b5,bv b6,bv b7])]).run Tryz.prog w=
  .ok (.agg #[bv a0,bv a1,bv a2,bv a3,bv a4,bv a5,bv a6,bv a7,.int .i64 h,bv b0,bv b1,bv b2,bv b3,bv b4,bv b5,bv b6,bv b7,.slice none 0 0]) w:=by kernel_rfl
theorem bmk(p mk:Dg)(h:Int)(w:World):(Instr.build 50 #[(0,dv p),(1,.int .i64 h),(2,dv mk)]).run Tryz.prog w= .ok (.agg (bkp p h mk (.slice none 0 0)).toArray) w:=by
 obtain⟨la,ha⟩:=p
 obtain⟨lb,hb⟩:=mk
 match la,ha,lb,hb with
 |[a0,a1,a2,a3,a4,a5,a6,a7],_,[b0,b1,b2,b3,b4,b5,b6,b7],_=>exact K5 w a0 a1 a2 a3 a4 a5 a6 a7 b0 b1 b2 b3 b4 b5 b6 b7 h
theorem K3(w:World):(Instr.build 50 #[]).run Tryz.prog w= .ok (bkv bm0) w:=by kernel_rfl
theorem CB(m:Bk)(t:Tx):AK m t=j8 (bal m) t:=rfl
theorem Av(es:List Int)(f:Fb)(mk:Dg)(x:Tx):(doa es f mk x).length≤es.length+1:=by
 unfold doa
 split
 ·rw[List.length_append];exact Nat.le_refl _
 ·omega
theorem Au(t:Tl)(f:Fb)(h:Int)(mk:Dg)(x:Tx):(dot t f h mk x).n≤t.n+1:=by
 unfold dot
 split
 ·exact CJ _ _ _ _
 ·omega
theorem fv(p mk:Dg)(h:Int)(v:Value):(bkp p h mk v).length=18:=by simp[bkp,ah]
theorem mn(p mk:Dg)(h:Int)(v:Value)(hv:mC v=true):aW (bkp p h mk v)=true:=by simp[bkp,aW,dc,mC] at*;exact hv
attribute [local irreducible] CG NG SG aO Der Row Blk az aH aN gv dof gJ j8 nq
theorem uf{w:World}{n:Nat}{A:List Nat}{tot:Int}{c:Cm}(h:dA w n A tot c)(p mk:Dg)(hp:ar c.ns p=none)(lv:Value):
  Ret Tryz.prog 36 #[.pointer (some ⟨c.cb,0,none⟩),dv p,dv mk,lv] w (.tuple #[bkv bm0,.int .i64 24]):=by
 refine nZ Tryz.func36 rfl Tryz.ntmps36 rfl ?_
 repeat apply gst
 refine SG.box rfl rfl rfl (ag rfl) (fun b5 w1 hk1 hb5 hB5=>?_)
 have hB5:Blk w1 b5 (.cells (dc p).toArray 47):=hB5
 refine SG.box rfl rfl rfl (ag rfl) (fun b6 w2 hk2 hb6 hB6=>?_)
 refine SG.alloc rfl rfl rfl (fun b8 w3 hk3 hb8 hB8=>?_)
 have k3:=(hk1.trans hk2).trans hk3
 have q5:Row w3 b5 0 (dc p):=Row.all ((hB5.kp0 hk2).kp0 hk3) rfl
 have h3:=h.kp0 k3
 obtain⟨-,-,-,-,-,-,r6⟩:=cj h3
 have hM:=h3.map
 repeat (first|apply gst|(apply gsv;rfl;(first|apply qep|apply qmv|apply qas)<;>rfl))
 refine gcf rfl ?_
 repeat apply gst
 refine CG.fq mixed [0,1,2,3,4,5,6,7,8,9,10] [] (by kernel_rfl) ?_
 repeat (apply gdv;rfl;rfl;(first|apply qmv|apply qas|apply qlc|apply qla|apply qfa|apply qnc|apply qlk|apply qxt)<;>first|rfl|assumption|exact List.not_mem_nil|apply ah|exact lk0 (by assumption)|fail)
 refine Der.fin (fun w4 hk4 _ _=>?_)
 repeat (first|apply gst|(apply gsv;rfl;(first|apply qmv|apply qnt)<;>rfl))
 refine gct rfl ?_
 repeat apply gst
 refine SG.val rfl rfl rfl rfl (au rfl K3) ?_
 refine SG.aG (l:=bkc bm0) rfl rfl (ag rfl) (ag rfl) (hB8.kp0 hk4) (aB _) rfl (dh _) (fun w5 hk5 hB85=>?_)
 have hr:Row w5 b8 0 (bkc bm0):=Row.all hB85 rfl
 clear q5 r6
 repeat (first|apply gst|(apply gsv;rfl;apply qas<;>rfl))
 refine dX (Or.inl rfl) Tryz.results36 (aC.agg rfl rfl hr (aB _)) (aC.tmp rfl) ?_
 exact⟨rfl,(k3.trans hk4).ai hk5 (bf (by have:=hk1.size;have:=hk2.size;omega))⟩
end
end Go.Proofs.YtpnjgjddabeapaaGreatDoor
