import Derived.Test.YtpnjgjddabeapaaGreatDoorMp3
namespace Go.Proofs.YtpnjgjddabeapaaGreatDoor
set_option linter.all false
set_option maxHeartbeats 400000000
open List Or Go.Proofs.Tryz
section
variable{ns:List Value}{bT:Nat}{v:Value}{w:World}
theorem lp{x:Value}{j:Nat}(b:aG w bT (.cells (v::ns).toArray 287))(h:ns[j]?=some x):Row w bT (0+1+j*1) [x]:=by
 have a:=(List.getElem?_eq_some_iff.1 h)
 obtain⟨a,c⟩:=a
 refine Row.of b (v::ns.take j) (ns.drop (j+1)) ?_ (by simp;omega)
 rw[<-c]
 simp
attribute [local irreducible] CG NG SG aP aM Row aG aF aQ num dy dH cV cL sF cU bu dX mB eK bG de aJ lF jR
theorem BP{a k f c1 c c2:Nat}{L1 L2:List Dg}(b:aG w bT (.cells (v::ns).toArray 287))(z:ns.length=13)(y:a<12)(q:ns[a]?=some (.slice (some ⟨f,0,none⟩) L1.length c1))(g:ns[a+1]?=some (.slice (some ⟨c,0,none⟩) L2.length c2))
  (h:Sl dc 8 w (some ⟨f,0,none⟩) L1) (r:aG w c (.cells (flat L2).toArray 47)) (s:2*k+1<L1.length) (l:k<L2.length) (x:L1.length<=100000):
  Calls prog 184 #[.pointer (some ⟨bT,0,none⟩),.int .i64 ((a+1:Nat):Int),.int .i64 (k:Int)] w (fun e n=>e= .returned (.tuple #[])/\Kp [c] w n/\aG n c (.cells (flat (L2.set k (jR (L1[2*k]'(by omega)) L1[2*k+1]))).toArray 47)):=by
 refine dG func184 rfl ntmps184 rfl ?_
 have u:=lp b q
 have m:=lp b g
 obtain⟨_,A,o,C⟩:=h.at (i:=2*k) (by omega)
 cases o
 obtain⟨_,B,p,D⟩:=h.at (i:=2*k+1) s
 cases p
 refine CG.seq ?_
 refine CG.region ?_
 iterate 3 (refine SG.val rfl rfl rfl rfl (by first|((first|apply aB|apply td)<;>(first|exact rfl|exact Ar.mk (by omega)|fail))|fail) ?_)
 rw[show((a+1:Nat):Int)-1=(a:Int) by omega]
 clear m
 repeat (first|apply ar|(apply au;rfl;(first|apply Ga|apply aE|apply aZ|apply aU|apply bR)<;>first|rfl|exact zc|assumption|exact wn))
 clear u
 have m:=lp b g
 refine CG.tail mixed 19 [0,1,2,3,4,5,6,7,8,9,10,11,12,13,14,15,16,17,18] (by kernel_rfl) ?_
 iterate 10 (refine aM.val rfl rfl rfl (by first|((first|apply Ga|apply Hy|apply aB|apply aZ|apply aU|apply bR)<;>(first|exact rfl|exact Ar.mk (by omega)|assumption|exact wn|fail))|fail) ?_)
 rw[show(2:Int)*(k:Int)=((2*k:Nat):Int) by omega]
 iterate 5 (refine aM.val rfl rfl rfl (by first|((first|apply Hy|apply aB|apply bf|apply fa)<;>(first|exact rfl|exact Ar.mk (by omega)|assumption|exact wn|apply ai|apply ai|fail))|fail) ?_)
 rw[show(2:Int)*(k:Int)=((2*k:Nat):Int) by omega]
 refine aM.val rfl rfl rfl (by first|(apply dp<;>(first|exact rfl|exact Ar.mk (by omega)|fail))|fail) ?_
 rw[show((2*k:Nat):Int)+1=((2*k+1:Nat):Int) by omega]
 repeat (apply bW;rfl;rfl;(first|apply bf|apply fa)<;>first|rfl|exact zc|assumption|exact wn|apply ai)
 refine aM.call rfl rfl rfl (vs:=[dv L1[2*k],dv L1[2*k+1]]) (bg.of rfl) (fun W _ _=>CZ _ _ W) ?_
 refine aM.tl (fun E j _ _=>?_)
 repeat (apply au;rfl;apply fa<;>first|rfl|exact zc)
 generalize jR L1[2*k] L1[2*k+1]=d
 refine SG.cp (flat (L2.take k)) (dc L2[k]) (flat (L2.drop (k+1))) rfl rfl (ag rfl) (ag rfl) (r.az j) (by rw[toList_toArray];exact j8 L2 k l) (by exact ai d) (ai _) (by rw[ew,length_take];show min k L2.length*8=0+k*8;rw[Nat.min_eq_left (by omega)];omega) (by exact bj d) (fun F t b=>?_)
 repeat apply ar
 refine oY (Or.inr rfl) results184 ?_
 refine⟨rfl,j.any.trans t,?_⟩
 have e:flat (L2.set k d)=flat (L2.take k)++(dc d++flat (L2.drop (k+1))):=by
  rw[set_eq_take_append_cons_drop,if_pos l]
  simp[flat]
 rw[e]
 exact b
end
section
variable{α:Type}
open Go.Proofs
theorem DY[Inhabited α]{enc:α->List Value}{k:Nat}(h:0<k)(b:∀x,(enc x).length=k)(x:α){z:Array Value}(l:z=(enc x).toArray)(c:Nat):madeCells z (c*k)=(bX enc (replicate c x)).toArray:=by
 subst l
 have i:(bX enc (replicate c x)).length=c*k:=by
  rw[cD b,length_replicate]
 apply Array.ext
 ·rw[size_madeCells,size_toArray,i]
 ·intro t a m
  rw[size_madeCells] at a
  have e:=GL h b (replicate c x) t (by rw[length_replicate];exact a)
  have j:t/k<c:=Nat.div_lt_of_lt_mul (by rw[Nat.mul_comm];exact a)
  have d:(replicate c x).toArray[t/k]! =x:=by simp[j]
  rw[d] at e
  have f:(bX enc (replicate c x)).toArray[t]=(enc x)[t%k]!:=by
   have:=List.getElem?_eq_some_iff.1 e
   obtain⟨n,g⟩:=this
   simpa using g
  rw[f]
  simp[madeCells,b]
section
variable {P:Program} {S:List Nat} {w0:World} {ops:List Oper} {gh:List Nat} {K:Env->(World->Prop)->(World->Prop)->Prop} {j:Nat} {ord:List Nat} {L:Env} {F:World->Prop} {ty:TypeId} {pos:String} {af:Array Edge} {g:Option (Nat×Bool)}
theorem aM.HB{R:World->Prop}[Inhabited α]{enc:α->List Value}{d c:Nat}{t e:TypeId}{i:TypeInfo}[u:Ut P t (.slice e)][f:dJ P e i]{z:Value}{x y:Operand}{m:Int}(b:α)
  (H:ops[j]?=some ⟨some d,.makeSlice t x y,ty,pos,af,g⟩) (J:want ops L ⟨some d,.makeSlice t x y,ty,pos,af,g⟩=some true) (D:gh.elem j=true) (k:(known L x&&known L y)=true) (M:bH L x= .int .i64 m) (N:bH L y= .int .i64 m) (B:m=(c:Int)) (O:i.zero=some z) (Q:z.cells=(enc b).toArray) (C:∀x,(enc x).length=i.size) (I:Nat.blt 0 i.size=true) (U:i.bytes*c<=281474976710656) (p:c<=maxLen) (v:∀z∈S,z<w0.heap.size) (r:cH S F) (n:cH [] R)
  (h:∀a,aM P S w0 ops gh K ord ((d,.slice (some ⟨a,0,none⟩) c c)::L) (fun w=>F w/\(w0.heap.size<=a/\aG w a (.cells (bX enc (replicate c b)).toArray e))) R):aM P S w0 ops gh K (j::ord) L F R:=by
 refine aM.ghost (X:=Nat) (fun a=> .slice (some ⟨a,0,none⟩) c c) (fun a w=>w0.heap.size<=a/\aG w a (.cells (bX enc (replicate c b)).toArray e)) (fun _=>R) H J D (by simpa[Op.operands] using k) (fun a w V k h=>⟨h.1,h.2.kp k (fun G=>by have:=v _ G;omega)⟩) (fun _=>n) r (fun w E T s=>?_) h
 subst B
 unfold bD
 have q:(c:Int)<=9223372036854775807:=by have h:=p;simp[maxLen] at h;omega
 have A:(i.bytes:Int)*(c:Int)<=281474976710656:=by
  have h:((i.bytes*c:Nat):Int)<=281474976710656:=by omega
  rwa [Int.natCast_mul] at h
 have l:=run_make (P:=P) w t e i z u.eq f.eq O .i64 .i64 c c (by omega) (Int.le_refl _) A q
 simp only[Int.toNat_natCast] at l
 have o:=DY (enc:=enc) (by simpa using I) C b Q c
 rw[o] at l
 have:(execOp (bH L) ⟨some d,.makeSlice t x y,ty,pos,af,g⟩).run P w= .ok (.value (.slice (some ⟨w.heap.size,0,none⟩) c c)) (w.alloc (.cells (bX enc (replicate c b)).toArray e)):=by
  simp only[execOp,M,N,Sem.run_bind,l,Result.andThen,Sem.run_pure]
 rw[this]
 exact⟨w.heap.size,rfl,⟨E.size,aG.push w _⟩,n _ _ (Kp.push w _ rfl) s,(Kp.push w _ rfl).any⟩
end
end
section
instance:Inhabited Dg:=⟨zd⟩
def iM:Dg:=dX zd [110,111,110,101]
def FM:List Dg->List Dg
 |a::b::r=>jR a b::FM r
 |_=>[]
def DZ(l:List Dg)(h:Nat):List Dg:=l.map qg++replicate (2^h-l.length) iM
def lvl(l:List Dg)(h:Nat):Nat->List Dg
 |0=>DZ l h
 |k+1=>FM (lvl l h k)
def ku(l:List Dg):Dg:=lq ((lvl l (nD (l.length-1)) (nD (l.length-1))).headD zd) (nD (l.length-1))
theorem qO:∀(m:Nat) {l:List Dg},l.length=2*m->(FM l).length=m
 |0,l,h=>by
  have:l=[]:=eq_nil_of_length_eq_zero (by omega)
  subst this
  rfl
 |m+1,a::b::r,h=>by
  simp only[length_cons] at h
  simp only[FM,length_cons,qO m (l:=r) (by omega)]
 |m+1,[a],h=>by simp at h;omega
 |m+1,[],h=>by simp at h
theorem zU:∀(k:Nat) {l:List Dg} (c:2*k+1<l.length) (d:k<(FM l).length),(FM l)[k]=jR (l[2*k]'(by omega)) l[2*k+1]
 |0,a::b::r,c,d=>rfl
 |k+1,a::b::r,c,d=>by
  simp only[FM,length_cons] at c d
  have:=zU k (l:=r) (by omega) (by omega)
  simp only[FM,getElem_cons_succ]
  rw[this]
  rfl
 |k,[a],c,d=>by simp at c
 |k,[],c,d=>by simp at c
theorem Ep{n:Nat}(b:1<=n)(c:n<=64):n<=2^nD (n-1)/\2^nD (n-1)<=64/\nD (n-1)<=6:=by
 have a:∀y:_root_.Fin 64,y.val+1<=2^nD y.val/\2^nD y.val<=64/\nD y.val<=6:=by decide+kernel
 have:=a ⟨n-1,by omega⟩
 simp only at this
 omega
theorem iP{l:List Dg}{h:Nat}(a:l.length<=2^h):∀k,k<=h->(lvl l h k).length=2^(h-k)
 |0,_=>by
  simp only[lvl,DZ,length_append,length_map,length_replicate,Nat.sub_zero]
  omega
 |k+1,d=>by
  have b:=iP a k (by omega)
  have c:2^(h-k)=2*2^(h-(k+1)):=by
   rw[show h-k=(h-(k+1))+1 by omega,Nat.pow_succ]
   omega
  simp only[lvl]
  exact qO _ (by omega)
def iT(l:List Dg)(i:Nat):List Dg:=l.take i++replicate (l.length-i) zd
theorem j9(l:List Dg)(i:Nat)(a:i<=l.length):(iT l i).length=l.length:=by
 simp only[iT,length_append,length_take,length_replicate]
 omega
theorem rL(l:List Dg):iT l 0=replicate l.length zd:=by simp[iT]
theorem tL(l:List Dg):iT l l.length=l:=by simp[iT]
theorem pk{l:List Dg}{i:Nat}(a:i<l.length):(iT l i).set i l[i]=iT l (i+1):=by
 apply ext_getElem?
 intro j
 rw[getElem?_set]
 have d:(l.take i).length=i:=by rw[length_take];omega
 have e:(l.take (i+1)).length=i+1:=by rw[length_take];omega
 by_cases b:i=j
 ·subst b
  rw[if_pos rfl,if_pos (by rw[j9 _ _ (by omega)];exact a)]
  unfold iT
  rw[getElem?_append_left (by omega),getElem?_take,if_pos (by omega),getElem?_eq_getElem a]
 ·rw[if_neg b]
  unfold iT
  by_cases c:j<i
  ·rw[getElem?_append_left (by omega),getElem?_append_left (by omega),getElem?_take,getElem?_take,if_pos c,if_pos (by omega)]
  ·rw[getElem?_append_right (by omega),getElem?_append_right (by omega),getElem?_replicate,getElem?_replicate,d,e]
   by_cases f:j<l.length
   ·rw[if_pos (by omega),if_pos (by omega)]
   ·rw[if_neg (by omega),if_neg (by omega)]
theorem Qr{P:Program}{S:List Nat}{w0:World}{F:World->Prop}{L:Env}{d:Option Nat}{ty:TypeId}{pos:String}{af:Array Edge}{g:Option (Nat×Bool)}{T T':TypeId}[u:Ut P T (.int .i64)]{y:Operand}{h:Nat}(l:ro L y=some (.int .i64 (h:Int)))(j:Ar (h<=12)):aP P S w0 F L ⟨d,.binOp .shl T (.const (.int .i64 1)) y T',ty,pos,af,g⟩ (.int .i64 ((2^h:Nat):Int)):=fun w _ _=>by
 have i:bH L (.const (.int .i64 1))= .int .i64 1:=rfl
 have c:¬((h:Int)<0):=by omega
 have f:=j.h
 have k:2^h<=2^12:=Nat.pow_le_pow_right (by omega) f
 have a:min (Int.toNat (h:Int)) 64=h:=by rw[Int.toNat_natCast];omega
 have b:(1:Int)*2^h=((2^h:Nat):Int):=by rw[Int.one_mul,Int.natCast_pow];rfl
 have e:IntKind.wrap .i64 ((2^h:Nat):Int)=((2^h:Nat):Int):=by
  generalize 2^h=N at k
  exact HV (by omega)
 simp only[execOp,ag l,i,eqGuard,binOp,Op.shift,if_neg c,Sem.run_bind,Sem.run_pure,Result.andThen,IntKind.bits,a,b,e];rfl
attribute [local irreducible] CG NG SG aP aM Row aG aF aQ num dy dH cV cL sF cU bu dX mB eK bG de aJ lF jR
theorem uL{w:World}{a:Option Addr}{l:List Dg}(c:Nat)(b:Sl dc 8 w a l)(n:l.length<=1000000):kr prog 47 dc 8 182 #[.slice a l.length c] w l:=by
 refine bC func182 rfl ntmps182 rfl ?_
 cases a with
 |none=>
  have h:=b.An
  subst h
  repeat (first|apply ar|(apply au;rfl;(first|apply aB|apply aE|apply Lw)<;>rfl))
  refine bO rfl ?_
  repeat (first|apply ar|refine wt ?_)
  refine aO (Or.inl rfl) results182 (aD.tmp rfl) ?_
  exact⟨_,rfl,dY,Kp.refl _ _⟩
 |some j=>
  repeat (first|apply ar|(apply au;rfl;(first|apply aB|apply aE|apply Lw)<;>rfl))
  refine bA rfl ?_
  repeat apply ar
  refine SG.empty rfl rfl (fun k o d f e=>?_)
  repeat refine qa0 ?_
  refine SG.EK (enc:=dc) (l:=l) (m:=w.heap.size) rfl rfl rfl ai bj (ag rfl) (ag rfl) rfl rfl rfl (by simp only[maxLen];omega) (by show l.length*8<=_;omega) f (b.az d) e (fun v p g i=>?_)
  repeat (first|apply ar|refine wt ?_)
  refine aO (Or.inl rfl) results182 (aD.tmp rfl) ?_
  exact⟨v,rfl,i,d.trans g⟩
end
section
abbrev BD:Value:= .slice none 0 0
theorem RE(a:Option Addr)(n c:Nat)(w:World):(Instr.build 287 #[(0,.slice a n c)]).run prog w= .ok (.agg (.slice a n c::replicate 13 BD).toArray) w:=by kernel_rfl
section
variable {n:Nat} {ops:List Oper} {Q:Exit->Act->World->Prop} {w:World} {L:Env} {ty:TypeId} {pos:String} {af:Array Edge} {g:Option (Nat×Bool)} {rest:List Oper}
theorem SG.Ka{a x:Operand}{b:Nat}{d:Dg}{c:List Dg}(k:Nat)(i:k<c.length)(q:want ops L ⟨none,.store 47 a x,ty,pos,af,g⟩=some true)(p:(known L a&&known L x)=true)(m:bH L a= .pointer (some ⟨b,0+k*8,none⟩))(r:bH L x=dv d)(j:aG w b (.cells (flat c).toArray 47))
  (h:∀f,Kp [b] w f->aG f b (.cells (flat (c.set k d)).toArray 47)->SG prog n ops Q rest L f):SG prog n ops Q (⟨none,.store 47 a x,ty,pos,af,g⟩::rest) L w:=by
 refine SG.cp (flat (c.take k)) (dc c[k]) (flat (c.drop (k+1))) q p m r j (by rw[toList_toArray];exact j8 c k i) (by exact ai d) (ai _) (by rw[ew,length_take];show min k c.length*8=0+k*8;rw[Nat.min_eq_left (by omega)];omega) (by exact bj d) (fun f o l=>h f o ?_)
 have e:flat (c.set k d)=flat (c.take k)++(dc d++flat (c.drop (k+1))):=by
  rw[set_eq_take_append_cons_drop,if_pos i]
  simp[flat]
 rw[e]
 exact l
end
theorem rH(l:List Dg):bX dc l=flat l:=rfl
attribute [local irreducible] CG NG SG aP aM Row aG aF aQ num dy dH cV cL sF cU bu dX mB eK bG de aJ lF jR nD qg lq iM
theorem A3{w:World}{a:Option Addr}{l:List Dg}(c:Nat)(hS:Sl dc 8 w a l)(Y:1<=l.length)(C:l.length<=64):
  Calls prog 164 #[.slice a l.length c] w (fun r m=>∃j v n b,r= .returned (.tuple #[.pointer (some ⟨j,0,none⟩),.int .i64 0])/\aG m j (.cells (v::n).toArray 287)/\n.length=13/\(∃a' c',v= .slice a' l.length c')/\n[nD (l.length-1)]?=some (.slice (some ⟨b,0,none⟩) 1 1)/\aG m b (.cells (flat (lvl l (nD (l.length-1)) (nD (l.length-1)))).toArray 47)/\Kp [] w m):=by
 refine bC func164 rfl ntmps164 rfl ?_
 obtain⟨p1,p2,p3⟩:=Ep Y C
 generalize hH:nD (l.length-1)=H at p1 p2 p3⊢
 have g0:¬(H:Int)<0:=by omega
 repeat (first|apply ar|refine qb1 ?_)
 refine SG.ret rfl rfl rfl (vs:=[.int .i64 (l.length:Int)]) (bg.of rfl) (xu l.length Y C w) (fun w1 ah=>?_)
 rw[hH]
 repeat (first|apply ar|refine qb9 ?_)
 refine bA rfl ?_
 repeat (first|apply ar|refine qa0 ?_)
 refine SG.call rfl rfl rfl (vs:=[.slice a l.length c]) (bg.of rfl) ((uL c (hS.az ah) (by omega)).mono (fun r w2 hh=>?_))
 obtain⟨v2,S,bl,aP⟩:=hh
 refine⟨_,S,?_⟩
 clear S
 obtain⟨J,K,rfl,-,-⟩:=Sl.own ai bl rfl
 refine SG.val rfl rfl rfl rfl (aK rfl (RE J l.length K)) ?_
 refine SG.box rfl rfl rfl (ag rfl) (fun j w3 a9 bs z=>?_)
 have z:aG w3 j (.cells (.slice J l.length K::replicate 13 BD).toArray 287):=z
 have k3:=(ah.trans aP).trans a9
 have lT:=z.lt
 have bE:=(ah.trans aP).size
 generalize hv:Value.slice J l.length K=v at z
 have bo:H<=12:=by omega
 repeat (first|apply ar|refine wt ?_)
 refine CG.dS mixed 6 [0,1,2,4,5,3] [3] [] (fun _=>True) (by kernel_rfl) trivial (fun _ _ _ _=>trivial) ?_
 repeat (apply bW;rfl;rfl;(first|apply Qr|apply aB|apply aU|apply bR)<;>first|rfl|exact zc)
 refine aM.HB (enc:=dc) (e:=47) (i:=Tryz.t47) (f:=ty.i47) (c:=2^H) zd rfl rfl rfl rfl (ag rfl) (ag rfl) rfl rfl rfl ai rfl (by show 8*2^H<=_;omega) (by simp only[maxLen];omega) (by simp) (fun _ _ _ _=>trivial) (fun _ _ _ _=>trivial) (fun o=>?_)
 refine aM.tl (fun w4 ak hF _=>?_)
 obtain⟨-,bp,E⟩:=hF
 rw[rH] at E
 repeat (apply au;rfl;apply ur<;>first|rfl|exact zc)
 have bB:=ak.size
 refine SG.cp [v] [BD] (replicate 12 BD) rfl rfl (ag rfl) (ag rfl) (z.az ak) rfl rfl rfl rfl rfl (fun w5 al P=>?_)
 have k5:=(k3.trans ak).aj al (aW (by omega))
 generalize hN:2^H=N at p1 p2 E P
 have P:aG w5 j (.cells (v::(.slice (some ⟨o,0,none⟩) N N::replicate 12 BD)).toArray 287):=P
 have a1:aG w5 o (.cells (flat (replicate N zd)).toArray 47):=E.kp al (bQ (by omega))
 have bw:=E.lt
 clear z E
 repeat apply ar
 refine SG.val rfl rfl rfl rfl (aK rfl KS) ?_
 refine SG.ret rfl rfl rfl (vs:=[dv zd,sv [110,111,110,101]]) (bg.of rfl) (iA zd [110,111,110,101] (by decide) w5) (fun w6 am=>?_)
 refine SG.alloc rfl rfl rfl (fun b6 w7 bb br aA=>?_)
 have bk:dX zd [110,111,110,101]=iM:=by unfold iM;rfl
 rw[bk]
 refine SG.aN (old:=dc zd) (l:=dc iM) rfl rfl (ag rfl) (ag rfl) aA (ai _) (ai _) (bj _) (fun w8 bc aC=>?_)
 have Z:Kp [] w5 w8:=(am.trans bb).aj bc (aW (by have:=am.size;omega))
 have aq:Row w8 b6 0 (dc iM):=Row.all aC rfl
 have l6:=aq.lt
 have s6:=am.size
 have s5:=al.size
 have ae:=P.az Z
 have aF:=a1.az Z
 have rT:Row w8 j (0+1+0*1) [.slice (some ⟨o,0,none⟩) N N]:=lp ae rfl
 clear aC aA
 repeat (first|apply ar|(apply au;rfl;(first|apply ur|apply aB|apply aZ|apply aU|apply bR|apply dg)<;>first|rfl|exact zc|assumption|exact wn))
 clear rT
 obtain⟨M,O⟩:∃M,DZ l H=M:=⟨_,rfl⟩
 have a2:M.length=N:=by
  rw[<-O,<-hN]
  exact iP (by omega) 0 (Nat.zero_le _)
 refine CG.loop (X:=Nat) (fun g=>[(0,.slice a l.length c),(4,.int .i64 (H:Int)),(5,.pointer (some ⟨j,0,none⟩)),(6,.pointer (some ⟨b6,0,none⟩)),(33,.int .i64 (N:Int)),(34,.int .i64 (g:Int))])
  (fun g m=>g<=N/\Kp [o] w8 m/\aG m o (.cells (flat (iT M g)).toArray 47))
  (fun g=>N-g) 0 ⟨Nat.zero_le _,Kp.refl _ _,by rw[rL,a2];exact aF⟩ (aS.of rfl) ?_
 rintro g w9 ⟨hi,s,x⟩
 have a4:=(hS.az (k5.trans Z)).kp s (fun b aT r=>bQ (by have:=hS.QE (by intro r;rw[r] at Y;simp at Y) b aT r;omega))
 have Q:=ae.kp s (bQ (by omega))
 have bm:=aq.kp s (bQ (by omega))
 have l9:=x.lt
 have bv:=Q.lt
 have s9:=s.size
 by_cases bi:g<N
 ·have g1:(g:Int)<(N:Int):=by omega
  have aL:g<(iT M g).length:=by rw[j9 _ _ (by omega)];omega
  have rT:Row w9 j (0+1+0*1) [.slice (some ⟨o,0,none⟩) N N]:=lp Q rfl
  repeat (first|apply ar|refine ul ?_)
  refine bO rfl ?_
  by_cases aO:g<l.length
  ·have g2:(g:Int)<(l.length:Int):=by omega
   obtain⟨ba,aT,rfl,bu⟩:=a4.at aO
   have ad:M[g]'(by omega)=qg l[g]:=by
    subst O
    simp only[DZ]
    rw[getElem_append_left (by rw[length_map];exact aO),getElem_map]
   repeat (first|apply ar|(apply au;rfl;(first|apply aB|apply aE|apply cg|apply dg)<;>first|rfl|exact qf))
   refine bO rfl ?_
   skip
   refine CG.tail mixed 11 [0,1,2,3,4,5,6,7,8,9,10] (by kernel_rfl) ?_
   repeat (apply bW;rfl;rfl;(first|apply ur|apply aB|apply aZ|apply bf|apply aU|apply bR|apply fa)<;>first|rfl|exact zc|assumption|exact wn|apply ai)
   refine aM.call rfl rfl rfl (vs:=[dv l[g]]) (bg.of rfl) (fun aV _ _=>D4 _ aV) ?_
   refine aM.tl (fun wa F _ _=>?_)
   repeat (apply au;rfl;apply fa<;>first|rfl|exact zc)
   refine SG.Ka g aL rfl rfl (ag rfl) (ag rfl) (x.az F) (fun wb an p=>?_)
   rw[<-ad,pk (by omega)] at p
   repeat (first|apply ar|refine wz ?_)
   exact NG.round (g+1) (aS.of rfl) ⟨by omega,(s.trans F.any).trans an,p⟩ (by omega)
  ·have g2:¬(g:Int)<(l.length:Int):=by omega
   have ad:M[g]'(by omega)=iM:=by
    subst O
    simp only[DZ]
    rw[getElem_append_right (by rw[length_map];omega),getElem_replicate]
   repeat (first|apply ar|(apply au;rfl;(first|apply aB|apply aE|apply cg|apply dg)<;>first|rfl|exact qr))
   refine bA rfl ?_
   skip
   refine CG.tail mixed 7 [0,1,2,3,4,5,6] (by kernel_rfl) ?_
   repeat (apply bW;rfl;rfl;(first|apply ur|apply aB|apply aZ|apply bf|apply aU|apply bR)<;>first|rfl|exact zc|assumption|exact wn|apply ai)
   refine aM.tl (fun wa F _ _=>?_)
   repeat (apply au;rfl;apply fa<;>first|rfl|exact zc)
   refine SG.Ka g aL rfl rfl (ag rfl) (ag rfl) (x.az F) (fun wb an p=>?_)
   rw[<-ad,pk (by omega)] at p
   repeat (first|apply ar|refine wz ?_)
   exact NG.round (g+1) (aS.of rfl) ⟨by omega,(s.trans F.any).trans an,p⟩ (by omega)
 ·have g1:¬(g:Int)<(N:Int):=by omega
  have D:g=M.length:=by omega
  rw[D,tL] at x
  repeat (first|apply ar|refine un ?_)
  refine bA rfl ?_
  have p:=x
  rw[<-O] at p
  have kA:Kp [] w w9:=(k5.trans Z).aj s (aW (by omega))
  repeat (first|apply ar|refine qa0 ?_)
  refine CG.loop (X:=Nat×List Value×Nat) (fun q=>[(5,.pointer (some ⟨j,0,none⟩)),(62,.int .i64 (H:Int)),(63,.int .i64 (q.1:Int))])
   (fun q m=>q.1<=H/\Kp [] w m/\q.2.1.length=13/\q.2.1[q.1]?=some (.slice (some ⟨q.2.2,0,none⟩) (2^(H-q.1)) (2^(H-q.1)))/\aG m j (.cells (v::q.2.1).toArray 287)/\aG m q.2.2 (.cells (flat (lvl l H q.1)).toArray 47)/\q.2.2≠j)
   (fun q=>H-q.1) (0,.slice (some ⟨o,0,none⟩) N N::replicate 12 BD,o) ⟨Nat.zero_le _,kA,rfl,by rw[<-hN];rfl,Q,p,show o≠j by omega⟩ (aS.of rfl) ?_
  clear p Q ae aF bm aq x
  rintro⟨d,n,b1⟩ wc ⟨bh,kc,ap,B,A,y,aJ⟩
  simp only at bh ap B A y aJ
  refine CG.to [(5,.pointer (some ⟨j,0,none⟩)),(62,.int .i64 (H:Int)),(63,.int .i64 (d:Int))] (aS.of rfl) ?_
  have bD:=A.lt
  have bz:=y.lt
  by_cases bi:d<H
  ·have g1:(d:Int)<(H:Int):=by omega
   have aw:(d:Int)+1=((d+1:Nat):Int):=by omega
   obtain⟨h,ao⟩:∃h,2^(H-(d+1))=h:=⟨_,rfl⟩
   have hm:2^(H-d)=2*h:=by
    rw[<-ao,show H-d=(H-(d+1))+1 by omega,Nat.pow_succ]
    omega
   have be:2^(H-d)<=2^6:=Nat.pow_le_pow_right (by omega) (by omega)
   have ac:(lvl l H d).length=2^(H-d):=iP (by omega) d (by omega)
   have hU:(lvl l H (d+1)).length=h:=by rw[<-ao];exact iP (by omega) (d+1) (by omega)
   generalize 2^(H-d)=aa at hm be ac B
   have av:lvl l H (d+1)=FM (lvl l H d):=rfl
   generalize a5:lvl l H (d+1)=U at hU av
   generalize lvl l H d=I at ac av y
   have rT:=lp A B
   repeat (first|apply ar|refine ul ?_)
   refine bO rfl ?_
   repeat (first|apply ar|refine ww ?_)
   refine CG.dS mixed 14 [0,1,2,3,4,5,6,7,8,9,10,12,13,11] [11] [] (fun _=>True) (by kernel_rfl) trivial (fun _ _ _ _=>trivial) ?_
   iterate 10 (refine aM.val rfl rfl rfl (by first|((first|apply Ga|apply aB|apply aZ|apply aU|apply bR|apply dp|apply dg)<;>(first|exact rfl|exact Ar.mk (by omega)|assumption|exact wn|fail))|fail) ?_)
   refine aM.val rfl rfl rfl (Qs rfl rfl (Ar.mk (by omega))) ?_
   rw[show(aa:Int)/2=(h:Int) by omega]
   repeat (apply bW;rfl;rfl;(first|apply aU|apply bR)<;>rfl)
   refine aM.HB (enc:=dc) (e:=47) (i:=Tryz.t47) (f:=ty.i47) (c:=h) zd rfl rfl rfl rfl (ag rfl) (ag rfl) rfl rfl rfl ai rfl (by show 8*h<=_;omega) (by simp only[maxLen];omega) (by simp) (fun _ _ _ _=>trivial) (fun _ _ _ _=>trivial) (fun u=>?_)
   refine aM.tl (fun wd V hF _=>?_)
   obtain⟨-,bq,L⟩:=hF
   rw[rH] at L
   have ay:=y.az V
   have bx:=L.lt
   have sd:=V.size
   have C:d+1<n.length:=by omega
   obtain⟨ax,aR⟩:∃ax,n[d+1]?=some ax:=⟨_,getElem?_eq_getElem C⟩
   rw[aw]
   repeat (apply au;rfl;apply Ga<;>first|rfl|exact zc)
   refine SG.cp (v::n.take (d+1)) [ax] (n.drop (d+2)) rfl rfl (ag rfl) (ag rfl) (A.az V) (by
    obtain⟨h3,h4⟩:=List.getElem?_eq_some_iff.1 aR
    subst h4
    simp) rfl rfl (by rw[length_cons,length_take];show min (d+1) n.length+1=0+1+(d+1)*1;omega) rfl (fun we W R=>?_)
   obtain⟨t,G⟩:∃t,t=n.set (d+1) (.slice (some ⟨u,0,none⟩) h h):=⟨_,rfl⟩
   have R:aG we j (.cells (v::t).toArray 287):=by
    rw[G,set_eq_take_append_cons_drop,if_pos C]
    exact R
   have aQ:t.length=13:=by rw[G,length_set];exact ap
   have a8:t[d]?=some (.slice (some ⟨b1,0,none⟩) aa aa):=by rw[G,getElem?_set,if_neg (by omega)];exact B
   have af:t[d+1]?=some (.slice (some ⟨u,0,none⟩) h h):=by rw[G,getElem?_set,if_pos rfl,if_pos C]
   have aX:=ay.kp W (bQ aJ)
   have a0:=L.kp W (bQ (by omega))
   have se:=W.size
   have ke:Kp [] w we:=(kc.trans V).aj W (aW (by omega))
   have bn:=lp R af
   clear rT A y ay L aR G
   repeat (first|apply ar|(apply au;rfl;(first|apply aB|apply aU|apply bR|apply dp)<;>first|rfl|exact zc))
   rw[aw]
   repeat (first|apply ar|(apply au;rfl;(first|apply Ga|apply aB|apply aZ|apply dg)<;>first|rfl|exact zc|assumption|exact wn))
   clear bn
   refine CG.loop (X:=Nat) (fun k=>[(5,.pointer (some ⟨j,0,none⟩)),(8,.int .i64 (d:Int)),(62,.int .i64 (H:Int)),(63,.int .i64 (d:Int)),(88,.int .i64 (h:Int)),(89,.int .i64 (k:Int))])
    (fun k m=>k<=h/\Kp [u] we m/\aG m u (.cells (flat (iT U k)).toArray 47))
    (fun k=>h-k) 0 ⟨Nat.zero_le _,Kp.refl _ _,by rw[rL,hU];exact a0⟩ (aS.of rfl) ?_
   rintro k wf ⟨hk,kf,ab⟩
   have aI:=R.kp kf (bQ (by omega))
   have aY:=aX.kp kf (bQ (by omega))
   by_cases bt:k<h
   ·have g2:(k:Int)<(h:Int):=by omega
    have a7:(iT U k).length=h:=by rw[j9 _ _ (by omega)];exact hU
    have a3:Sl dc 8 wf (some ⟨b1,0,none⟩) I:=Sl.iL (pre:=[]) (post:=[]) (T:=47) ai (by simpa[rH] using aY)
    repeat (first|apply ar|refine ul ?_)
    refine bO rfl ?_
    repeat (first|apply ar|refine us ?_)
    rw[aw]
    refine SG.call rfl rfl rfl (vs:=[.pointer (some ⟨j,0,none⟩),.int .i64 ((d+1:Nat):Int),.int .i64 (k:Int)]) (bg.of rfl) ((BP (L1:=I) (L2:=iT U k) (c1:=aa) (c2:=h) aI aQ (by omega) (by rw[ac];exact a8) (by rw[a7];exact af) a3 ab (by omega) (by omega) (by omega)).mono (fun r wg hh=>?_))
    obtain⟨S,bd,aH⟩:=hh
    refine⟨_,S,?_⟩
    have a6:U[k]'(by omega)=jR (I[2*k]'(by omega)) (I[2*k+1]'(by omega)):=by
     subst av
     exact zU k (by omega) (by omega)
    rw[<-a6,pk (by omega)] at aH
    repeat (first|apply ar|refine wz ?_)
    exact NG.round (k+1) (aS.of rfl) ⟨by omega,kf.trans bd,aH⟩ (by omega)
   ·have g2:¬(k:Int)<(h:Int):=by omega
    have D:k=U.length:=by omega
    rw[D,tL] at ab
    repeat (first|apply ar|refine un ?_)
    refine bA rfl ?_
    repeat (first|apply ar|refine wz ?_)
    refine NG.round (d+1,t,u) (aS.of rfl) ⟨by show d+1<=H;omega,ke.aj kf (aW (by have:=ke.size;omega)),aQ,?_,aI,?_,show u≠j by omega⟩ (by simp only;omega)
    ·simp only
     rw[ao]
     exact af
    ·simp only
     rw[a5]
     exact ab
  ·have g1:¬(d:Int)<(H:Int):=by omega
   have D:d=H:=by omega
   subst D
   repeat (first|apply ar|refine un ?_)
   refine bA rfl ?_
   repeat (first|apply ar|refine ww ?_)
   refine dT (Or.inl rfl) results164 (aD.tmp rfl) (aD.tmp rfl) ?_
   exact⟨j,v,n,b1,rfl,A,ap,⟨J,K,hv.symm⟩,by rw[Nat.sub_self] at B;exact B,y,kc⟩
end
section
attribute [local irreducible] CG NG SG aP aM Row aG aF aQ num dy dH cV cL sF cU bu dX mB eK bG de aJ lF jR nD qg lq iM
theorem yV{w:World}{a:Option Addr}{l:List Dg}(c:Nat)(M:Sl dc 8 w a l)(o:1<=l.length)(p:l.length<=64):dq prog 132 #[.slice a l.length c] w (.tuple #[dv (ku l),.int .i64 0]):=by
 refine bC func132 rfl ntmps132 rfl ?_
 obtain⟨D,X,Y⟩:=Ep o p
 obtain⟨H,i⟩:∃H,nD (l.length-1)=H:=⟨_,rfl⟩
 rw[i] at D X Y
 repeat apply ar
 refine SG.alloc rfl rfl rfl (fun F w1 y N k=>?_)
 repeat (first|apply ar|refine ww ?_)
 refine SG.call rfl rfl rfl (vs:=[.slice a l.length c]) (bg.of rfl) ((A3 c (M.az y) o p).mono (fun ab r n=>?_))
 obtain⟨f,aa,V,b,u,t,ad,⟨a',c',T⟩,v,g,z⟩:=n
 refine⟨_,u,?_⟩
 rw[i] at v g
 have L:(lvl l H H).length=1:=by
  have:=iP (l:=l) (h:=H) D H (Nat.le_refl _)
  rw[Nat.sub_self] at this
  exact this
 obtain⟨x,C⟩:∃x,lvl l H H=[x]:=length_eq_one_iff.1 L
 rw[C] at g
 have I:flat [x]=dc x:=jo x
 rw[I] at g
 have J:ku l=lq x H:=by
  unfold ku
  rw[i,C]
  rfl
 rw[J]
 have U:=y.trans z
 have k:=k.az z
 clear u
 have S:∀W,Kp [] r W->dq prog 165 #[.pointer (some ⟨f,0,none⟩)] W (dv (lq x H)):=fun W Q=>by
  refine bC func165 rfl ntmps165 rfl ?_
  repeat apply ar
  refine SG.alloc rfl rfl rfl (fun G E j O m=>?_)
  have q:=Q.trans j
  repeat (first|apply ar|(apply au;rfl;(first|apply jF|apply aB)<;>rfl))
  refine bA rfl ?_
  repeat (first|apply ar|refine qa0 ?_)
  have n:∀e,Kp [] r e->dq prog 185 #[.pointer (some ⟨f,0,none⟩)] e (.int .i64 (H:Int)):=fun e R=>by
   refine bC func185 rfl ntmps185 rfl ?_
   have Z:Row e f 0 [aa]:=Row.of (t.az R) [] V rfl rfl
   rw[T] at Z
   repeat (first|apply ar|(apply au;rfl;(first|apply aB|apply aE|apply aZ|apply aU|apply bR|apply dg)<;>first|rfl|assumption|exact wn))
   refine SG.ret rfl rfl rfl (vs:=[.int .i64 (l.length:Int)]) (bg.of rfl) (xu l.length o p e) (fun s d=>?_)
   rw[i]
   repeat (first|apply ar|refine wt ?_)
   refine aO (Or.inl rfl) results185 (aD.tmp rfl) ?_
   exact⟨rfl,d⟩
  refine SG.ret rfl rfl rfl (vs:=[.pointer (some ⟨f,0,none⟩)]) (bg.of rfl) (n _ q) (fun s d=>?_)
  have rT:=lp ((t.az q).az d) v
  have rx:Row s b 0 (dc x):=Row.all ((g.az q).az d) rfl
  have ac:H<=12:=by omega
  repeat (first|apply ar|(apply au;rfl;(first|apply Ga|apply aB|apply aE|apply aZ|apply bf|apply aU|apply bR|apply Du)<;>first|rfl|exact zc|assumption|exact wn|apply ai))
  refine SG.ret rfl rfl rfl (vs:=[dv x,.int .i64 (H:Int)]) (bg.of rfl) (C4 x H (by omega) s) (fun w6 B=>?_)
  refine SG.aN (old:=dc zd) (l:=dc (lq x H)) rfl rfl (ag rfl) (ag rfl) ((m.az d).az B) (ai _) (ai _) (bj _) (fun w7 P K=>?_)
  have r7:Row w7 G 0 (dc (lq x H)):=Row.all K rfl
  clear rT rx
  repeat apply ar
  refine aO (Or.inl rfl) results165 (by exact aD.agg rfl rfl (by assumption) (by first|exact ai _|exact nc_length _|exact rc_length _ _ _|exact aT _|exact dl_length _ _ _ _|exact bh _|exact bB _|exact bE _|exact ay _|rfl)) ?_
  exact⟨rfl,((j.trans d).trans B).aj P (aW O)⟩
 repeat (first|apply ar|(apply au;rfl;(first|apply aB|apply aE|apply dd)<;>rfl))
 refine SG.ret rfl rfl rfl (vs:=[.pointer (some ⟨f,0,none⟩)]) (bg.of rfl) (S r (Kp.refl _ _)) (fun w3 A=>?_)
 repeat refine qa0 ?_
 refine SG.aN (old:=dc zd) (l:=dc (lq x H)) rfl rfl (ag rfl) (ag rfl) (k.az A) (ai _) (ai _) (bj _) (fun E j m=>?_)
 have r4:Row E F 0 (dc (lq x H)):=Row.all m rfl
 repeat (first|apply ar|refine wt ?_)
 refine dT (Or.inl rfl) results132 (by first|exact aD.tmp rfl|exact aD.agg rfl rfl (by assumption) (by first|exact ai _|exact nc_length _|exact rc_length _ _ _|exact aT _|exact dl_length _ _ _ _|exact bh _|exact bB _|exact bE _|exact ay _|rfl)) (by first|exact aD.tmp rfl|exact aD.agg rfl rfl (by assumption) (by first|exact ai _|exact nc_length _|exact rc_length _ _ _|exact aT _|exact dl_length _ _ _ _|exact bh _|exact bB _|exact bE _|exact ay _|rfl)) ?_
 exact⟨rfl,(U.trans A).aj j (aW N)⟩
end
section
def sE(b:Bl):Dg:=if b.txs.length=0 then iM else ku (b.txs.map aJ)
def lL(b:Bl):List UInt8:=cU (num b.par)++cU (dE b.ht)++cU (num b.mkr)++cU b.txs.length
def aI(b:Bl):Dg:=dX (mB (lL b++cU (num (sE b)))) [98,108,111,99,107]
noncomputable def nC(b:Bl)(d:Dg):Value:=if bz b=0 then .tuple #[dv d,.int .i64 0] else .tuple #[dv zd,.int .i64 (bz b)]
theorem jE{b:Bl}(h:bz b=0):b.txs.length<=64:=by
 unfold bz at h
 split at h
 ·cases h
 ·split at h
  ·cases h
  ·omega
attribute [local irreducible] CG NG SG aP aM Row aG aF aQ num dy dH cV cL sF cU bu dX mB eK bG de aJ lF jR nD qg lq iM ku bz sE
theorem zG{w:World}{n0:Nat}{x:Bm}(v:x.In n0 w):dq prog 91 #[eL x] w (nC x.b (sE x.b)):=by
 refine bC func91 rfl ntmps91 rfl ?_
 repeat apply ar
 refine SG.box rfl rfl rfl (ag rfl) (fun E N u R g=>?_)
 have g:aG N E (.cells (cR x).toArray 50):=g
 refine SG.alloc rfl rfl rfl (fun d O h S a=>?_)
 have a:aG O d (.cells (dc zd).toArray 47):=a
 have A:=u.trans h
 have o:w.heap.size<=d:=by have:=u.size;omega
 obtain⟨r,-⟩:=bJ (g.az h)
 repeat (first|apply ar|(apply au;rfl;(first|apply aE|apply bf)<;>first|rfl|assumption|exact wn|apply aH))
 refine SG.ret rfl rfl rfl (vs:=[eL x]) (bg.of rfl) (lQ (v.az A)) (fun Y i=>?_)
 have k:=A.trans i
 have a:=a.az i
 clear r
 by_cases f:bz x.b=0
 rotate_left
 ·have m:nC x.b (sE x.b)= .tuple #[dv zd,.int .i64 (bz x.b)]:=by unfold nC;rw[if_neg f]
  rw[m]
  generalize bz x.b=z at f⊢
  repeat (first|apply ar|refine vr ?_)
  refine bO rfl ?_
  repeat apply ar
  refine SG.val rfl rfl rfl rfl (aK rfl KS) ?_
  repeat refine qa0 ?_
  refine SG.aN (l:=dc zd) rfl rfl (ag rfl) (ag rfl) a (ai _) rfl (bj _) (fun p c G=>?_)
  have U:Row p d 0 (dc zd):=Row.all G rfl
  repeat (first|apply ar|refine wt ?_)
  refine dT (Or.inl rfl) results91 (by first|exact aD.tmp rfl|exact aD.agg rfl rfl (by assumption) (by first|exact ai _|exact nc_length _|exact rc_length _ _ _|exact aT _|exact dl_length _ _ _ _|exact bh _|exact bB _|exact bE _|exact ay _|rfl)) (by first|exact aD.tmp rfl|exact aD.agg rfl rfl (by assumption) (by first|exact ai _|exact nc_length _|exact rc_length _ _ _|exact aT _|exact dl_length _ _ _ _|exact bh _|exact bB _|exact bE _|exact ay _|rfl)) ?_
  exact⟨rfl,k.aj c (aW o)⟩
 have m:nC x.b (sE x.b)= .tuple #[dv (sE x.b),.int .i64 0]:=by unfold nC;rw[if_pos f]
 have T:x.xs.length<=64:=by have:=jE f;rwa [show x.b.txs.length=x.xs.length from length_map _] at this
 rw[m,f]
 have Q:(0:Int)=0:=rfl
 obtain⟨-,-,-,-,B⟩:=bJ (g.az (h.trans i))
 by_cases y:x.xs.length=0
 ·have F:(x.xs.length:Int)=0:=by omega
  have n:sE x.b=dX zd [110,111,110,101]:=by
   unfold sE
   rw[if_pos (show x.b.txs.length=0 from(length_map _).trans y)]
   unfold iM
   rfl
  rw[n]
  repeat (first|apply ar|refine vp ?_)
  refine bA rfl ?_
  repeat (first|apply ar|(apply au;rfl;(first|apply aZ|apply aU|apply fE|apply dg)<;>first|rfl|assumption|exact qf|exact wn))
  refine bO rfl ?_
  repeat apply ar
  refine SG.val rfl rfl rfl rfl (aK rfl KS) ?_
  refine SG.ret rfl rfl rfl (vs:=[dv zd,sv [110,111,110,101]]) (bg.of rfl) (iA zd [110,111,110,101] (by decide) _) (fun p c=>?_)
  refine SG.aN (l:=dc (dX zd [110,111,110,101])) rfl rfl (ag rfl) (ag rfl) (a.az c) (ai _) rfl (bj _) (fun C j H=>?_)
  have V:Row C d 0 (dc (dX zd [110,111,110,101])):=Row.all H rfl
  clear B
  repeat (first|apply ar|refine wt ?_)
  refine dT (Or.inl rfl) results91 (by first|exact aD.tmp rfl|exact aD.agg rfl rfl (by assumption) (by first|exact ai _|exact nc_length _|exact rc_length _ _ _|exact aT _|exact dl_length _ _ _ _|exact bh _|exact bB _|exact bE _|exact ay _|rfl)) (by first|exact aD.tmp rfl|exact aD.agg rfl rfl (by assumption) (by first|exact ai _|exact nc_length _|exact rc_length _ _ _|exact aT _|exact dl_length _ _ _ _|exact bh _|exact bB _|exact bE _|exact ay _|rfl)) ?_
  exact⟨rfl,(k.trans c).aj j (aW o)⟩
 ·have F:¬(x.xs.length:Int)=0:=by omega
  have n:sE x.b=ku (x.xs.map (fun x=>aJ x.t)):=by
   unfold sE
   rw[if_neg (show ¬x.b.txs.length=0 from fun e=>y ((length_map _).symm.trans e))]
   congr 1
   exact map_map
  rw[n]
  repeat (first|apply ar|refine vp ?_)
  refine bA rfl ?_
  repeat (first|apply ar|(apply au;rfl;(first|apply aZ|apply aU|apply fE|apply dg)<;>first|rfl|assumption|exact qr|exact wn))
  refine bA rfl ?_
  clear B
  obtain⟨r,-⟩:=bJ (g.az (h.trans i))
  repeat (first|apply ar|refine qa9 ?_)
  refine SG.call rfl rfl rfl (vs:=[eL x]) (bg.of rfl) ((yR (v.az k)).mono (fun e p K=>?_))
  obtain⟨X,s,M,c⟩:=K
  refine⟨_,s,?_⟩
  clear s r
  obtain⟨D,q,rfl,-,J⟩:=Sl.own ai M rfl
  refine SG.ret rfl rfl rfl (vs:=[.slice D (x.xs.map (fun x=>aJ x.t)).length q]) (bg.of rfl) (yV q J (by rw[length_map];omega) (by rw[length_map];omega)) (fun C j=>?_)
  repeat (apply au;rfl;apply dd<;>rfl)
  refine SG.aN (l:=dc (ku (x.xs.map (fun x=>aJ x.t)))) rfl rfl (ag rfl) (ag rfl) ((a.az c).az j) (ai _) rfl (bj _) (fun P L I=>?_)
  have W:Row P d 0 (dc (ku (x.xs.map (fun x=>aJ x.t)))):=Row.all I rfl
  repeat (first|apply ar|refine wt ?_)
  refine dT (Or.inl rfl) results91 (by first|exact aD.tmp rfl|exact aD.agg rfl rfl (by assumption) (by first|exact ai _|exact nc_length _|exact rc_length _ _ _|exact aT _|exact dl_length _ _ _ _|exact bh _|exact bB _|exact bE _|exact ay _|rfl)) (by first|exact aD.tmp rfl|exact aD.agg rfl rfl (by assumption) (by first|exact ai _|exact nc_length _|exact rc_length _ _ _|exact aT _|exact dl_length _ _ _ _|exact bh _|exact bB _|exact bE _|exact ay _|rfl)) ?_
  exact⟨rfl,((k.trans c).trans j).aj L (aW o)⟩
end
section
variable{x:Bm}{n0:Nat}{w:World}
theorem BT(b:Bl):(lL b).length<=44:=by
 have a:=cm (num b.par)
 have c:=cm (dE b.ht)
 have d:=cm (num b.mkr)
 have e:=cm b.txs.length
 simp only[lL,length_append]
 omega
attribute [local irreducible] CG NG SG aP aM Row aG aF aQ num dy dH cV cL sF cU bu dX mB eK bG de aJ lF jR nD qg lq iM ku bz sE
theorem zH(K:x.In n0 w):kr prog 5 iE 1 94 #[eL x] w (lL x.b):=by
 refine bC func94 rfl ntmps94 rfl ?_
 have Q:=K.len
 have R:=cm (num x.par)
 have S:=cm (dE x.ht)
 have T:=cm (num x.mkr)
 have O:=nH x.ht
 have z:lL x.b=cU (num x.par)++cU (dE x.ht)++cU (num x.mkr)++cU x.xs.length:=by
  have:x.b.txs.length=x.xs.length:=length_map _
  unfold lL
  rw[this]
  rfl
 rw[z]
 repeat apply ar
 refine SG.box rfl rfl rfl (ag rfl) (fun t p D P h=>?_)
 have h:aG p t (.cells (cR x).toArray 50):=h
 obtain⟨-,L,k,f,d⟩:=bJ h
 repeat (first|apply ar|(apply au;rfl;(first|apply aE|apply bf|apply aU)<;>first|rfl|assumption|exact wn|apply ai))
 refine SG.ret rfl rfl rfl (vs:=[dv x.par]) (bg.of rfl) (fj x.par p) (fun Y E=>?_)
 refine SG.call rfl rfl rfl (vs:=[.slice none 0 0,.int .u64 (num x.par:Int)]) (bg.of rfl) ((dh (l:=[]) Bs.nil (num x.par) (rk _) (by simp)).mono (fun e Z c=>?_))
 obtain⟨U,a,n,F⟩:=c
 refine⟨_,a,?_⟩
 rw[nil_append] at n
 obtain⟨q,u,rfl,A⟩:=Bs.own n
 have g:=E.trans F
 have k:=k.az g
 have f:=f.az g
 have d:=d.az g
 clear L
 repeat (first|apply ar|(apply au;rfl;(first|apply aB|apply aE|apply aZ|apply aU|apply xX)<;>first|rfl|assumption|exact wn))
 rw[jP]
 refine SG.call rfl rfl rfl (vs:=[.slice q (cU (num x.par)).length u,.int .u64 (dE x.ht:Int)]) (bg.of rfl) ((dh A (dE x.ht) O (by omega)).mono (fun e M c=>?_))
 obtain⟨V,a,H,i⟩:=c
 refine⟨_,a,?_⟩
 obtain⟨r,v,rfl,B⟩:=Bs.own H
 have f:=f.az i
 have d:=d.az i
 clear k
 repeat (first|apply ar|(apply au;rfl;(first|apply aB|apply aE|apply bf|apply aU)<;>first|rfl|assumption|exact wn|apply ai))
 refine SG.ret rfl rfl rfl (vs:=[dv x.mkr]) (bg.of rfl) (fj x.mkr M) (fun w5 j=>?_)
 refine SG.call rfl rfl rfl (vs:=[.slice r (cU (num x.par)++cU (dE x.ht)).length v,.int .u64 (num x.mkr:Int)]) (bg.of rfl) ((dh (B.az j) (num x.mkr) (rk _) (by simp only[length_append];omega)).mono (fun e N c=>?_))
 obtain⟨W,a,I,m⟩:=c
 refine⟨_,a,?_⟩
 obtain⟨s,y,rfl,C⟩:=Bs.own I
 have d:=(d.az j).az m
 clear f
 repeat (first|apply ar|(apply au;rfl;first|(apply Gb<;>(first|rfl|exact zc|assumption|exact wn))|((first|apply aB|apply aE|apply aZ|apply aU|apply dg)<;>(first|rfl|exact zc|assumption|exact wn))))
 refine SG.call rfl rfl rfl (vs:=[.slice s (cU (num x.par)++cU (dE x.ht)++cU (num x.mkr)).length y,.int .u64 (x.xs.length:Int)]) (bg.of rfl) ((dh C x.xs.length (by omega) (by simp only[length_append];omega)).mono (fun e w7 c=>?_))
 obtain⟨X,a,J,G⟩:=c
 refine⟨_,a,?_⟩
 have o:Kp [] w N:=(((D.trans g).trans i).trans j).trans m
 repeat (first|apply ar|refine wt ?_)
 refine aO (Or.inl rfl) results94 (aD.tmp rfl) ?_
 exact⟨_,rfl,c9 J o.size,o.trans G⟩
theorem eP(J:x.In n0 w):dq prog 46 #[eL x] w (nC x.b (aI x.b)):=by
 refine bC func46 rfl ntmps46 rfl ?_
 have af:=BT x.b
 have p1:=cm (num (sE x.b))
 repeat apply ar
 refine SG.box rfl rfl rfl (ag rfl) (fun S w1 F ad i=>?_)
 have i:aG w1 S (.cells (cR x).toArray 50):=i
 refine SG.alloc rfl rfl rfl (fun g w2 u ae a=>?_)
 have a:aG w2 g (.cells (dc zd).toArray 47):=a
 have A:=F.trans u
 have C:w.heap.size<=g:=by have:=F.size;omega
 have l2:=a.lt
 obtain⟨r,-⟩:=bJ (i.az u)
 repeat (first|apply ar|(apply au;rfl;(first|apply aE|apply bf)<;>first|rfl|assumption|exact wn|apply aH))
 refine SG.ret rfl rfl rfl (vs:=[eL x]) (bg.of rfl) (zG (J.az A)) (fun w3 j=>?_)
 have K:=A.trans j
 have a:=a.az j
 have s2:=A.size
 have s3:=j.size
 clear r
 by_cases m:bz x.b=0
 rotate_left
 ·have f:∀d,nC x.b d= .tuple #[dv zd,.int .i64 (bz x.b)]:=fun d=>by unfold nC;rw[if_neg m]
  rw[f,f]
  generalize bz x.b=ak at m⊢
  repeat refine qa7 ?_
  refine SG.alloc rfl rfl rfl (fun B w4 v o n=>?_)
  refine SG.aN (l:=dc zd) rfl rfl (ag rfl) (ag rfl) n (ai _) rfl (bj _) (fun M y D=>?_)
  have c:=v.aj y (aW o)
  have a:=a.az c
  repeat (first|apply ar|refine vr ?_)
  refine bO rfl ?_
  repeat apply ar
  refine SG.val rfl rfl rfl rfl (aK rfl KS) ?_
  repeat refine qa0 ?_
  refine SG.aN (l:=dc zd) rfl rfl (ag rfl) (ag rfl) a (ai _) rfl (bj _) (fun N k V=>?_)
  have r6:Row N g 0 (dc zd):=Row.all V rfl
  repeat (first|apply ar|refine wt ?_)
  refine dT (Or.inl rfl) results46 (by first|exact aD.tmp rfl|exact aD.agg rfl rfl (by assumption) (by first|exact ai _|exact nc_length _|exact rc_length _ _ _|exact aT _|exact dl_length _ _ _ _|exact bh _|exact bB _|exact bE _|exact ay _|rfl)) (by first|exact aD.tmp rfl|exact aD.agg rfl rfl (by assumption) (by first|exact ai _|exact nc_length _|exact rc_length _ _ _|exact aT _|exact dl_length _ _ _ _|exact bh _|exact bB _|exact bE _|exact ay _|rfl)) ?_
  exact⟨rfl,(K.trans c).aj k (aW C)⟩
 have f:∀d,nC x.b d= .tuple #[dv d,.int .i64 0]:=fun d=>by unfold nC;rw[if_pos m]
 rw[f,f]
 repeat refine qa7 ?_
 refine SG.alloc rfl rfl rfl (fun B w4 v o n=>?_)
 refine SG.aN (l:=dc (sE x.b)) rfl rfl (ag rfl) (ag rfl) n (ai _) rfl (bj _) (fun M y D=>?_)
 have c:=v.aj y (aW o)
 have L:=K.trans c
 have a:=a.az c
 have ac:(0:Int)=0:=rfl
 repeat (first|apply ar|refine vp ?_)
 refine bA rfl ?_
 obtain⟨r,-⟩:=bJ (((i.az u).az j).az c)
 have r5:Row M B 0 (dc (sE x.b)):=Row.all D rfl
 repeat apply ar
 refine CG.dS mixed 4 [0,2,3,1] [1] [] (fun _=>True) (by kernel_rfl) trivial (fun _ _ _ _=>trivial) ?_
 repeat (apply bW;rfl;rfl;apply bf<;>first|rfl|assumption|exact wn|apply ai|apply aH)
 refine aM.call rfl rfl rfl (vs:=[dv (sE x.b)]) (bg.of rfl) (fun W _ _=>fj _ W) ?_
 refine aM.kQ (X:=Option Addr×Nat) (vs:=[eL x]) (fun q=> .slice q.1 (lL x.b).length q.2) (fun q W=>Bs W q.1 q.2 (lL x.b)) rfl rfl rfl rfl (bg.of rfl) (fun q W O t h=>h.az t) (fun _ _ _ h=>h) (fun W t _=>(zH ((J.az L).az t)).mono (fun e O s=>?_)) (fun q=>?_)
 ·obtain⟨v',p,ho,aa⟩:=s
  obtain⟨P,T,rfl,hS⟩:=Bs.own ho
  exact⟨(P,T),p,hS,aa⟩
 refine aM.tl (fun N k Z _=>?_)
 clear r r5
 refine SG.call rfl rfl rfl (vs:=[.slice q.1 (lL x.b).length q.2,.int .u64 (num (sE x.b):Int)]) (bg.of rfl) ((dh Z.2 (num (sE x.b)) (rk _) (by omega)).mono (fun e w7 s=>?_))
 obtain⟨v7,p,z,G⟩:=s
 refine⟨_,p,?_⟩
 obtain⟨Q,U,rfl,E⟩:=Bs.own z
 refine SG.ret rfl rfl rfl (vs:=[.slice Q (lL x.b++cU (num (sE x.b))).length U]) (bg.of rfl) (oe E.sl (rb z) (fun R ah e=>cK z R (by subst e;rfl)) (by simp only[length_append];omega) E.len) (fun w8 H=>?_)
 refine SG.ret rfl rfl rfl (vs:=[dv (mB (lL x.b++cU (num (sE x.b)))),sv [98,108,111,99,107]]) (bg.of rfl) (iA _ [98,108,111,99,107] (by decide) w8) (fun w9 I=>?_)
 refine SG.aN (l:=dc (aI x.b)) rfl rfl (ag rfl) (ag rfl) ((((a.az k).az G).az H).az I) (ai _) rfl (bj _) (fun wa ab Y=>?_)
 have ra:Row wa g 0 (dc (aI x.b)):=Row.all Y rfl
 repeat (first|apply ar|refine wt ?_)
 refine dT (Or.inl rfl) results46 (by first|exact aD.tmp rfl|exact aD.agg rfl rfl (by assumption) (by first|exact ai _|exact nc_length _|exact rc_length _ _ _|exact aT _|exact dl_length _ _ _ _|exact bh _|exact bB _|exact bE _|exact ay _|rfl)) (by first|exact aD.tmp rfl|exact aD.agg rfl rfl (by assumption) (by first|exact ai _|exact nc_length _|exact rc_length _ _ _|exact aT _|exact dl_length _ _ _ _|exact bh _|exact bB _|exact bE _|exact ay _|rfl)) ?_
 exact⟨rfl,((((L.trans k).trans G).trans H).trans I).aj ab (aW C)⟩
end
section
noncomputable def iU(b p:Bl):Int:=if bz b≠0 then bz b else if bz p≠0\/b.par≠aI p\/b.ht≠p.ht+1 then 24 else 0
attribute [local irreducible] CG NG SG aP aM Row aG aF aQ num dy dH cV cL sF cU bu dX mB eK bG de aJ lF jR nD qg lq iM ku bz sE aI
theorem qa{w:World}{n0 R:Nat}{x y:Bm}(P:x.In n0 w)(Q:y.In R w)(Y:0<=y.ht/\y.ht<=1099511627776):dq prog 70 #[eL x,eL y] w (.int .i64 (iU x.b y.b)):=by
 refine bN func70 rfl ntmps70 rfl ?_
 repeat apply ar
 refine SG.box rfl rfl rfl (ag rfl) (fun H S O W a=>?_)
 have a:aG S H (.cells (cR x).toArray 50):=a
 refine SG.box rfl rfl rfl (ag rfl) (fun I T D X c=>?_)
 have c:aG T I (.cells (cR y).toArray 50):=c
 have E:=O.trans D
 have a:=a.az D
 obtain⟨r,-⟩:=bJ a
 repeat (first|apply ar|(apply au;rfl;(first|apply aE|apply bf)<;>first|rfl|assumption|exact wn|apply aH))
 refine SG.ret rfl rfl rfl (vs:=[eL x]) (bg.of rfl) (lQ (P.az E)) (fun w3 k=>?_)
 have t:=E.trans k
 clear r
 by_cases i:bz x.b=0
 rotate_left
 ·have f:iU x.b y.b=bz x.b:=by unfold iU;rw[if_pos i]
  rw[f]
  generalize bz x.b=z at i⊢
  repeat (first|apply ar|refine vr ?_)
  refine bO rfl ?_
  repeat (first|apply ar|refine ww ?_)
  refine aO (Or.inl rfl) results70 (aD.tmp rfl) ?_
  exact⟨rfl,t⟩
 have f:iU x.b y.b=if bz y.b≠0\/x.b.par≠aI y.b\/x.b.ht≠y.b.ht+1 then 24 else 0:=by unfold iU;rw[if_neg (fun h=>h i)]
 rw[f,i]
 clear f
 have V:(0:Int)=0:=rfl
 repeat (first|apply ar|refine vp ?_)
 refine bA rfl ?_
 obtain⟨r,-⟩:=bJ (c.az k)
 repeat (first|apply ar|refine qa9 ?_)
 refine SG.ret rfl rfl rfl (vs:=[eL y]) (bg.of rfl) (eP (Q.az t)) (fun w4 p=>?_)
 have F:=t.trans p
 clear r
 have a:=(a.az k).az p
 have c:=(c.az k).az p
 have Z:=a.lt
 have l3:=c.lt
 have g:∀{L:Env} {m:World} {z:Int},(if bz y.b≠0\/x.b.par≠aI y.b\/x.b.ht≠y.b.ht+1 then(24:Int) else 0)=z->Kp [] w m->look L 4=some (.int .i64 z)->NG 34 .ret (bodyPost prog Tryz.f70 (fun e m=>e= .returned (.int .i64 (if bz y.b≠0\/x.b.par≠aI y.b\/x.b.ht≠y.b.ht+1 then 24 else 0))/\Kp [] w m)) L m:=
  fun M N K=>aO (Or.inl rfl) results70 (aD.tmp K) ⟨by rw[M],N⟩
 by_cases j:bz y.b=0
 rotate_left
 ·have n:nC y.b (aI y.b)= .tuple #[dv zd,.int .i64 (bz y.b)]:=by unfold nC;rw[if_neg j]
  rw[n]
  have J:(if bz y.b≠0\/x.b.par≠aI y.b\/x.b.ht≠y.b.ht+1 then(24:Int) else 0)=24:=if_pos (Or.inl j)
  repeat refine qa7 ?_
  refine SG.alloc rfl rfl rfl (fun A U q o d=>?_)
  refine SG.aN (l:=dc zd) rfl rfl (ag rfl) (ag rfl) d (ai _) rfl (bj _) (fun G s d=>?_)
  repeat (first|apply ar|(apply au;rfl;(first|apply aB|apply aE|apply cI|apply du)<;>first|rfl|exact qr)|refine SG.skip rfl rfl ?_)
  refine bO rfl ?_
  repeat (first|apply ar|refine wt ?_)
  exact g J (F.trans (q.aj s (aW o))) rfl
 have n:nC y.b (aI y.b)= .tuple #[dv (aI y.b),.int .i64 0]:=by unfold nC;rw[if_pos j]
 rw[n]
 repeat refine qa7 ?_
 refine SG.alloc rfl rfl rfl (fun A U q o d=>?_)
 refine SG.aN (l:=dc (aI y.b)) rfl rfl (ag rfl) (ag rfl) d (ai _) rfl (bj _) (fun G s d=>?_)
 have u:=q.aj s (aW o)
 have v:=F.trans u
 have q6:Row G A 0 (dc (aI y.b)):=Row.all d rfl
 obtain⟨-,r0,r1,-⟩:=bJ (a.az u)
 obtain⟨-,-,s1,-⟩:=bJ (c.az u)
 have o2:Ar (-9223372036854775808<=y.ht+1/\y.ht+1<=9223372036854775807):=Ar.mk (by omega)
 by_cases B:x.par=aI y.b
 rotate_left
 ·repeat (first|apply ar|(apply au;rfl;(first|apply aB|apply aE|apply bf|apply aU|apply cI|apply du|apply Cp)<;>first|rfl|assumption|exact qf|exact qr|exact wn|apply ai)|refine SG.skip rfl rfl ?_)
  refine bO rfl ?_
  repeat (first|apply ar|refine wt ?_)
  exact g (if_pos (Or.inr (Or.inl B))) v rfl
 by_cases C:x.ht=y.ht+1
 rotate_left
 ·repeat (first|apply ar|(apply au;rfl;(first|apply aB|apply aE|apply aZ|apply bf|apply aU|apply cI|apply du|apply Cp|apply dp)<;>first|rfl|exact zc|assumption|exact qf|exact qr|exact wn|apply ai))
  refine bO rfl ?_
  repeat (first|apply ar|refine wt ?_)
  exact g (if_pos (Or.inr (Or.inr C))) v rfl
 repeat (first|apply ar|(apply au;rfl;(first|apply aB|apply aE|apply aZ|apply bf|apply aU|apply cI|apply du|apply Cp|apply dp)<;>first|rfl|exact zc|assumption|exact qf|exact wn|apply ai))
 refine bA rfl ?_
 repeat (first|apply ar|refine wt ?_)
 exact g (if_neg (fun h=>h.elim (fun h=>h j) (fun h=>h.elim (fun h=>h B) (fun h=>h C)))) v rfl
end
section
variable{w:World}
theorem Bm.In.mono{x:Bm}{n m:Nat}(h:x.In n w)(a:n<=m):x.In m w:=⟨⟨h.tx.sl,h.tx.tg.elim Or.inl (fun g=>Or.inr (fun b d e=>Nat.lt_of_lt_of_le (g b d e) a)),fun y c=>(h.tx.ins y c).mono a⟩,h.len⟩
theorem AO(x:Bm):cR x=(dc x.par++(.int .i64 x.ht::dc x.mkr))++([.slice x.a x.xs.length x.c]++[]):=by simp[cR]
def il:Bm:=⟨zd,0,zd,none,0,[]⟩
attribute [local irreducible] CG NG SG aP aM Row aG aF aQ num dy dH cV cL sF cU bu dX mB eK bG de aJ lF jR nD qg lq iM ku bz sE aI
theorem jx{n0:Nat}{x:Bm}(S:x.In n0 w):Calls prog 57 #[eL x] w (fun m k=>∃y:Bm,y.b=x.b/\m= .returned (eL y)/\y.In 0 k/\Kp [] w k/\∀f g,y.a=some ⟨f,g,none⟩->w.heap.size<=f):=by
 refine bC func57 rfl ntmps57 rfl ?_
 have hl:=S.len
 have hS:=S.tx.sl
 have hI:=S.tx.ins
 clear S
 repeat apply ar
 refine SG.box rfl rfl rfl (ag rfl) (fun r w1 ac aA j=>?_)
 have j:aG w1 r (.cells (cR x).toArray 50):=j
 refine SG.alloc rfl rfl rfl (fun s J Y aC o=>?_)
 have o:aG J s (.cells (cR il).toArray 50):=o
 have l1:=j.lt
 have aK:=o.lt
 have s1:=ac.size
 have j:=j.az Y
 have k1:=ac.trans Y
 obtain⟨-,-,-,-,U⟩:=bJ j
 obtain⟨F,C,E,K,L,d⟩:=x
 simp only at hl hS hI U
 repeat (first|apply ar|(apply au;rfl;(first|apply aZ|apply aU|apply dg)<;>first|rfl|assumption|exact wn))
 refine SG.qx (e:=52) (c:=d.length) rfl rfl rfl (ag rfl) (ag rfl) rfl rfl (by show 80*_<=_;omega) (by simp only[maxLen];omega) (fun f w2 u aF ho=>?_)
 have k2:=k1.trans u
 have U:=U.az u
 have j:=j.az u
 have o:=o.az u
 have l2:=o.lt
 repeat (first|apply ar|refine qa6 ?_)
 refine CG.loop (X:=Nat×Value×List Tm) (fun q=>[(1,.pointer (some ⟨r,0,none⟩)),(2,.pointer (some ⟨s,0,none⟩)),(3,q.2.1),(11,.slice K d.length L),(12,.int .i64 (d.length:Int)),(13,.int .i64 (q.1:Int))])
  (fun q k=>q.1<=d.length/\(Kp [] w k/\aG k r (.cells (cR ⟨F,C,E,K,L,d⟩).toArray 50)/\aG k s (.cells (cR il).toArray 50)/\J.heap.size<=k.heap.size)/\k.ownsRow J.heap.size 52 13 q.2.1 q.2.2.length (bX bV q.2.2)/\q.2.2.length=q.1/\q.2.2.map (·.t)=(d.map (·.t)).take q.1/\∀y∈q.2.2,y.In 0 k)
  (fun q=>d.length-q.1) (0,.slice (some ⟨f,0,none⟩) 0 d.length,[]) ⟨Nat.zero_le _,⟨k2,j,o,u.size⟩,ho,rfl,rfl,fun y H=>(by cases H)⟩ (aS.of rfl) ?_
 clear U
 rintro⟨i,ab,h⟩ w3 ⟨hi,⟨I,N,O,aY⟩,G,aa,T,Z⟩
 simp only at hi G aa T Z
 have aM:=N.lt
 have aP:=O.lt
 have aT:=Y.size
 refine CG.to [(1,.pointer (some ⟨r,0,none⟩)),(2,.pointer (some ⟨s,0,none⟩)),(3,ab),(11,.slice K d.length L),(12,.int .i64 (d.length:Int)),(13,.int .i64 (i:Int))] (aS.of rfl) ?_
 by_cases Q:i<d.length
 ·have g1:(i:Int)<(d.length:Int):=by omega
  obtain⟨ba,g,rfl,av⟩:=(hS.az I).at Q
  repeat (first|apply ar|refine ul ?_)
  refine bO rfl ?_
  repeat (first|apply ar|refine ut ?_)
  refine SG.alloc rfl rfl rfl (fun b5 w5 A am W=>?_)
  refine SG.aN (l:=bV d[i]) rfl rfl (ag rfl) (ag rfl) W (ay _) rfl (bY _) (fun w6 an ah=>?_)
  have af:=A.aj an (aW am)
  obtain⟨q2,-⟩:=aX ah
  clear av
  repeat (first|apply ar|refine qb8 ?_)
  refine SG.call rfl rfl rfl (vs:=[eG d[i]]) (bg.of rfl) ((jg ((hI _ (getElem_mem Q)).az (I.trans af))).mono (fun m w7 hh=>?_))
  obtain⟨y,H,he,aw,ao,-,-⟩:=hh
  refine⟨_,he,?_⟩
  clear he q2
  refine SG.buildSlice rfl rfl rfl rfl (zF y) (fun b7 w8 ad aI ak=>?_)
  have D:=(af.trans ao).trans ad
  have R:=aV G D
  have s2:=u.size
  have s3:=I.size
  have a0:=D.size
  refine SG.jN (enc:=bV) (xs:=h) (ys:=[y]) (base:=J.heap.size) rfl rfl rfl (ag rfl) (ag rfl) rfl rfl rfl rfl ay bY R (gy (enc:=bV) (sz:=13) (x:=y) ay ak) (by simp only[maxLen,length_singleton];omega) (by show(h.length+1)*80<=_;omega) (by omega) (fun v9 w9 B aq aJ=>?_)
  have hO:dD 0 w8 (aR ab):=dD.own R (Nat.zero_le _) (by decide)
  have nO:∀{z:Nat},z<J.heap.size->z∉aR ab:=fun p hm=>by have:=cj R _ (aL hm);omega
  have ap:(h++[y]).length=i+1:=by rw[length_append,aa];rfl
  repeat (first|apply ar|refine us ?_)
  refine NG.round (i+1,v9,h++[y]) (aS.of rfl) ⟨Q,⟨(I.trans D).aj B (ff R k1.size),(N.az D).kp B (nO (by omega)),(O.az D).kp B (nO (by omega)),by have:=B.size;omega⟩,aq,ap,?_,fun z p=>?_⟩ (by simp only;omega)
  ·rw[map_append,map_cons,map_nil,T,H,take_one (fun x:Tm=>x.t) Q]
  ·rcases mem_append.1 p with p|p
   ·exact((Z z p).az D).iD B hO
   ·rw[mem_singleton] at p
    subst p
    exact(aw.az ad).iD B hO
 ·have g1:¬(i:Int)<(d.length:Int):=by omega
  have e8:i=d.length:=by omega
  subst e8
  rw[take_of_length_le (by rw[length_map];exact Nat.le_refl _)] at T
  obtain⟨n,M,rfl,-,al⟩:=Sl.own ay G rfl
  have ax:Ty 52 w3 n h:=Ty.own G
  have V:=fY G
  have ae:h.length=d.length:=aa
  repeat (first|apply ar|refine un ?_)
  refine bA rfl ?_
  repeat (first|apply ar|(apply au;rfl;(first|apply aB|apply aU)<;>rfl))
  rw[ae]
  refine SG.cp (dc F++(.int .i64 C::dc E)) [.slice K d.length L] [] rfl rfl (ag rfl) (ag rfl) N (by rw[toList_toArray];exact AO _) rfl rfl (by simp[ai]) rfl (fun w4 v P=>?_)
  have P:aG w4 r (.cells (cR ⟨F,C,E,n,M,h⟩).toArray 50):=by
   rw[AO]
   rw[<-ae] at P
   exact P
  obtain⟨aQ,-⟩:=bJ P
  have n1:∀f g,n=some ⟨f,g,none⟩->f∉[r]:=fun f g m=>bQ (by have:=V f g m;omega)
  have n2:∀f g,n=some ⟨f,g,none⟩->f∉[s]:=fun f g m=>bQ (by have:=V f g m;omega)
  repeat (first|apply ar|refine qa9 ?_)
  refine SG.aN (l:=cR ⟨F,C,E,n,M,h⟩) rfl rfl (ag rfl) (ag rfl) (O.kp v (bQ (by omega))) (aH _) rfl (dB _) (fun w5 A W=>?_)
  have r5:Row w5 s 0 (cR ⟨F,C,E,n,M,h⟩):=Row.all W rfl
  repeat apply ar
  refine aO (Or.inl rfl) results57 (aD.agg rfl rfl r5 (aH _)) ?_
  refine⟨⟨F,C,E,n,M,h⟩,?_,rfl,⟨⟨(al.kp v n1).kp A n2,Or.inl ((ax.kp v (fun _=>n1)).kp A (fun _=>n2)),fun y H=>((Z y H).iD v (rh N (by decide))).iD A (rh (O.kp v (bQ (by omega))) (by decide))⟩,by show h.length<=_;omega⟩,(I.aj v (aW (by omega))).aj A (aW (by omega)),fun f g m=>by have h1:=V f g m;have h2:=k1.size;omega⟩
  unfold Bm.b
  simp only[T]
end
section
def bZ(s:List UInt8):Bm:=⟨zd,0,mB s,none,0,[]⟩
theorem K6(w:World)(a b c d e f g h:UInt8):(Instr.build 50 #[(2,.agg #[bv a,bv b,bv c,bv d,bv e,bv f,bv g,bv h])]).run prog w=
  .ok (.agg #[bv 0,bv 0,bv 0,bv 0,bv 0,bv 0,bv 0,bv 0,.int .i64 0,bv a,bv b,bv c,bv d,bv e,bv f,bv g,bv h,.slice none 0 0]) w:=by kernel_rfl
theorem RU(w:World)(d:Dg):(Instr.build 50 #[(2,dv d)]).run prog w= .ok (eL ⟨zd,0,d,none,0,[]⟩) w:=by
 obtain⟨k,j⟩:=d
 match k,j with
 |[a,b,c,e,f,g,h,i],_=>exact K6 w a b c e f g h i
theorem mj(s:List UInt8)(n:Nat)(w:World):(bZ s).In n w:=⟨⟨Sl.nil,Or.inl (fun h=>absurd rfl h),fun y a=>(by cases a)⟩,by show 0<=_;omega⟩
attribute [local irreducible] CG NG SG aP aM Row aG aF aQ num dy dH cV cL sF cU bu dX mB eK bG de aJ lF jR nD qg lq iM ku bz sE aI
theorem rI(s:List UInt8)(u:s.length<=1000)(w:World):dq prog 76 #[sv s] w (eL (bZ s)):=by
 refine bC func76 rfl ntmps76 rfl ?_
 repeat apply ar
 refine SG.alloc rfl rfl rfl (fun a q m j d=>?_)
 have d:aG q a (.cells (cR il).toArray 50):=d
 repeat (first|apply ar|refine qa0 ?_)
 refine SG.JY rfl rfl rfl rfl (fun b c x f t k o i=>?_)
 refine SG.ret rfl rfl rfl (vs:=[.slice (some ⟨b,0,none⟩) s.length c]) (bg.of rfl) (oe i (Or.inr ⟨_,_,rfl⟩) (fun a v e=>by cases e;exact o) (by omega) k) (fun y g=>?_)
 refine SG.val rfl rfl rfl rfl (aK rfl (fun W=>RU W (mB s))) ?_
 refine SG.aN (l:=cR (bZ s)) rfl rfl (ag rfl) (ag rfl) ((d.az f).az g) (aH _) rfl (dB _) (fun r n h=>?_)
 have p:Row r a 0 (cR (bZ s)):=Row.all h rfl
 repeat apply ar
 refine aO (Or.inl rfl) results76 (aD.agg rfl rfl p (aH _)) ?_
 exact⟨rfl,((m.trans f).trans g).aj n (aW j)⟩
end
section
variable{b:Nat}{w:World}
structure Tl where
 n:Nat
 log:Dg
def Hr(t:Tl):List Value:= .int .i64 (t.n:Int)::dc t.log
abbrev gp(w:World)(b:Nat)(t:Tl):Prop:=aG w b (.cells (Hr t).toArray 76)
def uE:Dg:=⟨[200,0,0,0,0,0,0,0],rfl⟩
theorem K5(w:World):(Instr.build 47 #[(0,.int .u8 200)]).run prog w= .ok (dv uE) w:=by kernel_rfl
theorem lZ{t:Tl}(h:gp w b t):Row w b 0 [.int .i64 (t.n:Int)]/\Row w b 1 (dc t.log):=⟨Row.of h [] (dc t.log) rfl rfl,Row.of h [.int .i64 (t.n:Int)] [] (by simp[Hr]) rfl⟩
theorem RF(w:World)(n:Int)(a b c d e f g h:UInt8):(Instr.build 76 #[(0,.int .i64 n),(1,.agg #[bv a,bv b,bv c,bv d,bv e,bv f,bv g,bv h])]).run prog w= .ok (.agg #[.int .i64 n,bv a,bv b,bv c,bv d,bv e,bv f,bv g,bv h]) w:=by kernel_rfl
theorem Tf(w:World)(t:Tl):(Instr.build 76 #[(0,.int .i64 (t.n:Int)),(1,dv t.log)]).run prog w= .ok (.agg (Hr t).toArray) w:=by
 obtain⟨k,⟨j,i⟩⟩:=t
 match j,i with
 |[a,b,c,d,e,f,g,h],_=>exact RF w k a b c d e f g h
attribute [local irreducible] CG NG SG aP aM Row aG aF aQ num dy dH cV cL sF cU bu dX mB eK bG de aJ lF jR
theorem BO(w:World):dq prog 171 #[] w (dv uE):=by
 refine zt func171 rfl ntmps171 ?_
 repeat apply ar
 refine SG.alloc rfl rfl rfl (fun a h e d c=>?_)
 repeat apply ar
 refine SG.val rfl rfl rfl rfl (aK rfl K5) ?_
 refine SG.aN (old:=dc zd) (l:=dc uE) rfl rfl (ag rfl) (ag rfl) c (ai _) (ai _) (bj _) (fun g f b=>?_)
 have r:Row g a 0 (dc uE):=Row.all b rfl
 repeat apply ar
 refine aO (Or.inl rfl) results171 (by exact aD.agg rfl rfl (by assumption) (by first|exact ai _|exact nc_length _|exact rc_length _ _ _|exact aT _|exact dl_length _ _ _ _|exact bh _|exact bB _|exact bE _|exact ay _|rfl)) ?_
 exact⟨rfl,e.aj f (aW d)⟩
theorem ir{t:Tl}(g:gp w b t):Calls prog 250 #[.pointer (some ⟨b,0,none⟩)] w (fun e d=>∃a,e= .returned (.iface 74 (.pointer (some ⟨a,0,none⟩)))/\w.heap.size<=a/\gp d a t/\Kp [] w d):=by
 refine bC func250 rfl ntmps250 rfl ?_
 obtain⟨j,k⟩:=lZ g
 repeat (first|apply ar|refine wt ?_)
 refine CG.tail mixed 8 [0,1,2,3,4,5,6,7] (by kernel_rfl) ?_
 repeat (apply bW;rfl;rfl;(first|apply aB|apply aZ|apply bf|apply aU|apply bR)<;>first|rfl|assumption|exact wn|apply ai)
 refine aM.tl (fun l c _ _=>?_)
 refine SG.val rfl rfl rfl rfl (aK rfl (fun W=>Tf W t)) ?_
 refine SG.box rfl rfl rfl (ag rfl) (fun a m i h f=>?_)
 refine SG.val rfl rfl rfl rfl (vS (hu:=ty.Sg) rfl rfl) ?_
 repeat (first|apply ar|refine wt ?_)
 refine aO (Or.inl rfl) results250 (aD.tmp rfl) ?_
 exact⟨a,rfl,Nat.le_trans c.size h,f,c.trans i⟩
end
section
variable{b:Nat}{w:World}
theorem RL(w:World)(a0 a b c d e f g h i j k l m n o c0 c1 c2 p q r s t u d1 v x y z A B e0 C D E F G H I:UInt8):(Instr.buildSlice 93 5 #[(0,.agg #[bv a0,bv a,bv b,bv c,bv d,bv e,bv f,bv g]),(1,.agg #[bv h,bv i,bv j,bv k,bv l,bv m,bv n,bv o]),(2,.agg #[bv c0,bv c1,bv c2,bv p,bv q,bv r,bv s,bv t]),(3,.agg #[bv u,bv d1,bv v,bv x,bv y,bv z,bv A,bv B]),(4,.agg #[bv e0,bv C,bv D,bv E,bv F,bv G,bv H,bv I])]).run prog w= .ok (.slice (some ⟨w.heap.size,0,none⟩) 5 5) {w with heap:=w.heap.push (.cells #[bv a0,bv a,bv b,bv c,bv d,bv e,bv f,bv g,bv h,bv i,bv j,bv k,bv l,bv m,bv n,bv o,bv c0,bv c1,bv c2,bv p,bv q,bv r,bv s,bv t,bv u,bv d1,bv v,bv x,bv y,bv z,bv A,bv B,bv e0,bv C,bv D,bv E,bv F,bv G,bv H,bv I] 47)}:=by kernel_rfl
theorem VO(a b c d e:Dg)(w:World):(Instr.buildSlice 93 5 #[(0,dv a),(1,dv b),(2,dv c),(3,dv d),(4,dv e)]).run prog w= .ok (.slice (some ⟨w.heap.size,0,none⟩) 5 5) {w with heap:=w.heap.push (.cells (flat [a,b,c,d,e]).toArray 47)}:=by
 obtain⟨a,T⟩:=a
 obtain⟨b,U⟩:=b
 obtain⟨c,V⟩:=c
 obtain⟨d,W⟩:=d
 obtain⟨e,X⟩:=e
 match a,T,b,U,c,V,d,W,e,X with
 |[f,g,h,i,j,k,l,m],_,[n,o,p,q,r,s,t,u],_,[v,x,y,z,A,B,C,D],_,[E,d1,F,G,H,I,J,K],_,[L,M,N,O,P,Q,R,S],_=>exact RL w f g h i j k l m n o p q r s t u v x y z A B C D E d1 F G H I J K L M N O P Q R S
def vJ(m:Bk)(f:Dg)(l:List UInt8):Int:=match l with
 |[]=>3
 |u::_=>if ky m f (u.toNat:Int)≠0 then ky m f (u.toNat:Int) else if u=13 then 10 else 0
def Fs(t:Tl)(h:Int)(f:Dg)(k:Int)(l:List UInt8):Tl:=match l with
 |[]=>t
 |_=>⟨t.n+1,tB [t.log,f,frm (dE h),frm (dE k),mB l]⟩
def FX(m:Bk)(f:Dg)(l:List UInt8):Bk:=match l with
 |[]=>m
 |u::_=>mC m f uE (u.toNat:Int)
theorem Af{a d:Type}{enc:a->Value}{V:d->Value}{m:List (a×d)}{pm off:Nat}{l:List Value}(j:Row w b off l)(i:aF w pm enc V m):b≠pm:=fun e=>by
 subst e
 obtain⟨k,T,f,g,-⟩:=j
 obtain⟨n,c,h,-⟩:=i
 have:=aG.uniq h g
 cases this
attribute [local irreducible] CG NG SG aP aM Row aG aF aQ num dy dH cV cL sF cU bu dX mB eK bG de aJ lF jR tB frm ky mC
theorem sU{j p:Nat}{t:Tl}{m:Bk}(r:gp w b t)(o:bS w j p m)(hg:Good m)(ht:t.n<=1000000){a:Option Addr}{c:Nat}{l:List UInt8}(hS:Bs w a c l)(hl:l.length<=10000000)(aa:l≠[]->∀z g,a=some ⟨z,g,none⟩->z≠b)(h k:Int)(f:Dg):
  Calls prog 138 #[.pointer (some ⟨b,0,none⟩),.int .i64 h,dv f,.int .i64 k,.slice a l.length c,.pointer (some ⟨j,0,none⟩)] w (fun e U=>e= .returned (.int .i64 (vJ m f l))/\gp U b (Fs t h f k l)/\bS U j p (FX m f l)/\Kp [b,p] w U):=by
 refine fC (args:=[.pointer (some ⟨b,0,none⟩),.int .i64 h,dv f,.int .i64 k,.slice a l.length c,.pointer (some ⟨j,0,none⟩)]) func138 rfl ntmps138 rfl ?_
 have lb:=r.lt
 have aj:=o.blk.lt
 have lm:=o.map.lt
 repeat apply ar
 refine SG.box rfl rfl rfl (ag rfl) (fun b8 w1 d ah X=>?_)
 have A:Row w1 b8 0 (dc f):=Row.all X rfl
 have l8:=X.lt
 cases l with
 |nil=>
  have h0:(([]:List UInt8).length:Int)=0:=rfl
  repeat (first|apply ar|(apply au;rfl;(first|apply aB|apply aE|apply fE|apply dg)<;>first|rfl|exact qf))
  refine bO rfl ?_
  repeat (first|apply ar|refine wt ?_)
  refine aO (Or.inl rfl) results138 (aD.tmp rfl) ?_
  exact⟨rfl,r.az d,⟨o.blk.az d,o.map.az d⟩,d.any⟩
 |cons u l=>
  have h0:¬((u::l).length:Int)=0:=by simp only[length_cons];omega
  repeat (first|apply ar|(apply au;rfl;(first|apply aB|apply aE|apply fE|apply dg)<;>first|rfl|exact qr))
  refine bA rfl ?_
  obtain⟨r0,-⟩:=lZ (r.az d)
  repeat (first|apply ar|(apply au;rfl;(first|apply aB|apply aZ|apply aU|apply bR|apply dp)<;>first|rfl|exact zc|assumption|exact wn))
  refine SG.cp [] [.int .i64 (t.n:Int)] (dc t.log) rfl rfl (ag rfl) (ag rfl) (r.az d) rfl rfl rfl rfl rfl (fun w2 s D=>?_)
  clear r0
  have D:gp w2 b ⟨t.n+1,t.log⟩:=D
  obtain⟨-,r1⟩:=lZ D
  have A:=A.kp s (bQ (by omega))
  have v:=(hS.az d).QG s (fun Q z g e=>bQ (aa Q z g e))
  have ac:j≠b:=fun e=>by
   subst e
   have:=aG.uniq r o.blk
   simp only[Obj.cells.injEq] at this
   exact absurd this.2.1 (by decide)
  have S:p≠b:=cJ r o.map
  have V:bS w2 j p m:=⟨(o.blk.az d).kp s (bQ ac),(o.map.az d).kp s (bQ S)⟩
  have s1:=d.size
  have s2:=s.size
  repeat apply ar
  refine CG.dS mixed 16 [0,1,2,3,4,5,6,7,8,9,10,11,12,13,14,15] [14] [] (fun _=>True) (by kernel_rfl) trivial (fun _ _ _ _=>trivial) ?_
  repeat (apply bW;rfl;rfl;(first|apply aB|apply bf|apply aU|apply bR|apply xX)<;>first|rfl|assumption|exact wn|apply ai)
  rw[jP]
  refine aM.call rfl rfl rfl (vs:=[.int .u64 (dE h:Int)]) (bg.of rfl) (fun W _ _=>mi (dE h) W) ?_
  repeat (apply bW;rfl;rfl;(first|apply aB|apply xX)<;>rfl)
  rw[jP]
  refine aM.call rfl rfl rfl (vs:=[.int .u64 (dE k:Int)]) (bg.of rfl) (fun W _ _=>mi (dE k) W) ?_
  repeat (apply bW;rfl;rfl;apply aB<;>rfl)
  refine aM.call rfl rfl rfl (vs:=[.slice a (u::l).length c]) (bg.of rfl) (fun W O _=>oe (v.az O).sl (v.some.elim Or.inl (fun h=>h.elim Or.inr (fun h=>absurd h.1 (by simp)))) (fun z g e=>(v.az O).lt (by simp) z g e) (by omega) v.len) ?_
  refine aM.lP (cs:=(flat [t.log,f,frm (dE h),frm (dE k),mB (u::l)]).toArray) (E:=47) rfl rfl rfl rfl rfl (fun W=>VO _ _ _ _ _ W) (by simp) (fun _ _ _ _=>trivial) (fun _ _ _ _=>trivial) (fun bn=>?_)
  refine aM.call rfl rfl rfl (vs:=[.slice (some ⟨bn,0,none⟩) 5 5]) (bg.of rfl) (fun W O Y=>BH (l:=[t.log,f,frm (dE h),frm (dE k),mB (u::l)]) 5 (Sl.iL (pre:=[]) (post:=[]) (T:=47) ai (by rw[append_nil,nil_append];exact Y.2.2)) (fun z g e=>by cases e;exact Y.2.2.lt) (by simp)) ?_
  refine aM.tl (fun w3 q _ _=>?_)
  clear r1
  repeat (apply au;rfl;(first|apply aU|apply bR)<;>rfl)
  refine SG.cp [.int .i64 ((t.n+1:Nat):Int)] (dc t.log) [] rfl rfl (ag rfl) (ag rfl) (D.az q) (by simp[Hr]) (by exact ai _) (ai _) rfl (by exact bj _) (fun H x M=>?_)
  obtain⟨G,ab⟩:∃G,Fs t h f k (u::l)=G:=⟨_,rfl⟩
  have M:gp H b G:=by
   rw[<-ab]
   have e:Hr (Fs t h f k (u::l))=[.int .i64 ((t.n+1:Nat):Int)]++(dc (tB [t.log,f,frm (dE h),frm (dE k),mB (u::l)])++[]):=by simp[Hr,Fs]
   show aG _ _ _
   rw[e]
   exact M
  rw[ab]
  have s3:=q.size
  have K:bS H j p m:=⟨(V.blk.az q).kp x (bQ ac),(V.map.az q).kp x (bQ S)⟩
  have A:=(A.az q).kp x (bQ (by omega))
  have ae:=(v.az q).QG x (fun Q z g e=>bQ (aa Q z g e))
  have k4:Kp [b] w H:=((d.any.trans s).trans q.any).trans x
  obtain⟨za,g,ea,B⟩:=ae.sl.at (i:=0) (by simp)
  have B:Row H za g [bv u]:=by simpa using B
  cases ea
  have hu:=u.toNat_lt
  repeat apply ar
  refine CG.tail mixed 7 [0,1,2,3,4,5,6] (by kernel_rfl) ?_
  repeat (apply bW;rfl;rfl;(first|apply aB|apply bf)<;>first|rfl|assumption|exact wn|apply ai)
  refine aM.call rfl rfl rfl (vs:=[]) True.intro (fun W _ _=>BO W) ?_
  repeat (apply bW;rfl;rfl;(first|apply Fw|apply aB|apply aZ|apply Du)<;>first|rfl|exact zc|assumption|exact wn)
  refine aM.tl (fun w5 y _ _=>?_)
  refine SG.call rfl rfl rfl (vs:=[.pointer (some ⟨j,0,none⟩),dv f,dv uE,.int .i64 (u.toNat:Int)]) (bg.of rfl) ((iV ⟨K.blk.az y,K.map.az y⟩ hg f uE (u.toNat:Int)).mono (fun e w6 hh=>?_))
  obtain⟨Z,L,P⟩:=hh
  refine⟨_,Z,?_⟩
  have B:=(B.az y).kp P (bQ (Af B K.map))
  have N:gp w6 b G:=(M.az y).kp P (bQ (fun e=>S e.symm))
  have R:Kp [b,p] w w6:=((k4.trans y.any).mono (fun z F=>by rw[mem_singleton] at F;rw[F];exact mem_cons_self)).trans (P.mono (fun z F=>mem_cons_of_mem _ F))
  clear A Z
  have eM:FX m f (u::l)=mC m f uE (u.toNat:Int):=rfl
  rw[eM]
  by_cases C:ky m f (u.toNat:Int)=0
  rotate_left
  ·have I:vJ m f (u::l)=ky m f (u.toNat:Int):=if_pos C
   rw[I]
   generalize ky m f (u.toNat:Int)=z at C⊢
   repeat (first|apply ar|refine vr ?_)
   refine bO rfl ?_
   repeat (first|apply ar|refine ww ?_)
   refine aO (Or.inl rfl) results138 (aD.tmp rfl) ?_
   exact⟨rfl,N,L,R⟩
  have I:vJ m f (u::l)=if u=13 then 10 else 0:=if_neg (fun h=>h C)
  rw[I,C]
  have af:(0:Int)=0:=rfl
  repeat (first|apply ar|refine vp ?_)
  refine bA rfl ?_
  by_cases J:u=13
  ·subst J
   have ad:((13:UInt8).toNat:Int)=13:=rfl
   rw[if_pos rfl]
   repeat (first|apply ar|(apply au;rfl;(first|apply aB|apply aZ|apply Du|apply fE)<;>first|rfl|exact zc|assumption|exact qf|exact wn))
   refine bO rfl ?_
   repeat (first|apply ar|refine wt ?_)
   refine aO (Or.inl rfl) results138 (aD.tmp rfl) ?_
   exact⟨rfl,N,L,R⟩
  ·have ad:¬(u.toNat:Int)=13:=fun e=>J (by
    apply UInt8.toNat.inj
    show u.toNat=13
    omega)
   rw[if_neg J]
   repeat (first|apply ar|(apply au;rfl;(first|apply aB|apply aZ|apply Du|apply fE)<;>first|rfl|exact zc|assumption|exact qr|exact wn))
   refine bA rfl ?_
   repeat (first|apply ar|refine wt ?_)
   refine aO (Or.inl rfl) results138 (aD.tmp rfl) ?_
   exact⟨rfl,N,L,R⟩
end
section
variable{b bk tb:Nat}{a:Value}{w:World}
def tV(bk tb:Nat)(a:Value):List Value:=[.pointer (some ⟨bk,0,none⟩),.iface 74 (.pointer (some ⟨tb,0,none⟩)),a]
def FC(bk tb:Nat)(a:Value):Value:= .agg (tV bk tb a).toArray
def I7(bk tb:Nat)(a:Value)(ps:List Value):List Value:= .pointer (some ⟨bk,0,none⟩):: .iface 74 (.pointer (some ⟨tb,0,none⟩))::a::ps
theorem ic{c:List Value}{T:TypeId}(h:aG w b (.cells (I7 bk tb a c).toArray T)):Row w b 0 [.pointer (some ⟨bk,0,none⟩)]/\Row w b 1 [.iface 74 (.pointer (some ⟨tb,0,none⟩))]/\Row w b 2 [a]:=
 ⟨Row.of h [] (.iface 74 (.pointer (some ⟨tb,0,none⟩))::a::c) rfl rfl,Row.of h [.pointer (some ⟨bk,0,none⟩)] (a::c) rfl rfl,Row.of h [.pointer (some ⟨bk,0,none⟩),.iface 74 (.pointer (some ⟨tb,0,none⟩))] c rfl rfl⟩
theorem Tn(bk tb:Nat)(w:World):(Instr.build 116 #[(0,.pointer (some ⟨bk,0,none⟩)),(1,.iface 74 (.pointer (some ⟨tb,0,none⟩)))]).run prog w= .ok (FC bk tb (.slice none 0 0)) w:=by kernel_rfl
theorem AP(h:aG w b (.cells (tV bk tb a).toArray 116)):Row w b 0 [.pointer (some ⟨bk,0,none⟩)]/\Row w b 1 [.iface 74 (.pointer (some ⟨tb,0,none⟩))]/\Row w b 2 [a]:=
 ⟨Row.of h [] [.iface 74 (.pointer (some ⟨tb,0,none⟩)),a] rfl rfl,Row.of h [.pointer (some ⟨bk,0,none⟩)] [a] rfl rfl,Row.of h [.pointer (some ⟨bk,0,none⟩),.iface 74 (.pointer (some ⟨tb,0,none⟩))] [] rfl rfl⟩
attribute [local irreducible] CG NG SG aP aM Row aG aF aQ
theorem tw{I:Nat}{m:Bk}{t:Tl}{v:Value}(K:bS w bk I m)(O:gp w tb t):
  Calls prog 71 #[FC bk tb v] w (fun e x=>∃i d a b,e= .returned (FC i a (.slice none 0 0))/\bS x i d b/\b.Perm m/\gp x a t/\w.heap.size<=i/\w.heap.size<=d/\w.heap.size<=a/\Kp [] w x):=by
 refine bC func71 rfl ntmps71 rfl ?_
 repeat apply ar
 refine SG.box rfl rfl rfl (ag rfl) (fun H V D Z o=>?_)
 have o:aG V H (.cells (tV bk tb v).toArray 116):=o
 refine SG.alloc rfl rfl rfl (fun A y s aa B=>?_)
 have E:=D.trans s
 have s1:=D.size
 have s2:=s.size
 obtain⟨S,T,-⟩:=AP (o.az s)
 repeat apply ar
 refine CG.dS mixed 5 [0,1,3,4,2] [2] [] (fun _=>True) (by kernel_rfl) trivial (fun _ _ _ _=>trivial) ?_
 repeat (apply bW;rfl;rfl;(first|apply aZ|apply aU)<;>first|rfl|assumption|exact wn)
 refine aM.kQ (X:=Nat×Nat×{b:Bk//b.Perm m}) (vs:=[.pointer (some ⟨bk,0,none⟩)]) (fun q=> .pointer (some ⟨q.1,0,none⟩)) (fun q W=>bS W q.1 q.2.1 q.2.2.1/\y.heap.size<=q.1/\y.heap.size<=q.2.1) rfl rfl rfl rfl (bg.of rfl) (fun q W G c h=>⟨h.1.az c,h.2⟩) (fun _ _ _ h=>h) (fun W c _=>(gn ((K.az E).az c)).mono (fun e G r=>?_)) (fun q=>?_)
 ·obtain⟨J,d,b,p,L,R,j,k,Q⟩:=r
  exact⟨(J,d,⟨b,R⟩),p,⟨L,Nat.le_trans c.size j,Nat.le_trans c.size k⟩,Q⟩
 refine aM.tl (fun w3 u N _=>?_)
 obtain⟨-,C,j,k⟩:=N
 have F:=E.trans u
 refine SG.AM (t:=74) (v:= .pointer (some ⟨tb,0,none⟩)) rfl rfl rfl (vs:=[]) (ag rfl) True.intro ((ir (O.az F)).mono (fun e w4 r=>?_))
 obtain⟨a,p,ab,P,f⟩:=r
 refine⟨_,p,?_⟩
 have s3:=u.size
 refine SG.val rfl rfl rfl rfl (aK rfl (Tn q.1 a)) ?_
 refine SG.aN (l:=tV q.1 a (.slice none 0 0)) rfl rfl (ag rfl) (ag rfl) ((B.az u).az f) rfl rfl rfl (fun Y g M=>?_)
 have U:Row Y A 0 (tV q.1 a (.slice none 0 0)):=Row.all M rfl
 have l2:=B.lt
 clear S T
 repeat apply ar
 refine aO (Or.inl rfl) results71 (aD.agg rfl rfl U rfl) ?_
 have n:∀{z:Nat},y.heap.size<=z->z∉[A]:=fun h=>bQ (by omega)
 exact⟨q.1,q.2.1,a,q.2.2.1,rfl,⟨(C.blk.az f).kp g (n j),(C.map.az f).kp g (n k)⟩,q.2.2.2,P.kp g (n (by omega)),by omega,by omega,by omega,(F.trans f).aj g (aW (by omega))⟩
end
section
def E5(m:Bk)(t:Tx):Bool:=decide ((cC m t.frm).nonce=t.non)&&decide (t.fee<=(cC m t.frm).money)
attribute [local irreducible] CG NG SG aP aM Row aG aF aQ
theorem zI{w:World}{h bk p tb:Nat}{m:Bk}{v:Value}(s:aG w h (.cells (tV bk tb v).toArray 116))(q:bS w bk p m)(x:Tm):
  dq prog 81 #[.pointer (some ⟨h,0,none⟩),eG x] w (.bool (E5 m x.t)):=by
 refine bN func81 rfl ntmps81 rfl ?_
 repeat apply ar
 refine SG.box rfl rfl rfl (ag rfl) (fun o z d A c=>?_)
 have c:aG z o (.cells (bV x).toArray 52):=c
 obtain⟨-,u,l,n,-⟩:=aX c
 obtain⟨y,-⟩:=AP (s.az d)
 repeat (first|apply ar|refine wt ?_)
 refine CG.fA mixed [0,1,2,3,4,5,6] [(7,8,5,.tmp 12)] (by kernel_rfl) (by kernel_rfl) ?_
 repeat (apply bW;rfl;rfl;(first|apply aB|apply aZ|apply bf|apply aU|apply bR)<;>first|rfl|assumption|exact wn|apply ai)
 refine aM.call rfl rfl rfl (vs:=[.pointer (some ⟨bk,0,none⟩),dv x.t.frm]) (bg.of rfl) (fun W r _=>lR ((q.az d).az r) x.t.frm) ?_
 refine aM.one (fq.of (by rfl) rfl rfl rfl (ag rfl) (by exact bh _) (by rfl) (by exact oM _)) (fun b g e B a=>?_)
 have a:aG g b (.cells (acl (oN x.t.frm (cC m x.t.frm))).toArray 59):=a
 have i:acl (oN x.t.frm (cC m x.t.frm))=dc x.t.frm++[.int .i64 (cC m x.t.frm).money,.int .i64 (cC m x.t.frm).nonce]:=rfl
 have C:Row g b 8 [.int .i64 (cC m x.t.frm).money]:=Row.of a (dc x.t.frm) [.int .i64 (cC m x.t.frm).nonce] (by simp[i]) (ai _)
 have D:Row g b 9 [.int .i64 (cC m x.t.frm).nonce]:=Row.of a (dc x.t.frm++[.int .i64 (cC m x.t.frm).money]) [] (by simp[i]) (by simp[ai])
 have l:=l.az e
 have n:=n.az e
 have f:=d.trans e
 clear u y
 unfold E5
 by_cases j:(cC m x.t.frm).nonce=x.t.non
 rotate_left
 ·rw[decide_eq_false j]
  repeat (first|apply ar|(apply au;rfl;(first|apply aB|apply aE|apply aZ|apply aU|apply cI|apply fE)<;>first|rfl|assumption|exact qr|exact wn)|refine SG.skip rfl rfl ?_)
  refine aO (Or.inl rfl) results81 (aD.tmp rfl) ?_
  exact⟨rfl,f⟩
 rw[decide_eq_true j]
 by_cases k:x.t.fee<=(cC m x.t.frm).money
 ·rw[decide_eq_true k]
  repeat (first|apply ar|(apply au;rfl;(first|apply aB|apply aE|apply aZ|apply aU|apply cI|apply fE|apply ji)<;>first|rfl|assumption|exact qf|exact wn))
  refine aO (Or.inl rfl) results81 (aD.tmp rfl) ?_
  exact⟨rfl,f⟩
 ·rw[decide_eq_false k]
  repeat (first|apply ar|(apply au;rfl;(first|apply aB|apply aE|apply aZ|apply aU|apply cI|apply fE|apply ji)<;>first|rfl|assumption|exact qf|exact qr|exact wn))
  refine aO (Or.inl rfl) results81 (aD.tmp rfl) ?_
  exact⟨rfl,f⟩
end
section
def oI(m:Bk)(h:Int)(t:Tx):Int:=if t.kind=0 then(if dI t.body≠0 then dI t.body else ky m t.frm (fy t.body)) else vJ m t.frm t.body
def lg(m:Bk)(h:Int)(t:Tx):Bk:=if t.kind=0 then(if dI t.body≠0 then m else mC m t.frm (gv t.body) (fy t.body)) else if vJ m t.frm t.body=0 then FX m t.frm t.body else m
def oJ(a:Tl)(m:Bk)(h:Int)(t:Tx):Tl:=if t.kind=0 then a else if vJ m t.frm t.body=0 then Fs a h t.frm t.kind t.body else a
def Qx(m:Bk)(mk:Dg)(t:Tx):Bk:=mC (oU m t.frm t.non) t.frm mk t.fee
def yF(m:Bk)(t:Tx):Int:=if sx m t.frm t.non≠0 then sx m t.frm t.non else ky (oU m t.frm t.non) t.frm t.fee
end
section
variable{m:Bk}{ps:List Value}{bk bm bs tb:Nat}{t:Tl}{T:TypeId}{v:Value}{w w':World}
structure fW(w:World)(T:TypeId)(ps:List Value)(bs bk bm tb:Nat)(m:Bk)(t:Tl)(v:Value):Prop where
 blk:aG w bs (.cells (I7 bk tb v ps).toArray T)
 book:bS w bk bm m
 app:gp w tb t
theorem fW.az(h:fW w T ps bs bk bm tb m t v)(a:Kp [] w w'):fW w' T ps bs bk bm tb m t v:=⟨h.blk.az a,h.book.az a,h.app.az a⟩
theorem fW.EZ{b:Bk}(h:fW w T ps bs bk bm tb m t v)(a:Kp [bm] w w')(c:bS w' bk bm b):fW w' T ps bs bk bm tb b t v:=⟨h.blk.kp a (bQ (fun e=>cJ h.blk h.book.map e.symm)),c,h.app.kp a (bQ (fun e=>cJ h.app h.book.map e.symm))⟩
def Jp(w:World)(T:TypeId)(ps:List Value)(bs bk bm tb:Nat)(m:Bk)(t:Tl)(v:Value)(h:Int)(x:Tx)(e:Ending)(w':World):Prop:=
 ∃bk' bm' tb' m1,m1.Perm m/\e= .returned (.int .i64 (oI m1 h x))/\fW w' T ps bs bk' bm' tb' (lg m1 h x) (oJ t m1 h x) v/\Kp [bs,bm] w w'/\(bk'=bk/\bm'=bm/\tb'=tb\/w.heap.size<=bk'/\w.heap.size<=bm'/\w.heap.size<=tb')
attribute [local irreducible] CG NG SG aP aM Row aG aF aQ dI gv fy ky mC
theorem xQ{n0:Nat}(D:fW w T ps bs bk bm tb m t v)(K:Good m){x:Tm}(L:x.In n0 w)(h:Int)(f:x.t.kind=0):
  Calls prog 121 #[.pointer (some ⟨bs,0,none⟩),.int .i64 h,eG x] w (Jp w T ps bs bk bm tb m t v h x.t):=by
 refine dG func121 rfl ntmps121 rfl ?_
 have i:oI m h x.t=if dI x.t.body≠0 then dI x.t.body else ky m x.t.frm (fy x.t.body):=by unfold oI;rw[if_pos f]
 have g:lg m h x.t=if dI x.t.body≠0 then m else mC m x.t.frm (gv x.t.body) (fy x.t.body):=by unfold lg;rw[if_pos f]
 have q:oJ t m h x.t=t:=by unfold oJ;rw[if_pos f]
 repeat apply ar
 refine SG.box rfl rfl rfl (ag rfl) (fun F Q u U a=>?_)
 have a:aG Q F (.cells (bV x).toArray 52):=a
 obtain⟨-,-,-,-,E,-⟩:=aX a
 rw[f] at E
 have S:(0:Int)=0:=rfl
 repeat (first|apply ar|(apply au;rfl;(first|apply aE|apply aZ|apply aU|apply fE)<;>first|rfl|assumption|exact qf|exact wn))
 refine bO rfl ?_
 clear E
 obtain⟨r,-⟩:=aX a
 repeat (first|apply ar|refine qa2 ?_)
 refine SG.call rfl rfl rfl (vs:=[eG x]) (bg.of rfl) ((oZ (L.az u) f).mono (fun e V k=>?_))
 obtain⟨d,n,c,y,rfl,rfl⟩:=k
 refine⟨_,c,?_⟩
 clear c r
 have M:=u.trans y
 repeat refine qa7 ?_
 refine SG.alloc rfl rfl rfl (fun G W A s J=>?_)
 refine SG.aN (l:=dc (gv x.t.body)) rfl rfl (ag rfl) (ag rfl) J (ai _) rfl (bj _) (fun R B H=>?_)
 have j:=M.trans (A.aj B (aW s))
 have O:Row R G 0 (dc (gv x.t.body)):=Row.all H rfl
 by_cases b:dI x.t.body=0
 rotate_left
 ·rw[if_pos b] at i g
  repeat (first|apply ar|refine vr ?_)
  refine bO rfl ?_
  repeat (first|apply ar|refine ww ?_)
  refine aO (Or.inl rfl) results121 (aD.tmp rfl) ?_
  exact⟨bk,bm,tb,m,Perm.refl _,by rw[i],by rw[g,q];exact D.az j,j.any,Or.inl ⟨rfl,rfl,rfl⟩⟩
 rw[if_neg (fun h=>h b)] at i g
 rw[b]
 have a:=(a.az y).az (A.aj B (aW s))
 obtain⟨-,N,-⟩:=aX a
 have p:=D.az j
 obtain⟨P,-⟩:=ic p.blk
 repeat (first|apply ar|refine vp ?_)
 refine bA rfl ?_
 repeat apply ar
 refine CG.tail mixed 8 [0,1,2,3,4,5,6,7] (by kernel_rfl) ?_
 repeat (apply bW;rfl;rfl;(first|apply aB|apply aZ|apply bf|apply aU|apply bR)<;>first|rfl|assumption|exact wn|apply ai)
 refine aM.tl (fun X o _ _=>?_)
 refine SG.call rfl rfl rfl (vs:=[.pointer (some ⟨bk,0,none⟩),dv x.t.frm,dv (gv x.t.body),.int .i64 (fy x.t.body)]) (bg.of rfl) ((iV (p.az o).book K x.t.frm (gv x.t.body) (fy x.t.body)).mono (fun e Y k=>?_))
 obtain⟨c,I,C⟩:=k
 refine⟨_,c,?_⟩
 clear P N O c
 repeat (first|apply ar|refine wt ?_)
 refine aO (Or.inl rfl) results121 (aD.tmp rfl) ?_
 exact⟨bk,bm,tb,m,Perm.refl _,by rw[i],by rw[g,q];exact(p.az o).EZ C I,(j.trans o).any.trans (C.mono (fun z b=>by rw[mem_singleton] at b;rw[b];simp)),Or.inl ⟨rfl,rfl,rfl⟩⟩
end
section
variable{m:Bk}
theorem FW{a:Bk}(b:∀k,cC a k=cC m k)(f:Dg)(l:List UInt8):vJ a f l=vJ m f l:=by
 cases l with
 |nil=>rfl
 |cons u l=>
  have e:ky a f (u.toNat:Int)=ky m f (u.toNat:Int):=by unfold ky;rw[b]
  show(if ky a f (u.toNat:Int)≠0 then ky a f (u.toNat:Int) else if u=13 then 10 else 0)=_
  rw[e]
  rfl
attribute [local irreducible] CG NG SG aP aM Row aG aF aQ dI gv fy ky mC vJ FX Fs
theorem uV{w:World}{n0 l bk A tb:Nat}{t:Tl}{v:Value}{T:TypeId}{y:List Value}(c:fW w T y l bk A tb m t v)(hg:Good m){x:Tm}(L:x.In n0 w)(h:Int)(p:¬x.t.kind=0)(ht:t.n<=1000000):
  Calls prog 121 #[.pointer (some ⟨l,0,none⟩),.int .i64 h,eG x] w (Jp w T y l bk A tb m t v h x.t):=by
 refine dG func121 rfl ntmps121 rfl ?_
 repeat apply ar
 refine SG.box rfl rfl rfl (ag rfl) (fun b5 w1 B aI o=>?_)
 have o:aG w1 b5 (.cells (bV x).toArray 52):=o
 obtain⟨-,-,-,-,r3,-⟩:=aX o
 repeat (first|apply ar|(apply au;rfl;(first|apply aE|apply aZ|apply aU|apply fE)<;>first|rfl|assumption|exact qr|exact wn))
 refine bA rfl ?_
 clear r3
 obtain⟨r0,r1,-⟩:=ic (c.az B).blk
 repeat apply ar
 refine CG.dS mixed 9 [0,1,2,3,5,6,7,8,4] [4] [] (fun _=>True) (by kernel_rfl) trivial (fun _ _ _ _=>trivial) ?_
 repeat (apply bW;rfl;rfl;(first|apply aB|apply aZ|apply aU|apply bR)<;>first|rfl|assumption|exact wn)
 refine aM.zD (t:=74) (v:= .pointer (some ⟨tb,0,none⟩)) (X:=Nat) (vs:=[]) (fun q=> .iface 74 (.pointer (some ⟨q,0,none⟩))) (fun q W=>w1.heap.size<=q/\gp W q t) (fun _ _=>True) rfl rfl rfl rfl (ag rfl) True.intro (fun q W F d h=>⟨h.1,h.2.az d⟩) (fun _ _ _ _ _=>trivial) (fun _ _ _ h=>h) (fun W d _ _=>(ir (((c.az B).app).az d)).mono (fun e F j=>?_)) (fun E=>?_)
 ·obtain⟨b',i,ao,al,I⟩:=j
  exact⟨b',i,⟨Nat.le_trans d.size ao,al⟩,trivial,I⟩
 refine aM.tl (fun w2 Z H _=>?_)
 obtain⟨-,aJ,am⟩:=H
 have M:=B.trans Z
 refine SG.call rfl rfl rfl (vs:=[.pointer (some ⟨bk,0,none⟩)]) (bg.of rfl) ((gn (c.az M).book).mono (fun e w3 j=>?_))
 obtain⟨P,Q,a,i,S,hp,gk,gm,J⟩:=j
 refine⟨_,i,?_⟩
 clear r0 r1 i
 have k3:=M.trans J
 have V:=am.az J
 have o:=(o.az Z).az J
 obtain⟨-,q0,-,-,q3,q4,-⟩:=aX o
 have ax:=L.az k3
 repeat (first|apply ar|refine wt ?_)
 refine CG.dS mixed 13 [0,1,2,3,4,5,6,7,9,10,11,12,8] [8] [] (fun _=>True) (by kernel_rfl) trivial (fun _ _ _ _=>trivial) ?_
 repeat (apply bW;rfl;rfl;(first|apply Ly|apply aB|apply aZ|apply bf|apply aU)<;>first|rfl|assumption|exact wn|apply ai)
 refine aM.val rfl rfl rfl (F8 (f:=138) rfl inferInstance) ?_
 repeat (apply bW;rfl;rfl;apply aB<;>rfl)
 refine aM.kQ (X:=Option Addr×Nat) (vs:=[x.b]) (fun q=> .slice q.1 x.t.body.length q.2) (fun q W=>Bs W q.1 q.2 x.t.body/\∀z u,q.1=some ⟨z,u,none⟩->w3.heap.size<=z) rfl rfl rfl rfl (bg.of rfl) (fun q W F d h=>⟨h.1.az d,h.2⟩) (fun _ _ _ h=>h) (fun W d _=>(ie x.c1 (ax.az d).b.sl (by have:=L.l1;omega)).mono (fun e F j=>?_)) (fun q=>?_)
 ·obtain⟨v',i,ho,I⟩:=j
  obtain⟨a',c',rfl,hS⟩:=Bs.own ho
  exact⟨(a',c'),i,⟨hS,fun z u e=>Nat.le_trans d.size (fY ho z u e)⟩,I⟩
 refine aM.tl (fun w4 K H _=>?_)
 obtain⟨-,ak,aq⟩:=H
 have aK:=V.lt
 have Y:∀k,cC a k=cC m k:=fun k=>by
  unfold cC
  rw[sk hp S.map.nodup]
 have ap:Good a:=fun k=>by rw[Y];exact hg k
 refine SG.AM (t:=74) (v:= .pointer (some ⟨E,0,none⟩)) rfl rfl rfl (vs:=[.int .i64 h,dv x.t.frm,.int .i64 x.t.kind,.slice q.1 x.t.body.length q.2,.pointer (some ⟨P,0,none⟩)]) (ag rfl) (bg.of rfl) ((sU (V.az K) (S.az K) ap ht ak L.l1 (fun _ z u e=>by have:=aq z u e;omega) h x.t.kind x.t.frm).mono (fun e O j=>?_))
 obtain⟨i,an,U,s⟩:=j
 refine⟨_,i,?_⟩
 have r:=k3.trans K
 have aC:=c.blk.lt
 have ay:=c.book.blk.lt
 have aA:=c.book.map.lt
 have aF:=c.app.lt
 have s1:=B.size
 have s2:=M.size
 have s4:=r.size
 have D:∀{z:Nat},z<w.heap.size->z∉[E,Q]:=fun h=>gG (by omega) (by omega)
 have aa:fW O T y l bk A tb m t v:=⟨(c.blk.az r).kp s (D aC),⟨(c.book.blk.az r).kp s (D ay),(c.book.map.az r).kp s (D aA)⟩,(c.app.az r).kp s (D aF)⟩
 have k5:Kp [] w O:=r.aj s (kZ (by omega) (by omega))
 have eZ:oI a h x.t=vJ a x.t.frm x.t.body:=by unfold oI;rw[if_neg p]
 have R:lg a h x.t=if vJ a x.t.frm x.t.body=0 then FX a x.t.frm x.t.body else a:=by unfold lg;rw[if_neg p]
 clear q0 q3 q4
 by_cases g:vJ a x.t.frm x.t.body=0
 ·rw[if_pos g] at R
  have eT:oJ t a h x.t=Fs t h x.t.frm x.t.kind x.t.body:=by unfold oJ;rw[if_neg p,if_pos g]
  rw[g]
  have aH:(0:Int)=0:=rfl
  have ac:lg a h x.t=FX a x.t.frm x.t.body:=R
  repeat (first|apply ar|(apply au;rfl;(first|apply aB|apply aE|apply fE)<;>first|rfl|exact qf))
  refine bO rfl ?_
  repeat (first|apply ar|(apply au;rfl;(first|apply aB|apply aU|apply bR)<;>rfl))
  refine SG.cp [.pointer (some ⟨bk,0,none⟩)] [.iface 74 (.pointer (some ⟨tb,0,none⟩))] (v::y) rfl rfl (ag rfl) (ag rfl) aa.blk rfl rfl rfl rfl rfl (fun w6 av af=>?_)
  repeat (apply au;rfl;(first|apply aU|apply bR)<;>rfl)
  refine SG.cp [] [.pointer (some ⟨bk,0,none⟩)] (.iface 74 (.pointer (some ⟨E,0,none⟩))::v::y) rfl rfl (ag rfl) (ag rfl) af rfl rfl rfl rfl rfl (fun w7 aw ah=>?_)
  repeat (first|apply ar|refine ww ?_)
  refine aO (Or.inl rfl) results121 (aD.tmp rfl) ?_
  have C:Kp [l] O w7:=av.trans aw
  have N:∀{z:Nat},w.heap.size<=z->z∉[l]:=fun h=>bQ (by omega)
  exact⟨P,Q,E,a,hp,by rw[eZ,g],by rw[ac,eT];exact⟨ah,⟨U.blk.kp C (N (by omega)),U.map.kp C (N (by omega))⟩,an.kp C (N (by omega))⟩,k5.any.trans (C.mono (fun z g=>by rw[mem_singleton] at g;rw[g];simp)),Or.inr ⟨by omega,by omega,by omega⟩⟩
 ·have G:=FW Y x.t.frm x.t.body
  have ae:oI m h x.t=vJ a x.t.frm x.t.body:=by unfold oI;rw[if_neg p,G]
  have ab:lg m h x.t=m:=by unfold lg;rw[if_neg p,if_neg (by rw[<-G];exact g)]
  have ad:oJ t m h x.t=t:=by unfold oJ;rw[if_neg p,if_neg (by rw[<-G];exact g)]
  repeat (first|apply ar|(apply au;rfl;(first|apply aB|apply aE|apply fE)<;>first|rfl|exact qr))
  refine bA rfl ?_
  repeat (first|apply ar|refine ww ?_)
  refine aO (Or.inl rfl) results121 (aD.tmp rfl) ?_
  exact⟨bk,A,tb,m,Perm.refl _,by rw[ae],by rw[ab,ad];exact aa,k5.any,Or.inl ⟨rfl,rfl,rfl⟩⟩
end
section
abbrev R9(w:World)(a:Option Addr)(l:List Ac):Prop:=Sl acl 10 w a l
theorem K1(w:World)(a0 a b c d e f g:UInt8)(x y:Int):(Instr.buildSlice 63 1 #[(0,.agg #[bv a0,bv a,bv b,bv c,bv d,bv e,bv f,bv g,Value.int .i64 x,Value.int .i64 y])]).run prog w= .ok (.slice (some ⟨w.heap.size,0,none⟩) 1 1) {w with heap:=w.heap.push (.cells #[bv a0,bv a,bv b,bv c,bv d,bv e,bv f,bv g,Value.int .i64 x,Value.int .i64 y] 59)}:=by kernel_rfl
theorem RK(e:Ac)(w:World):(Instr.buildSlice 63 1 #[(0,FD e)]).run prog w= .ok (.slice (some ⟨w.heap.size,0,none⟩) 1 1) {w with heap:=w.heap.push (.cells (acl e).toArray 59)}:=by
 obtain⟨⟨l,j⟩,x,y⟩:=e
 match l,j with
 |[a,b,c,d,f,g,h,i],_=>exact K1 w a b c d f g h i x y
def ql(e:Ac):Prop:=e.money<0\/1125899906842624<e.money\/e.nonce<0\/1099511627776<e.nonce
instance(e:Ac):Decidable (ql e):=by unfold ql;infer_instance
def jG:List Dg->Int->List Ac->Int
 |_,s,[]=>if 1125899906842624<s then 22 else 0
 |ks,s,e::l=>if ql e then 2 else if e.key∈ks then 7 else jG (e.key::ks) (s+e.money) l
def jH(l:List Ac):Int:=if 1024<l.length then 8 else jG [] 0 l
def gq(m:Bk)(l:List Ac):Bk:=l.foldl (fun m e=>iN m e.key ⟨e.money,e.nonce⟩) m
attribute [local irreducible] CG NG SG aP aM Row aG aF aQ bG
theorem rU{w:World}{a:Option Addr}{l:List Ac}(c:Nat)(h:R9 w a l)(hl:l.length<=100000):Calls prog 34 #[.slice a l.length c] w (fun e p=>Kp [] w p/\
  ((jH l≠0/\e= .returned (.tuple #[.pointer none,.int .i64 (jH l)]))\/(jH l=0/\∃d g,e= .returned (.tuple #[.pointer (some ⟨d,0,none⟩),.int .i64 0])/\bS p d g (gq [] l)/\w.heap.size<=d/\w.heap.size<=g))):=by
 refine bC func34 rfl ntmps34 rfl ?_
 by_cases K:(1024:Int)<(l.length:Int)
 ·repeat (first|apply ar|(apply au;rfl;(first|apply aB|apply aE|apply dg|apply ij)<;>first|rfl|exact qf))
  refine bO rfl ?_
  repeat (first|apply ar|refine wt ?_)
  refine dT (Or.inl rfl) results34 (aD.tmp rfl) (aD.tmp rfl) ?_
  have:jH l=8:=by unfold jH;rw[if_pos (by omega)]
  exact⟨Kp.refl _ _,Or.inl ⟨by rw[this];decide,by rw[this]⟩⟩
 have hE:jH l=jG [] 0 l:=by unfold jH;rw[if_neg (by omega)]
 rw[hE]
 repeat (first|apply ar|(apply au;rfl;(first|apply aB|apply aE|apply dg|apply ij)<;>first|rfl|exact qr))
 refine bA rfl ?_
 repeat apply ar
 refine SG.makeMap (dv (n:=8)) qV rfl rfl (fun g w1 N ap P=>?_)
 refine SG.val rfl rfl rfl rfl (aK rfl (fun w=>Lc w g)) ?_
 refine SG.box rfl rfl rfl (ag rfl) (fun d w2 G av L=>?_)
 repeat (first|apply ar|refine wt ?_)
 refine SG.makeMap (dv (n:=8)) (fun _:Unit=>Value.bool true) rfl rfl (fun C Z H aq Q=>?_)
 repeat (first|apply ar|refine qb1 ?_)
 have aa:bS Z d g []:=⟨L.az H,(P.az G).az H⟩
 have e1:=P.lt
 have e2:=L.lt
 have e3:=Q.lt
 have s1:=N.size
 have s2:=G.size
 refine CG.loop (X:=Nat×Int×List Dg×Bk×List (Dg×Unit)) (fun q=>[(2,.pointer none),(3,.int .i64 0),(4,.pointer (some ⟨d,0,none⟩)),(5,.map (some C)),(6,.int .i64 q.2.1),(16,.slice a l.length c),(17,.int .i64 l.length),(18,.int .i64 (q.1:Int))])
  (fun q p=>q.1<=l.length/\Kp [] w p/\Z.heap.size<=p.heap.size/\bS p d g q.2.2.2.1/\aF p C (dv (n:=8)) (fun _:Unit=>Value.bool true) q.2.2.2.2/\(∀k,aC q.2.2.2.2 k=none↔k∉q.2.2.1)/\jG q.2.2.1 q.2.1 (l.drop q.1)=jG [] 0 l/\gq q.2.2.2.1 (l.drop q.1)=gq [] l/\0<=q.2.1/\q.2.1<=(q.1:Int)*1125899906842624)
  (fun q=>l.length-q.1) (0,0,[],[],[]) ⟨Nat.zero_le _,(N.trans G).trans H,Nat.le_refl _,aa,Q,fun k=>by simp[aC],rfl,rfl,Int.le_refl _,by simp⟩ (aS.of rfl) ?_
 rintro⟨i,s,S,m,Y⟩ w4 ⟨hi,f,aw,E,M,A,b,r,am,an⟩
 simp only at hi E M A b r am an
 refine CG.to [(2,.pointer none),(3,.int .i64 0),(4,.pointer (some ⟨d,0,none⟩)),(5,.map (some C)),(6,.int .i64 s),(16,.slice a l.length c),(17,.int .i64 l.length),(18,.int .i64 (i:Int))] (aS.of rfl) ?_
 by_cases I:i<l.length
 case neg=>
  have g1:¬(i:Int)<(l.length:Int):=by omega
  have ei:i=l.length:=by omega
  rw[ei,drop_length] at b r
  simp only[jG] at b
  repeat (first|apply ar|refine un ?_)
  refine bA rfl ?_
  by_cases j:1125899906842624<s
  ·rw[if_pos j] at b
   repeat (first|apply ar|(apply au;rfl;(first|apply aB|apply ij)<;>first|rfl|exact qf))
   refine bO rfl ?_
   repeat (first|apply ar|refine wt ?_)
   refine dT (Or.inl rfl) results34 (aD.tmp rfl) (aD.tmp rfl) ?_
   exact⟨f,Or.inl ⟨by rw[<-b];decide,by rw[<-b]⟩⟩
  ·rw[if_neg j] at b
   repeat (first|apply ar|(apply au;rfl;(first|apply aB|apply ij)<;>first|rfl|exact qr))
   refine bA rfl ?_
   repeat (first|apply ar|refine ww ?_)
   refine dT (Or.inl rfl) results34 (aD.tmp rfl) (aD.tmp rfl) ?_
   refine⟨f,Or.inr ⟨b.symm,d,g,rfl,?_,by omega,by omega⟩⟩
   have:m=gq [] l:=r
   rw[<-this]
   exact E
 have g1:(i:Int)<(l.length:Int):=by omega
 obtain⟨ba,oa,rfl,hr⟩:=(h.az f).at I
 obtain⟨x,R⟩:∃x,x=l[i]:=⟨_,rfl⟩
 rw[<-R] at hr
 have af:l.drop i=x::l.drop (i+1):=by rw[R];exact drop_eq_getElem_cons I
 rw[af] at b r
 simp only[jG] at b
 repeat (first|apply ar|refine ul ?_)
 refine bO rfl ?_
 repeat (first|apply ar|(apply au;rfl;(first|apply bf|apply fa)<;>first|rfl|exact zc|assumption|exact wn|apply bh))
 refine SG.alloc rfl rfl rfl (fun b8 w5 O ao o=>?_)
 refine SG.aN (old:=acl ⟨zd,0,0⟩) (l:=acl x) rfl rfl (ag rfl) (ag rfl) o (bh _) (bh _) (oM _) (fun w6 ak o=>?_)
 have s4:=f.size
 have s5:=O.size
 have B:Kp [] w4 w6:=O.aj ak (aW (by omega))
 have ab:=E.az B
 have ad:=M.az B
 have f:=f.trans B
 have s6:=B.size
 obtain⟨T,U,W,t⟩:=vc o
 clear t
 by_cases u:ql x
 ·rw[if_pos u] at b
  have F:x.money<0\/(¬x.money<0/\1125899906842624<x.money)\/(¬x.money<0/\¬1125899906842624<x.money/\x.nonce<0)\/(¬x.money<0/\¬1125899906842624<x.money/\¬x.nonce<0/\1099511627776<x.nonce):=by
   unfold ql at u
   omega
  rcases F with j|⟨j,D⟩|⟨j,D,J⟩|⟨j,D,J,g5⟩
  all_goals
   repeat (first|apply ar|(apply au;rfl;(first|apply aB|apply aZ|apply aU|apply cI|apply cg|apply ij)<;>first|rfl|assumption|exact qf|exact qr|exact wn)|refine SG.skip rfl rfl ?_)
   refine bO rfl ?_
   repeat (first|apply ar|refine wt ?_)
   refine dT (Or.inl rfl) results34 (aD.tmp rfl) (aD.tmp rfl) ?_
   exact⟨f,Or.inl ⟨by rw[<-b];decide,by rw[<-b]⟩⟩
 rw[if_neg u] at b
 have F:¬x.money<0/\¬1125899906842624<x.money/\¬x.nonce<0/\¬1099511627776<x.nonce:=by
  unfold ql at u
  omega
 obtain⟨j,D,J,g5⟩:=F
 repeat (first|apply ar|(apply au;rfl;(first|apply aB|apply aZ|apply aU|apply cI|apply cg|apply ij)<;>first|rfl|assumption|exact qr|exact wn))
 refine bA rfl ?_
 cases hal:aC Y x.key with
 |some ax=>
  have:x.key∈S:=by
   apply Classical.byContradiction
   intro hn
   rw[(A x.key).2 hn] at hal
   cases hal
  rw[if_pos this] at b
  repeat (first|apply ar|(apply au;rfl;(first|apply aB|apply bf|apply aU|apply oQ)<;>first|rfl|assumption|exact wn|apply ai|exact iX (by assumption)|fail))
  refine bO rfl ?_
  repeat (first|apply ar|refine wt ?_)
  refine dT (Or.inl rfl) results34 (aD.tmp rfl) (aD.tmp rfl) ?_
  exact⟨f,Or.inl ⟨by rw[<-b];decide,by rw[<-b]⟩⟩
 |none=>
  have al:=(A x.key).1 hal
  rw[if_neg al] at b
  repeat (first|apply ar|(apply au;rfl;(first|apply aB|apply bf|apply aU|apply oQ)<;>first|rfl|assumption|exact wn|apply ai|exact rz (by assumption)|fail))
  refine bA rfl ?_
  repeat (first|apply ar|(apply au;rfl;(first|apply aB|apply bf|apply aU)<;>first|rfl|assumption|exact wn|apply ai))
  refine SG.mapUpdate (enc:=dv (n:=8)) (V:=fun _:Unit=>Value.bool true) (kx:=x.key) (vy:=()) rfl rfl (ag rfl) (ag rfl) rfl ad gJ.key (fun w7 y ae=>?_)
  have ac:=ab.kp y (bQ (by omega)) (bQ (by omega))
  have o:=o.kp y (bQ (by omega))
  obtain⟨T,U,W,t⟩:=vc o
  clear t
  repeat (first|apply ar|refine qb7 ?_)
  refine SG.val rfl rfl rfl rfl (aK (v:=qV ⟨x.money,x.nonce⟩) rfl (fun w=>by kernel_rfl)) ?_
  refine SG.call rfl rfl rfl (by repeat' (first|exact True.intro|exact ag rfl|refine And.intro ?_ ?_)) ((mr ac x.key ⟨x.money,x.nonce⟩ (by unfold Pu.Fit;simp only;omega)).mono (fun e w8 hh=>?_))
  obtain⟨ah,K,z⟩:=hh
  refine⟨_,ah,?_⟩
  obtain⟨T,U,W,t⟩:=vc (o.kp z (bQ (by omega)))
  clear t
  have s7:=y.size
  have s8:=z.size
  repeat (first|apply ar|(apply au;rfl;(first|apply aB|apply aE|apply aZ|apply aU|apply dp)<;>first|rfl|exact zc|assumption|exact wn))
  refine NG.round (i+1,s+x.money,x.key::S,iN m x.key ⟨x.money,x.nonce⟩,ca Y x.key ()) (aS.of rfl) ⟨I,(f.aj y (aW (by omega))).aj z (aW (by omega)),by omega,K,ae.kp z (bQ (by omega)),fun k=>?_,b,r,by simp only;omega,by simp only;omega⟩ (by simp only;omega)
  rw[bK]
  by_cases e:x.key=k
  ·simp[e]
  ·rw[if_neg e,A k]
   simp[Ne.symm e]
end
section
open Go.Proofs Go.Shelf Go.Sort
def cf(x y:Ac):Int:=Lib.compareBytes x.key.1 y.key.1
attribute [local irreducible] CG NG SG aP aM Row aG aF aQ bG
end
section
open Go.Proofs Go.Shelf
def J2:Go.Shelf.Ren:=⟨fun|6=>61|15=>114|14=>113|28=>156|29=>157|20=>148|21=>149|22=>150|23=>151|24=>152|25=>153|26=>154|27=>155|46=>174|47=>175|48=>176|49=>177|50=>178|57=>194|n=>n,fun|22=>63|24=>59|25=>139|3=>3|39=>208|0=>0|53=>259|55=>183|4=>4|46=>253|45=>252|50=>90|5=>5|9=>9|66=>273|70=>277|76=>298|77=>299|n=>n,fun n=>n⟩
end
section
open Go.Proofs Go.Shelf Go.Sort
abbrev cb:=Lib.compareBytes
instance:Inhabited Ac:=⟨⟨zd,0,0⟩⟩
def Xb(p:Dg×Pu):Ac:=oN p.1 p.2
def Xh(l:List Ac):Prop:=l.Pairwise (fun x y=>ltOf cf y x=false)
attribute [local irreducible] CG NG SG aP aM Row aG aF aQ bG
end
section
variable{m m':Bk}{k:Dg}{q:Dg×Pu}{N N' T:Int}{p:Pu}
theorem uW(m:Bk)(k x:Dg):aC (m.filter (fun q=>decide (q.1≠k))) x=if k=x then none else aC m x:=by
 induction m with
 |nil=>simp[aC]
 |cons p m b=>
  obtain⟨a,y⟩:=p
  by_cases h:a=k
  ·rw[filter_cons_of_neg (by simp[h]),b]
   by_cases e:k=x
   ·simp[e]
   ·rw[if_neg e,if_neg e]
    show _=if a=x then some y else aC m x
    rw[if_neg (by rw[h];exact e)]
  ·rw[filter_cons_of_pos (by simp[h])]
   show(if a=x then some y else aC (m.filter _) x)=if k=x then none else if a=x then some y else aC m x
   rw[b]
   by_cases e:k=x
   ·subst e;simp[h]
   ·simp[e]
theorem oH(m:Bk)(k x:Dg)(p:Pu):cC (iN m k p) x=if k=x then p else cC m x:=by
 unfold iN
 by_cases h:p=pz
 ·rw[if_pos h]
  unfold cC
  rw[uW]
  by_cases e:k=x
  ·simp[e,h]
  ·simp[e]
 ·rw[if_neg h]
  unfold cC
  rw[bK]
  by_cases e:k=x
  ·simp[e]
  ·simp[e]
theorem og(h:q∈ca m k p):q=(k,p)\/q∈m:=by
 induction m with
 |nil=>simp[ca] at h;exact Or.inl h
 |cons a m b=>
  obtain⟨x,y⟩:=a
  unfold ca at h
  by_cases e:x=k
  ·rw[if_pos e] at h
   rcases mem_cons.1 h with h|h
   ·exact Or.inl (by rw[h,e])
   ·exact Or.inr (by simp[h])
  ·rw[if_neg e] at h
   rcases mem_cons.1 h with h|h
   ·exact Or.inr (by simp[h])
   ·rcases b h with h|h
    ·exact Or.inl h
    ·exact Or.inr (by simp[h])
theorem C3(m:Bk)(k:Dg)(p:Pu):tot (ca m k p)=tot m-(cC m k).money+p.money:=by
 induction m with
 |nil=>simp[ca,tot,cC,aC,pz]
 |cons a m b=>
  obtain⟨x,y⟩:=a
  unfold ca cC aC
  by_cases e:x=k
  ·rw[if_pos e,if_pos e,dK,dK]
   simp
   omega
  ·rw[if_neg e,if_neg e,dK,dK,b]
   show y.money+(tot m-((aC m k).getD pz).money+p.money)=y.money+tot m-((aC m k).getD pz).money+p.money
   omega
theorem yn(m:Bk)(b:(m.map (·.1)).Nodup)(k:Dg):tot (m.filter (fun q=>decide (q.1≠k)))=tot m-(cC m k).money:=by
 induction m with
 |nil=>simp[tot,cC,aC,pz]
 |cons a m c=>
  obtain⟨x,y⟩:=a
  rw[map_cons,nodup_cons] at b
  by_cases e:x=k
  ·rw[filter_cons_of_neg (by simp[e]),dK,c b.2]
   have d:aC m k=none:=by
    rw[fL]
    intro q g f
    exact b.1 (mem_map.2 ⟨q,g,by rw[f,e]⟩)
   unfold cC
   rw[d]
   simp[aC,e,pz]
   omega
  ·rw[filter_cons_of_pos (by simp[e]),dK,dK,c b.2]
   unfold cC
   simp only[aC,if_neg e]
   omega
theorem FP(m:Bk)(a:(m.map (·.1)).Nodup)(k:Dg)(p:Pu):tot (iN m k p)=tot m-(cC m k).money+p.money:=by
 unfold iN
 by_cases h:p=pz
 ·rw[if_pos h,yn m a,h]
  simp[pz]
 ·rw[if_neg h,C3]
theorem BN(b:(m.map (·.1)).Nodup):((ca m k p).map (·.1)).Nodup:=by
 induction m with
 |nil=>simp[ca]
 |cons a m g=>
  obtain⟨x,y⟩:=a
  unfold ca
  by_cases e:x=k
  ·rw[if_pos e]
   subst e
   simpa using b
  ·rw[if_neg e,map_cons,nodup_cons]
   rw[map_cons,nodup_cons] at b
   refine⟨fun d=>?_,g b.2⟩
   obtain⟨q,f,c⟩:=mem_map.1 d
   rcases og f with h|h
   ·subst h
    exact e c.symm
   ·exact b.1 (mem_map.2 ⟨q,h,c⟩)
theorem xo(m:Bk)(k:Dg)(p:Pu):(ca m k p).length<=m.length+1:=by
 induction m with
 |nil=>simp[ca]
 |cons a m b=>
  obtain⟨x,y⟩:=a
  unfold ca
  by_cases e:x=k
  ·rw[if_pos e];simp
  ·rw[if_neg e];simp;exact b
structure Ok(T N:Int)(m:Bk):Prop where
 nd:(m.map (·.1)).Nodup
 nz:∀p∈m,p.2≠pz
 mon:∀p∈m,0<=p.2.money
 non:∀p∈m,0<=p.2.nonce/\p.2.nonce<=N
 tot:tot m=T
theorem uC(h:aC m k=some p):(k,p)∈m:=by
 induction m with
 |nil=>simp[aC] at h
 |cons a m b=>
  obtain⟨x,y⟩:=a
  unfold aC at h
  by_cases e:x=k
  ·rw[if_pos e] at h
   simp only[Option.some.injEq] at h
   subst e
   subst h
   simp
  ·rw[if_neg e] at h
   exact mem_cons_of_mem _ (b h)
theorem HY(h:∀p∈m,0<=p.2.money)(b:q∈m):q.2.money<=tot m:=by
 induction m with
 |nil=>cases b
 |cons a m d=>
  rw[dK]
  have e:=h a (by simp)
  have f:=C2 (m:=m) (fun p c=>h p (by simp[c]))
  rcases mem_cons.1 b with rfl|b
  ·omega
  ·have:=d (fun p c=>h p (by simp[c])) b
   omega
theorem Ok.t0(h:Ok T N m):0<=T:=by rw[<-h.tot];exact C2 h.mon
theorem Ok.bnd(h:Ok T N m)(f:0<=N)(k:Dg):0<=(cC m k).money/\(cC m k).money<=T/\0<=(cC m k).nonce/\(cC m k).nonce<=N:=by
 have g:=h.t0
 unfold cC
 cases e:aC m k with
 |none=>simp[pz];exact⟨g,f⟩
 |some p=>
  have a:=uC e
  have c:=h.mon _ a
  have d:=h.non _ a
  have b:=HY h.mon a
  rw[h.tot] at b
  exact⟨c,b,d⟩
theorem Ok.qh(h:Ok T N m)(a:0<=N)(c:T<=2000000000000000000)(b:N<=2000000000000000000):Good m:=fun k=>by
 have:=h.bnd a k
 omega
theorem Ok.put(h:Ok T N m)(d:N<=N')(k:Dg)(p:Pu)(b:0<=p.money)(c:0<=p.nonce/\p.nonce<=N'):Ok (T-(cC m k).money+p.money) N' (iN m k p):=by
 refine⟨?_,?_,?_,?_,by rw[FP m h.nd,h.tot]⟩
 all_goals unfold iN
 all_goals by_cases e:p=pz
 ·rw[if_pos e]
  exact h.nd.sublist (filter_sublist.map _)
 ·rw[if_neg e]
  exact BN h.nd
 ·rw[if_pos e]
  exact fun q a=>h.nz q (mem_filter.1 a).1
 ·rw[if_neg e]
  intro q a
  rcases og a with rfl|a
  ·exact e
  ·exact h.nz q a
 ·rw[if_pos e]
  exact fun q a=>h.mon q (mem_filter.1 a).1
 ·rw[if_neg e]
  intro q a
  rcases og a with rfl|a
  ·exact b
  ·exact h.mon q a
 ·rw[if_pos e]
  intro q a
  have:=h.non q (mem_filter.1 a).1
  omega
 ·rw[if_neg e]
  intro q a
  rcases og a with rfl|a
  ·exact c
  ·have:=h.non q a
   omega
theorem j3(m:Bk)(k:Dg)(p:Pu):(iN m k p).length<=m.length+1:=by
 unfold iN
 by_cases e:p=pz
 ·rw[if_pos e]
  have:=length_filter_le (fun q:Dg×Pu=>decide (q.1≠k)) m
  omega
 ·rw[if_neg e]
  exact xo m k p
theorem DS{f:Dg}{n:Int}(h:ky m f n=0):0<=n/\n<=1125899906842624/\n<=(cC m f).money:=by
 unfold ky at h
 split at h
 ·cases h
 ·split at h
  ·cases h
  ·omega
theorem Ok.move(h:Ok T N m)(b:0<=N)(f t:Dg)(n:Int):Ok T N (mC m f t n):=by
 unfold mC
 by_cases e:ky m f n=0/\f≠t
 ·rw[if_pos e]
  obtain⟨i,j,k⟩:=DS e.1
  have c:=h.bnd b f
  have d:=h.bnd b t
  have g:=h.put (Int.le_refl N) f ⟨(cC m f).money-n,(cC m f).nonce⟩ (by simp only;omega) ⟨c.2.2.1,c.2.2.2⟩
  have a:=g.put (Int.le_refl N) t ⟨(cC m t).money+n,(cC m t).nonce⟩ (by simp only;omega) ⟨d.2.2.1,d.2.2.2⟩
  rw[oH,if_neg e.2] at a
  simp only at a
  have:T-(cC m f).money+((cC m f).money-n)-(cC m t).money+((cC m t).money+n)=T:=by omega
  rw[this] at a
  exact a
 ·rw[if_neg e]
  exact h
theorem xn(m:Bk)(f t:Dg)(n:Int):(mC m f t n).length<=m.length+2:=by
 unfold mC
 split
 ·have a:=j3 m f ⟨(cC m f).money-n,(cC m f).nonce⟩
  have b:=j3 (iN m f ⟨(cC m f).money-n,(cC m f).nonce⟩) t ⟨(cC m t).money+n,(cC m t).nonce⟩
  omega
 ·omega
theorem y9(m:Bk)(k:Dg)(n:Int):(oU m k n).length<=m.length+2:=by
 unfold oU
 split
 ·have a:=j3 m k ⟨(cC m k).money,(cC m k).nonce+1⟩
  omega
 ·omega
theorem BC{g:Type}[DecidableEq g]:∀{l l':List g},l.Nodup->(∀x∈l,x∈l')->l'.length<=l.length->∀x∈l',x∈l:=by
 intro l
 induction l with
 |nil=>
  intro l' _ _ h x c
  cases l' with
  |nil=>cases c
  |cons y l'=>simp at h
 |cons a l m=>
  intro l' b d j x c
  rw[nodup_cons] at b
  have i:=d a (by simp)
  by_cases e:x=a
  ·simp[e]
  ·refine mem_cons_of_mem _ (m (l':=l'.erase a) b.2 (fun y f=>?_) ?_ x ((mem_erase_of_ne e).2 c))
   ·have k:y≠a:=fun h=>b.1 (by rw[<-h];exact f)
    exact(mem_erase_of_ne k).2 (d y (by simp[f]))
   ·rw[length_erase_of_mem i]
    simp at j
    omega
theorem C1(c:m.Perm m'):tot m=tot m':=by
 induction c with
 |nil=>rfl
 |cons x _ d=>rw[dK,dK,d]
 |swap x y l=>rw[dK,dK,dK,dK];omega
 |trans _ _ a b=>exact a.trans b
theorem Dj{T':Int}(h:Ok T N m)(f:Ok T' N' m'):lA m m'=true↔∀k,cC m k=cC m' k:=by
 have d:∀{m:Bk} {T N:Int},Ok T N m->∀k,k∈m.map (·.1)↔cC m k≠pz:=by
  intro m T N h k
  constructor
  ·intro b
   obtain⟨p,a,rfl⟩:=mem_map.1 b
   rw[qH h.nd a]
   exact h.nz p a
  ·intro b
   apply Classical.byContradiction
   intro c
   apply b
   unfold cC
   have:aC m k=none:=by
    rw[fL]
    exact fun p a e=>c (mem_map.2 ⟨p,a,e⟩)
   rw[this]
   rfl
 constructor
 ·intro j
  simp only[lA,Bool.and_eq_true,decide_eq_true_eq,all_eq_true] at j
  obtain⟨s,g⟩:=j
  have q:∀k∈m.map (·.1),k∈m'.map (·.1):=fun k b=>by
   obtain⟨p,a,rfl⟩:=mem_map.1 b
   rw[d f,g p a]
   exact h.nz p a
  have r:∀k∈m'.map (·.1),k∈m.map (·.1):=BC h.nd q (by simp;omega)
  intro k
  by_cases b:k∈m.map (·.1)
  ·obtain⟨p,a,rfl⟩:=mem_map.1 b
   rw[g p a,qH h.nd a]
  ·have l:cC m k=pz:=Classical.byContradiction (fun c=>b ((d h k).2 c))
   have n:cC m' k=pz:=Classical.byContradiction (fun c=>b (r k ((d f k).2 c)))
   rw[l,n]
 ·intro i
  simp only[lA,Bool.and_eq_true,decide_eq_true_eq,all_eq_true]
  refine⟨?_,fun p a=>by rw[<-i,qH h.nd a]⟩
  have o:(m.map (·.1)).Perm (m'.map (·.1)):=by
   rw[perm_ext_iff_of_nodup h.nd f.nd]
   intro k
   rw[d h,d f,i]
  simpa using o.length_eq
theorem Ok.perm(h:Ok T N m)(a:m'.Perm m):Ok T N m'/\∀k,cC m' k=cC m k:=by
 refine⟨⟨(a.map _).nodup_iff.2 h.nd,fun p b=>h.nz p (a.mem_iff.1 b),fun p b=>h.mon p (a.mem_iff.1 b),fun p b=>h.non p (a.mem_iff.1 b),?_⟩,fun k=>?_⟩
 ·rw[<-h.tot]
  exact C1 a
 ·unfold cC
  rw[sk a ((a.map _).nodup_iff.2 h.nd)]
end
section
variable{m:Bk}{T:Int}{n:Nat}
abbrev Fb:=Dg->Pu
def JR(f:Fb)(k:Dg)(p:Pu):Fb:=fun x=>if k=x then p else f x
def wX(f:Fb)(a:Dg)(n:Int):Int:=if n<0\/1125899906842624<n then 2 else if(f a).money<n then 21 else 0
def Gt(f:Fb)(a b:Dg)(n:Int):Fb:=if wX f a n=0/\a≠b then JR (JR f a ⟨(f a).money-n,(f a).nonce⟩) b ⟨(f b).money+n,(f b).nonce⟩ else f
def Co(f:Fb)(k:Dg)(n:Int):Int:=if n<(f k).nonce then 17 else if(f k).nonce<n then 20 else if 1099511627776<=n then 2 else 0
def zT(f:Fb)(k:Dg)(n:Int):Fb:=if Co f k n=0 then JR f k ⟨(f k).money,(f k).nonce+1⟩ else f
def FU(f:Fb)(a:Dg)(l:List UInt8):Int:=match l with
 |[]=>3
 |u::_=>if wX f a (u.toNat:Int)≠0 then wX f a (u.toNat:Int) else if u=13 then 10 else 0
def Qg(f:Fb)(a:Dg)(l:List UInt8):Fb:=match l with
 |[]=>f
 |u::_=>Gt f a uE (u.toNat:Int)
def gu(f:Fb)(t:Tx):Int:=if t.kind=0 then(if dI t.body≠0 then dI t.body else wX f t.frm (fy t.body)) else FU f t.frm t.body
def fV(f:Fb)(t:Tx):Fb:=if t.kind=0 then(if dI t.body≠0 then f else Gt f t.frm (gv t.body) (fy t.body)) else if FU f t.frm t.body=0 then Qg f t.frm t.body else f
def gI(a:Tl)(f:Fb)(h:Int)(t:Tx):Tl:=if t.kind=0 then a else if FU f t.frm t.body=0 then Fs a h t.frm t.kind t.body else a
def dC(f:Fb)(t:Tx):Int:=if Co f t.frm t.non≠0 then Co f t.frm t.non else wX (zT f t.frm t.non) t.frm t.fee
def dU(f:Fb)(mk:Dg)(t:Tx):Fb:=Gt (zT f t.frm t.non) t.frm mk t.fee
theorem yW(m:Bk)(k:Dg)(p:Pu):cC (iN m k p)=JR (cC m) k p:=funext (fun x=>oH m k x p)
theorem Is(m:Bk)(a b:Dg)(n:Int):cC (mC m a b n)=Gt (cC m) a b n:=by
 unfold mC Gt
 show cC (if ky m a n=0/\a≠b then _ else m)=if ky m a n=0/\a≠b then _ else _
 split
 ·rw[yW,yW]
 ·rfl
theorem JQ(m:Bk)(k:Dg)(n:Int):cC (oU m k n)=zT (cC m) k n:=by
 unfold oU zT
 show cC (if sx m k n=0 then _ else m)=if sx m k n=0 then _ else _
 split
 ·rw[yW]
 ·rfl
theorem FV(m:Bk)(a:Dg)(l:List UInt8):vJ m a l=FU (cC m) a l:=by cases l<;>rfl
theorem Qh(m:Bk)(a:Dg)(l:List UInt8):cC (FX m a l)=Qg (cC m) a l:=by
 cases l
 ·rfl
 ·exact Is _ _ _ _
theorem HR(m:Bk)(h:Int)(t:Tx):oI m h t=gu (cC m) t:=by
 unfold oI gu
 rw[FV]
 rfl
theorem Lh(m:Bk)(h:Int)(t:Tx):cC (lg m h t)=fV (cC m) t:=by
 unfold lg fV
 rw[FV]
 split
 ·split
  ·rfl
  ·exact Is _ _ _ _
 ·split
  ·exact Qh _ _ _
  ·rfl
theorem Lg(a:Tl)(m:Bk)(h:Int)(t:Tx):oJ a m h t=gI a (cC m) h t:=by
 unfold oJ gI
 rw[FV]
theorem Ko(m:Bk)(t:Tx):yF m t=dC (cC m) t:=by
 unfold yF dC
 rw[<-JQ]
 rfl
structure iY(T:Int)(n:Nat)(m:Bk)(f:Fb):Prop where
 ok:Ok T 1099511627776 m
 len:m.length<=n
 eq:cC m=f
theorem iY.qh{f:Fb}(h:iY T n m f)(a:T<=1000000000):Good m:=h.ok.qh (by omega) (by omega) (by omega)
theorem iY.perm{b:Bk}{f:Fb}(h:iY T n m f)(a:b.Perm m):iY T n b f:=⟨(h.ok.perm a).1,by rw[a.length_eq];exact h.len,(funext (h.ok.perm a).2).trans h.eq⟩
theorem iY.mono{a:Nat}{f:Fb}(h:iY T n m f)(b:n<=a):iY T a m f:=⟨h.ok,Nat.le_trans h.len b,h.eq⟩
theorem CW{k:Dg}{n:Int}(h:sx m k n=0):(cC m k).nonce=n/\n<1099511627776:=by
 unfold sx at h
 repeat' split at h
 all_goals first|(cases h;done)|omega
theorem iY.use{f:Fb}(h:iY T n m f)(k:Dg)(i:Int):iY T (n+2) (oU m k i) (zT f k i):=by
 refine⟨?_,Nat.le_trans (y9 m k i) (Nat.add_le_add_right h.len 2),by rw[JQ,h.eq]⟩
 have b:=h.ok.bnd (by omega) k
 unfold oU
 by_cases e:sx m k i=0
 ·rw[if_pos e]
  obtain⟨c,d⟩:=CW e
  have a:=h.ok.put (Int.le_refl _) k ⟨(cC m k).money,(cC m k).nonce+1⟩ b.1 ⟨by simp only;omega,by simp only;omega⟩
  simp only at a
  have:T-(cC m k).money+(cC m k).money=T:=by omega
  rw[this] at a
  exact a
 ·rw[if_neg e]
  exact h.ok
theorem iY.move{f:Fb}(h:iY T n m f)(a b:Dg)(i:Int):iY T (n+2) (mC m a b i) (Gt f a b i):=
 ⟨h.ok.move (by omega) a b i,Nat.le_trans (xn m a b i) (Nat.add_le_add_right h.len 2),by rw[Is,h.eq]⟩
theorem iY.Ks{f:Fb}(h:iY T n m f)(mk:Dg)(t:Tx):iY T (n+4) (Qx m mk t) (dU f mk t):=(h.use t.frm t.non).move t.frm mk t.fee
theorem iY.ask{f:Fb}(h:iY T n m f)(i:Int)(t:Tx):iY T (n+2) (lg m i t) (fV f t):=by
 have g:∀{a:Bk},a=lg m i t->(a=m\/∃b j,a=mC m t.frm b j)->iY T (n+2) a (fV f t):=fun{a} e d=>by
  have c:cC a=fV f t:=by rw[e,Lh,h.eq]
  rcases d with rfl|⟨b,j,rfl⟩
  ·exact⟨h.ok,Nat.le_trans h.len (Nat.le_add_right _ _),c⟩
  ·have:=h.move t.frm b j
   exact⟨this.ok,this.len,c⟩
 refine g rfl ?_
 unfold lg
 split
 ·split
  ·exact Or.inl rfl
  ·exact Or.inr ⟨_,_,rfl⟩
 ·split
  ·unfold FX
   split
   ·exact Or.inl rfl
   ·exact Or.inr ⟨_,_,rfl⟩
  ·exact Or.inl rfl
theorem rY(a:Tl)(f:Fb)(h:Int)(t:Tx):(gI a f h t).n<=a.n+1:=by
 unfold gI
 split
 ·omega
 ·split
  ·unfold Fs
   split
   ·omega
   ·exact Nat.le_refl _
  ·omega
end
section
variable{cs:Array Value}{A S:List Nat}{Ts:List TypeId}{b n:Nat}{o:Obj}{κ ν:Type}{T:TypeId}{w w':World}
def LC(Ts:List TypeId)(A:List Nat)(b:Nat):Obj->Prop
 | .cells _ T _=>T∈Ts
 | .map _ _=>b∈A
 |_=>True
def dt(n:Nat)(Ts:List TypeId)(A:List Nat)(w:World)(S:List Nat):Prop:=
 ∀b∈S,n<=b/\(w.heap.size<=b\/∃o,w.heap[b]?=some o/\LC Ts A b o)
def Kt(n:Nat)(Ts:List TypeId)(A:List Nat)(w w':World):Prop:=∃S,Kp S w w'/\dt n Ts A w S
theorem dt.nil:dt n Ts A w []:=fun _ h=>by cases h
theorem dt.app{a:List Nat}(h:dt n Ts A w S)(c:dt n Ts A w a):dt n Ts A w (S++a):=fun b d=>(mem_append.1 d).elim (h b) (c b)
theorem dt.obj(d:n<=b)(h:aG w b o)(c:LC Ts A b o):dt n Ts A w [b]:=fun z a=>by
 rw[mem_singleton] at a
 subst a
 exact⟨d,Or.inr ⟨o,h,c⟩⟩
theorem dt.cells(c:n<=b)(h:aG w b (.cells cs T))(a:T∈Ts):dt n Ts A w [b]:=dt.obj c h a
theorem dt.map{enc:κ->Value}{V:ν->Value}{m:List (κ×ν)}(e:n<=b)(h:aF w b enc V m)(a:b∈A):dt n Ts A w [b]:=by
 obtain⟨f,c,d⟩:=h.blk
 exact dt.obj e d a
theorem dt.own{m sz base:Nat}{v:Value}{xs:List Value}(c:w.ownsRow base T sz v m xs)(f:n<=base)(d:T∈Ts):dt n Ts A w (aR v):=fun b e=>by
 have a:=aL e
 refine⟨Nat.le_trans f (cj c b a),Or.inr ?_⟩
 rcases c.2 with⟨rfl,_⟩|⟨g,cap,cur,rfl,_,hg,_⟩
 ·cases a
 ·simp only[Value.ownBlock,Option.some.injEq] at a
  subst a
  exact⟨_,hg,d⟩
theorem dt.no(h:dt n Ts A w S)(a:aG w b o)(c:¬LC Ts A b o):b∉S:=fun d=>by
 rcases(h b d).2 with g|⟨o',g,g'⟩
 ·have:=a.lt
  omega
 ·rw[aG.uniq a g] at c
  exact c g'
theorem dt.not(h:dt n Ts A w S)(c:T∉Ts):eA T n w S:=fun b a=>⟨(h b a).1,fun d f e=>h.no e c a⟩
theorem dt.blk(h:dt n Ts A w S)(d:Kp S w w')(a:aG w b (.cells cs T))(c:T∉Ts):aG w' b (.cells cs T):=a.kp d (h.no a c)
theorem dt.yY(h:dt n Ts A w S)(f:Kp S w w'){enc:κ->Value}{V:ν->Value}{m:List (κ×ν)}(a:aF w b enc V m)(d:b∉A):aF w' b enc V m:=by
 obtain⟨g,c,e⟩:=a.blk
 exact a.kp f (h.no e d)
end
section
variable{b d off:Nat}{x:Operand}{T:TypeId}{v:Value}{R:World->Prop}
section
variable {P:Program} {L:Env} {ty:TypeId} {pos:String} {af:Array Edge} {g:Option (Nat×Bool)} {S:List Nat} {w0:World} {ops:List Oper} {gh:List Nat} {K:Env->(World->Prop)->(World->Prop)->Prop} {j:Nat} {ord:List Nat} {F R0:World->Prop}
theorem aM.xR{base:Nat}{t e:TypeId}{i:TypeInfo}[u:Ut P t (.slice e)][f:dJ P e i]{z:Value}{s:Operand}{nn:Nat}{xs:List Value}{m c:Nat}{news:List Value}
  (T:ops[j]?=some ⟨some d,.call {callee:= .builtin .append,args:= #[s,x],argTypes:= #[t,t]},ty,pos,af,g⟩) (Y:want ops L ⟨some d,.call {callee:= .builtin .append,args:= #[s,x],argTypes:= #[t,t]},ty,pos,af,g⟩=some true) (q:gh.elem j=true) (n:(known L s&&known L x)=true)
  (V:bH L s=v) (hx:bH L x= .slice (some ⟨b,off,none⟩) m c) (H:i.zero=some z) (aa:Nat.beq z.cells.size i.size=true) (W:Nat.blt 0 i.size=true) (U:∀w,Kp S w0 w->F w->Row w b off news) (E:news.length=m*i.size) (r:bI news=true)
  (A:nn+m<=maxLen) (D:(nn+m)*i.bytes<=140737488355328) (R:base<=w0.heap.size) (O:∀b∈aR v,b∈S) (J:∀w k,w.ownsRow base e i.size v nn xs->Kp (aR v) w k->R0 w->F w->F k)
  (N:cH [] R0) (M:∀w k,w.ownsRow base e i.size v nn xs->Kp (aR v) w k->R0 w->R0 k)
  (h:∀a,aM P S w0 ops gh K ord ((d,a)::L) (fun w=>F w/\∀g,a.ownBlock=some g->v.ownBlock=some g\/w0.heap.size<=g) (fun w=>R0 w/\w.ownsRow base e i.size a (nn+m) (xs++news))):
  aM P S w0 ops gh K (j::ord) L F (fun w=>R0 w/\w.ownsRow base e i.size v nn xs):=by
 refine aM.rG (X:=Value) (fun a=>a) (fun a _=>∀g,a.ownBlock=some g->v.ownBlock=some g\/w0.heap.size<=g) (fun a w=>R0 w/\w.ownsRow base e i.size a (nn+m) (xs++news)) T Y q (by simpa[Op.operands,Call.operands] using n) (fun _ _ _ _ h=>h) (fun a w k n h=>⟨N _ _ n h.1,aV h.2 n⟩) (fun w o B l=>?_) h
 obtain⟨C,l⟩:=l
 have G:=U w o B
 have Q:base<=w.heap.size:=Nat.le_trans R o.size
 obtain⟨a,k,y,I,p⟩:=gD (P:=P) (ty:=ty) (d:= .bool) (c:=c) (u:=u) (f:=f) H (Nat.eq_of_beq_eq_true aa) (by simpa[Nat.blt_eq] using W) l E G r A D Q
 have Z:=kl (P:=P) (ty:=ty) (c:=c) (u:=u) (f:=f) H l E G r A D y
 unfold bD
 have:(execOp (bH L) ⟨some d,.call {callee:= .builtin .append,args:= #[s,x],argTypes:= #[t,t]},ty,pos,af,g⟩).run P w= .ok (.value a) k:=by
  simp only[execOp,resolve,invoke,builtin,Sem.run_bind,Sem.run_pure,Result.andThen_ok,map_toArray,map_cons,map_nil,V,hx,y]
 rw[this]
 refine⟨a,rfl,⟨J _ _ l p C B,fun g q=>?_⟩,⟨M _ _ l p C,I⟩,o.trans (p.mono O)⟩
 rcases Z g q with h|h
 ·exact Or.inl h
 ·exact Or.inr (by rw[h];exact o.size)
theorem aM.ES{X:Type}{f:FuncId}[bU P f]{args:List Operand}{vs:List Value}{h:Array TypeId}(val:X->Value)(b c:X->World->Prop)
  (z:ops[j]?=some ⟨some d,.call ⟨.value (.func f),args.toArray,h⟩,ty,pos,af,g⟩) (A:want ops L ⟨some d,.call ⟨.value (.func f),args.toArray,h⟩,ty,pos,af,g⟩=some true) (v:gh.elem j=true) (y:(Op.call ⟨.value (.func f),args.toArray,h⟩).operands.toList.all (known L)=true)
  (u:bg L args vs) (q:∀x,cH [] (b x)) (r:∀x,cH [] (c x)) (s:∀w,Kp S w0 w->F w->R w->Calls P f vs.toArray w (fun e a=>∃x,e= .returned (val x)/\(F a/\b x a)/\c x a/\Kp S w a))
  (t:∀x,aM P S w0 ops gh K ord ((d,val x)::L) (fun w=>F w/\b x w) (c x)):aM P S w0 ops gh K (j::ord) L F R:=
 aM.rG val b c z A v y q r (fun w i o p=>fR (by rw[u.arr];exact(s w i o p).mono (fun e a ⟨x,k,l,m,n⟩=>⟨val x,k,x,rfl,l,m,i.trans n⟩))) t
theorem aM.EY{E:TypeId}{c:List (Nat×Operand)}{vs:List (Nat×Value)}{cs:Array Value}
  (s:ops[j]?=some ⟨some d,.buildSlice T b c.toArray,ty,pos,af,g⟩) (u:want ops L ⟨some d,.buildSlice T b c.toArray,ty,pos,af,g⟩=some true) (r:gh.elem j=true) (f:(Op.buildSlice T b c.toArray).operands.toList.all (known L)=true)
  (q:(c.map fun p=>(p.1,bH L p.2))=vs) (t:∀w:World,(Instr.buildSlice T b vs.toArray).run P w= .ok (.slice (some ⟨w.heap.size,0,none⟩) b b) {w with heap:=w.heap.push (.cells cs E)}) (n:cH [] F) (k:cH [] R)
  (h:∀a,aM P S w0 ops gh K ord ((d,.slice (some ⟨a,0,none⟩) b b)::L) (fun w=>F w/\(w0.heap.size<=a/\aG w a (.cells cs E))) R):aM P S w0 ops gh K (j::ord) L F R:=by
 refine aM.rG (X:=Nat) (fun a=> .slice (some ⟨a,0,none⟩) b b) (fun a w=>w0.heap.size<=a/\aG w a (.cells cs E)) (fun _=>R) s u r f (fun a w v f h=>⟨h.1,h.2.az f⟩) (fun _=>k) (fun w l m o=>?_) h
 unfold bD
 have e:(c.toArray.map fun(p:Nat×Operand)=>(p.1,bH L p.2))=vs.toArray:=by simp[q]
 have:(execOp (bH L) ⟨some d,.buildSlice T b c.toArray,ty,pos,af,g⟩).run P w= .ok (.value (.slice (some ⟨w.heap.size,0,none⟩) b b)) {w with heap:=w.heap.push (.cells cs E)}:=by
  simp only[execOp,e,Sem.run_bind,t w,Result.andThen,Sem.run_pure]
 rw[this]
 have i:=Kp.push w (.cells cs E) rfl
 exact⟨w.heap.size,rfl,⟨n _ _ i m,l.size,aG.push w _⟩,k _ _ i o,l.trans i.any⟩
theorem U8[c:cQ P T](f:ro L x=some (.pointer (some ⟨b,off,none⟩)))(e:∀w,F w->Row w b off [v]):aP P S w0 F L ⟨some d,.load T x,ty,pos,af,g⟩ v:=fun w _ a=>
 aZ (S:=[]) (w0:=w) (F:=fun _=>True) f (e w a) not_mem_nil w (Kp.refl _ _) trivial
end
end
section
variable{m:Bk}{f:Fb}{tot:Int}{ps xs:List Value}{base bk bm bs k n n0 sz tb:Nat}{t:Tl}{x:Tm}{T:TypeId}{v:Value}{w w':World}
def jJ(f:Fb)(mk:Dg)(t:Tx):Fb:=if dC f t=0 then fV (dU f mk t) t else zT f t.frm t.non
def dot(a:Tl)(f:Fb)(h:Int)(mk:Dg)(t:Tx):Tl:=if dC f t=0 then gI a (dU f mk t) h t else a
def kL(es:List Int)(f:Fb)(mk:Dg)(t:Tx):List Int:=if dC f t=0 then es++[gu (dU f mk t) t] else es
def V7(w:World)(base:Nat)(T:TypeId)(ps:List Value)(bs bm:Nat)(f:Fb)(t:Tl)(v:Value)(es:List Int)(h:Int)(mk:Dg)(x:Tx)(tot:Int)(n:Nat)(e:Ending)(w':World):Prop:=
 ∃bk' bm' tb' v' m',e= .returned (.int .i64 (dC f x))/\fW w' T ps bs bk' bm' tb' m' (dot t f h mk x) v'/\iY tot (n+6) m' (jJ f mk x)/\w'.ownsRow base 36 1 v' (kL es f mk x).length (bX vi (kL es f mk x))/\Kp (bs::bm::aR v) w w'/\(bm'=bm\/w.heap.size<=bm')/\(∀g,v'.ownBlock=some g->v.ownBlock=some g\/w.heap.size<=g)
theorem RI(n:Int)(w:World):(Instr.buildSlice 114 1 #[(0,.int .i64 n)]).run prog w= .ok (.slice (some ⟨w.heap.size,0,none⟩) 1 1) {w with heap:=w.heap.push (.cells #[.int .i64 n] 36)}:=by kernel_rfl
theorem ik(h:w.ownsRow base T sz v k xs):∃a c,v= .slice a k c:=by
 rcases h.2 with⟨rfl,h0⟩|⟨g',cap,cur,rfl,_⟩
 ·have:k=0:=h0
  subst this
  exact⟨_,_,rfl⟩
 ·exact⟨_,_,rfl⟩
theorem jZ{c d:Type}{enc:c->Value}{V:d->Value}{m:List (c×d)}{b:Nat}(h:w.ownsRow base T sz v k xs)(f:aF w b enc V m):∀g,v.ownBlock=some g->g∉[b]:=fun g a=>bQ (fun e=>by
 rcases h.2 with⟨rfl,_⟩|⟨g',cap,cur,rfl,_,hg',_⟩
 ·cases a
 ·simp only[Value.ownBlock,Option.some.injEq] at a
  exact cJ hg' f (a.trans e).symm)
theorem fW.iD{f:Value}(h:fW w T ps bs bk bm tb m t v)(g:w.ownsRow base 36 sz f k xs)(j:T≠36)(a:Kp (aR f) w w'):fW w' T ps bs bk bm tb m t v:=by
 have d:∀{b:Nat} {cs:Array Value} {T':TypeId},T'≠36->aG w b (.cells cs T')->b∉aR f:=fun l i c=>(eA.own g (Nat.le_refl _) (fun e=>l e.symm) _ c).2 _ _ i
 exact⟨h.blk.kp a (d j h.blk),⟨h.book.blk.kp a (d (by decide) h.book.blk),h.book.map.kp a (fun c=>jZ g h.book.map _ (aL c) (mem_singleton.2 rfl))⟩,h.app.kp a (d (by decide) h.app)⟩
theorem E8(o:fW w T ps bs bk bm tb m t v)(l:iY tot n m f)(p:tot<=1000000000)(q:x.In n0 w)(h:Int)(A:t.n<=1000000):
  Calls prog 121 #[.pointer (some ⟨bs,0,none⟩),.int .i64 h,eG x] w (fun e b=>∃c a i g,e= .returned (.int .i64 (gu f x.t))/\fW b T ps bs c a i g (gI t f h x.t) v/\iY tot (n+2) g (fV f x.t)/\Kp [bs,bm] w b/\(a=bm\/w.heap.size<=a)):=by
 have r:∀{e:Ending} {b:World},Jp w T ps bs bk bm tb m t v h x.t e b->∃c a i g,e= .returned (.int .i64 (gu f x.t))/\fW b T ps bs c a i g (gI t f h x.t) v/\iY tot (n+2) g (fV f x.t)/\Kp [bs,bm] w b/\(a=bm\/w.heap.size<=a):=fun{e b} u=>by
  obtain⟨c,a,i,B,y,s,z,j,d⟩:=u
  have k:=l.perm y
  refine⟨c,a,i,_,by rw[s,HR,k.eq],by rw[<-k.eq,<-Lg];exact z,k.ask h x.t,j,?_⟩
  rcases d with d|d
  ·exact Or.inl d.2.1
  ·exact Or.inr d.2.1
 by_cases j:x.t.kind=0
 ·exact(xQ o (l.qh p) q h j).mono (fun _ _=>r)
 ·exact(uV o (l.qh p) q h j A).mono (fun _ _=>r)
theorem Ih{x:Tx}(h:Co f x.frm x.non≠0):dC f x=Co f x.frm x.non:=by unfold dC;rw[if_pos h]
theorem Kq{x:Tx}(h:Co f x.frm x.non=0):dC f x=wX (zT f x.frm x.non) x.frm x.fee:=by unfold dC;rw[if_neg (fun g=>g h)]
theorem fW.Fz(h:fW w T ps bs bk bm tb m t v)(f:Value){d:List Value}(a:Kp [bs] w w')(j:aG w' bs (.cells (I7 bk tb f d).toArray T))(g:T≠136)(i:T≠76):fW w' T d bs bk bm tb m t f:=by
 have c:∀{b:Nat} {cs:Array Value} {T':TypeId},T≠T'->aG w b (.cells cs T')->b∉[bs]:=fun l k=>bQ (fun e=>by
  subst e
  have:=h.blk.uniq k
  simp only[Obj.cells.injEq] at this
  exact l this.2.1)
 exact⟨j,⟨h.book.blk.kp a (c g h.book.blk),h.book.map.kp a (bQ (fun e=>cJ h.blk h.book.map e))⟩,h.app.kp a (c i h.app)⟩
attribute [local irreducible] CG NG SG aP aM Row aG aF aQ dC dU gu fV gI Co zT wX Gt sx oU ky mC
theorem AH{es:List Int}(M:fW w T ps bs bk bm tb m t v)(U:iY tot n m f)(ht:tot<=1000000000)(ho:w.ownsRow base 36 1 v es.length (bX vi es))(a3:base<=w.heap.size)(ap:n0<=bm)(a5:es.length<=1000000)(S:T≠36)(aF:T≠136)(aH:T≠76)(hx:x.In n0 w)(h:Int)(mk:Dg)(aS:t.n<=1000000):
  Calls prog 73 #[.pointer (some ⟨bs,0,none⟩),.int .i64 h,dv mk,eG x] w (V7 w base T ps bs bm f t v es h mk x.t tot n):=by
 refine pq func73 rfl ntmps73 rfl ?_
 have a6:=M.book.map.lt
 repeat apply ar
 refine SG.box rfl rfl rfl (ag rfl) (fun b6 w1 A an R=>?_)
 have R:aG w1 b6 (.cells (dc mk).toArray 47):=R
 refine SG.box rfl rfl rfl (ag rfl) (fun b7 w2 ac a2 o=>?_)
 have o:aG w2 b7 (.cells (bV x).toArray 52):=o
 have k2:=A.trans ac
 have q6:Row w2 b6 0 (dc mk):=Row.all (R.az ac) rfl
 obtain⟨q,q0,q1,q2,q3,q4,q5⟩:=aX o
 obtain⟨r0,-,D⟩:=ic (M.az k2).blk
 repeat (first|apply ar|refine wt ?_)
 refine CG.tail mixed 8 [0,1,2,3,4,5,6,7] (by kernel_rfl) ?_
 repeat (apply bW;rfl;rfl;(first|apply aB|apply aZ|apply bf|apply aU|apply bR)<;>first|rfl|assumption|exact wn|apply ai)
 refine aM.tl (fun w3 ad _ _=>?_)
 have Z:=k2.trans ad
 have ah:=M.az Z
 refine SG.call rfl rfl rfl (vs:=[.pointer (some ⟨bk,0,none⟩),dv x.t.frm,.int .i64 x.t.non]) (bg.of rfl) ((tU ah.book (U.qh ht) x.t.frm x.t.non).mono (fun k w4 I=>?_))
 obtain⟨p,ax,B⟩:=I
 have Q:sx m x.t.frm x.t.non=Co f x.t.frm x.t.non:=by rw[<-U.eq];unfold sx Co;rfl
 rw[Q] at p
 refine⟨_,p,?_⟩
 clear p q r0 q0 q1 q2 q3 q4 q5 D q6
 have aj:fW w4 T ps bs bk bm tb (oU m x.t.frm x.t.non) t v:=ah.EZ B ax
 have V:iY tot (n+2) (oU m x.t.frm x.t.non) (zT f x.t.frm x.t.non):=U.use x.t.frm x.t.non
 have k4:Kp (bs::bm::aR v) w w4:=Z.any.trans (B.mono (fun z a=>by rw[mem_singleton] at a;rw[a];simp))
 have am:=jZ ho M.book.map
 have aq:=cr (aV ho Z) B am
 have o:=(o.az ad).kp B (bQ (by have:=A.size;omega))
 have q6:Row w4 b6 0 (dc mk):=Row.all (((R.az ac).az ad).kp B (bQ (by omega))) rfl
 by_cases a:Co f x.t.frm x.t.non=0
 rotate_left
 ·have y:=Ih a
  have F:jJ f mk x.t=zT f x.t.frm x.t.non:=by unfold jJ;rw[if_neg (by rw[y];exact a)]
  have G:dot t f h mk x.t=t:=by unfold dot;rw[if_neg (by rw[y];exact a)]
  have H:kL es f mk x.t=es:=by unfold kL;rw[if_neg (by rw[y];exact a)]
  repeat (first|apply ar|refine vr ?_)
  refine bO rfl ?_
  repeat (first|apply ar|refine ww ?_)
  refine aO (Or.inl rfl) results73 (aD.tmp rfl) ?_
  exact⟨bk,bm,tb,v,_,by rw[y],by rw[G];exact aj,by rw[F];exact V.mono (by omega),by rw[H];exact aq,k4,Or.inl rfl,fun _ s=>Or.inl s⟩
 have y:=Kq a
 rw[a]
 obtain⟨q,q0,q1,q2,q3,q4,q5⟩:=aX o
 obtain⟨r0,-,D⟩:=ic aj.blk
 repeat (first|apply ar|refine vp ?_)
 refine bA rfl ?_
 repeat apply ar
 refine CG.tail mixed 9 [0,1,2,3,4,5,6,7,8] (by kernel_rfl) ?_
 repeat (apply bW;rfl;rfl;(first|apply aB|apply aZ|apply bf|apply aU|apply bR)<;>first|rfl|assumption|exact wn|apply ai)
 refine aM.tl (fun w5 J _ _=>?_)
 have ak:=aj.az J
 refine SG.call rfl rfl rfl (vs:=[.pointer (some ⟨bk,0,none⟩),dv x.t.frm,dv mk,.int .i64 x.t.fee]) (bg.of rfl) ((iV ak.book (V.qh ht) x.t.frm mk x.t.fee).mono (fun k w6 I=>?_))
 obtain⟨p,aA,K⟩:=I
 have Q:ky (oU m x.t.frm x.t.non) x.t.frm x.t.fee=dC f x.t:=by rw[y,<-V.eq];unfold ky wX;rfl
 rw[Q] at p
 refine⟨_,p,?_⟩
 clear p q r0 q0 q1 q2 q3 q4 q5 D
 have C:fW w6 T ps bs bk bm tb (mC (oU m x.t.frm x.t.non) x.t.frm mk x.t.fee) t v:=ak.EZ K aA
 have Y:=cr (aV aq J) K am
 have k6:Kp (bs::bm::aR v) w w6:=(k4.trans J.any).trans (K.mono (fun z a=>by rw[mem_singleton] at a;rw[a];simp))
 have an:iY tot (n+4) (mC (oU m x.t.frm x.t.non) x.t.frm mk x.t.fee) (dU f mk x.t):=U.Ks mk x.t
 by_cases r:dC f x.t=0
 rotate_left
 ·have e0:mC (oU m x.t.frm x.t.non) x.t.frm mk x.t.fee=oU m x.t.frm x.t.non:=by unfold mC;rw[if_neg (fun g=>r (Q.symm.trans g.1))]
  have F:jJ f mk x.t=zT f x.t.frm x.t.non:=by unfold jJ;rw[if_neg r]
  have G:dot t f h mk x.t=t:=by unfold dot;rw[if_neg r]
  have H:kL es f mk x.t=es:=by unfold kL;rw[if_neg r]
  rw[e0] at C
  repeat (first|apply ar|refine vr ?_)
  refine bO rfl ?_
  repeat (first|apply ar|refine ww ?_)
  refine aO (Or.inl rfl) results73 (aD.tmp rfl) ?_
  exact⟨bk,bm,tb,v,_,rfl,by rw[G];exact C,by rw[F];exact V.mono (by omega),by rw[H];exact Y,k6,Or.inl rfl,fun _ s=>Or.inl s⟩
 have F:jJ f mk x.t=fV (dU f mk x.t) x.t:=by unfold jJ;rw[if_pos r]
 have G:dot t f h mk x.t=gI t (dU f mk x.t) h x.t:=by unfold dot;rw[if_pos r]
 have H:kL es f mk x.t=es++[gu (dU f mk x.t) x.t]:=by unfold kL;rw[if_pos r]
 have aW:x.In n0 w6:=(((hx.az Z).iD B (ah.book.map.BB ap)).az J).iD K (ak.book.map.BB ap)
 have o:=(o.az J).kp K (bQ (by have:=A.size;omega))
 have q:=(aX o).1
 obtain⟨-,-,D⟩:=ic C.blk
 rw[r]
 repeat (first|apply ar|refine vp ?_)
 refine bA rfl ?_
 repeat apply ar
 have s6:=k6.size
 have a1:∀z∈bs::bm::aR v,z<w6.heap.size:=fun z a=>by
  rcases mem_cons.1 a with rfl|a
  ·exact C.blk.lt
  rcases mem_cons.1 a with rfl|a
  ·exact C.book.map.lt
  ·exact cK Y z (aL a)
 have aY:b7∉bs::bm::aR v:=fun u=>by
  rcases mem_cons.1 u with k|u
  ·have:=M.blk.lt;have:=A.size;omega
  rcases mem_cons.1 u with k|u
  ·have:=A.size;omega
  ·have:=cK ho b7 (aL u);have:=A.size;omega
 refine CG.JX mixed 11 [0,1,2,3,4,5,6,7,8,9,10] [8,9,10] (bs::bm::aR v) (fun w=>Row w bs 2 [v]) (fun w=>(fW w T ps bs bk bm tb (mC (oU m x.t.frm x.t.non) x.t.frm mk x.t.fee) t v/\x.In n0 w)/\w.ownsRow base 36 1 v es.length (bX vi es)) (by kernel_rfl) D (fun _ _ d h=>h.az d) ⟨⟨C,aW⟩,Y⟩ (fun _ _ d h=>⟨⟨h.1.1.az d,h.1.2.az d⟩,aV h.2 d⟩) ?_
 clear D
 iterate 4 (refine aM.val rfl rfl rfl (by first|((first|apply aB|apply aU|apply bR)<;>(exact rfl))|fail) ?_)
 refine aM.val rfl rfl rfl (U8 rfl (fun _ l=>l)) ?_
 iterate 2 (refine aM.val rfl rfl rfl (by first|(apply aB<;>(exact rfl))|fail) ?_)
 refine aM.val rfl rfl rfl (bf rfl q aY (ay _)) ?_
 refine aM.ES (vs:=[.pointer (some ⟨bs,0,none⟩),.int .i64 h,eG x]) (X:=Nat×Nat×Nat×Bk) (fun _=> .int .i64 (gu (dU f mk x.t) x.t)) (fun q _=>iY tot (n+6) q.2.2.2 (fV (dU f mk x.t) x.t)/\(q.2.1=bm\/w.heap.size<=q.2.1)) (fun q W=>fW W T ps bs q.1 q.2.1 q.2.2.1 q.2.2.2 (gI t (dU f mk x.t) h x.t) v/\W.ownsRow base 36 1 v es.length (bX vi es)) rfl rfl rfl rfl (bg.of rfl) (fun _ _ _ _ h=>h) (fun _ _ _ d h=>⟨h.1.az d,aV h.2 d⟩) (fun W d l j=>?_) (fun q=>?_)
 ·refine(E8 j.1.1 an ht j.1.2 h aS).mono (fun k N I=>?_)
  obtain⟨O,ab,aa,m',p,av,aI,ao,hc⟩:=I
  have aK:=j.1.1.blk
  exact⟨(O,ab,aa,m'),p,⟨(ic av.blk).2.2,aI,hc.elim Or.inl (fun g=>Or.inr (Nat.le_trans s6 (Nat.le_trans d.size g)))⟩,⟨av,cr j.2 ao (fun g s=>gG (fun k=>by subst k;exact(cF j.2 S aK g s) (mem_singleton.2 rfl)) (fun k=>by subst k;exact jZ j.2 j.1.1.book.map g s (mem_singleton.2 rfl)))⟩,ao.mono (fun z a=>by rcases mem_cons.1 a with rfl|a;simp;rw[mem_singleton] at a;rw[a];simp)⟩
 obtain⟨O,ab,aa,m'⟩:=q
 refine aM.EY (cs:= #[.int .i64 (gu (dU f mk x.t) x.t)]) (E:=36) rfl rfl rfl rfl rfl (fun W=>RI _ W) (fun W N d h=>⟨h.1.az d,h.2⟩) (fun _ _ d h=>⟨h.1.az d,aV h.2 d⟩) (fun bn=>?_)
 apply aM.xR (P:=prog) (t:=114) (base:=base) (e:=36) (i:=Tryz.t36) (f:=ty.i36) (v:=v) (nn:=es.length) (xs:=bX vi es) (b:=bn) (off:=0) (m:=1) (c:=1) (news:=[.int .i64 (gu (dU f mk x.t) x.t)])
 iterate 4 exact rfl
 iterate 2 exact ag rfl
 iterate 3 exact rfl
 ·exact fun W d l=>Row.all l.2.2 rfl
 ·exact rfl
 ·exact rfl
 ·simp only[maxLen];omega
 ·show(es.length+1)*8<=_;omega
 ·omega
 ·exact fun _ h=>by simp[h]
 ·exact fun W N af d j l=>⟨⟨(ic (j.iD af S d).blk).2.2,l.1.2⟩,l.2.1,l.2.2.kp d (fun u=>by have:=cK Y _ (aL u);omega)⟩
 ·exact fun W N d h=>h.az d
 ·exact fun W N af d j=>j.iD af S d
 intro v7
 refine aM.tl (fun w7 aP l j=>?_)
 obtain⟨⟨⟨-,aJ,aN⟩,a4,a0⟩,aT⟩:=l
 obtain⟨al,L⟩:=j
 have aw:(es++[gu (dU f mk x.t) x.t]).length=es.length+1:=by rw[length_append];rfl
 have L:w7.ownsRow base 36 1 v7 (es++[gu (dU f mk x.t) x.t]).length (bX vi (es++[gu (dU f mk x.t) x.t])):=by
  rw[aw,dP,ix]
  exact L
 obtain⟨a7,c7,rfl⟩:=ik L
 repeat (apply au;rfl;(first|apply aU|apply bR)<;>rfl)
 refine SG.cp [.pointer (some ⟨O,0,none⟩),.iface 74 (.pointer (some ⟨aa,0,none⟩))] [v] ps rfl rfl (ag rfl) (ag rfl) al.blk rfl rfl rfl rfl rfl (fun w8 ae aC=>?_)
 have aQ:=al.Fz _ ae aC aF aH
 repeat (first|apply ar|refine wt ?_)
 refine aO (Or.inl rfl) results73 (aD.tmp rfl) ?_
 refine⟨O,ab,aa,_,m',by rw[r],by rw[G];exact aQ,by rw[F];exact aJ,by rw[H];exact cr L ae (cF L S al.blk),(k6.trans aP).trans (ae.mono (fun z a=>by rw[mem_singleton] at a;rw[a];simp)),aN,fun g s=>?_⟩
 rcases aT g s with k|k
 ·exact Or.inl k
 ·exact Or.inr (by omega)
end
section
variable{tot:Int}{A S:List Nat}{Ts:List TypeId}{b n:Nat}{w w':World}
structure Bd where
 fork:Int
 leave:Int
 sleep:Int
def iF(b:Bd):List Value:=[.int .i64 b.fork,.int .i64 b.leave,.int .i64 b.sleep]
structure Nm where
 bk:Nat
 bm:Nat
 tb:Nat
 f:Fb
 t:Tl
 ae:Option Addr
 ce:Nat
 es:List Int
 x:Bm
 an:Option Addr
 cn:Nat
def Nm.iC(q:Nm):List Dg:=q.x.xs.map (fun x=>aJ x.t)
def QC(q:Nm):List Value:=I7 q.bk q.tb (.slice q.ae q.es.length q.ce) (cR q.x++[.slice q.an q.x.xs.length q.cn])
def yP(q:Nm):Nat:=1000+400*q.x.ht.toNat
structure mI(w:World)(n:Nat)(A:List Nat)(tot:Int)(b:Nat)(q:Nm):Prop where
 blk:aG w b (.cells (QC q).toArray 118)
 book:∃m,bS w q.bk q.bm m/\iY tot (yP q) m q.f
 nA:q.bm∉A
 nb:n<=q.bm
 app:gp w q.tb q.t
 ans:Sl vi 1 w q.ae q.es
 anT:Tg 36 n w q.ae q.es
 x:q.x.In n w
 nam:Sl dc 8 w q.an q.iC
 naT:Tg 47 n w q.an q.iC
 el:q.es.length=q.x.xs.length
def IM:List TypeId:=[118,136,76,36,47,5]
def CT:List TypeId:=[200,214,216]
theorem Tm.In.qi{x:Tm}(h:x.In n w)(c:Kp S w w')(a:dt n Ts A w S)(b:5∉Ts):x.In n w':=h.iD c (a.not b)
theorem Bm.In.jq{x:Bm}(h:x.In n w)(b:Kp S w w')(a:dt n Ts A w S)(d:5∉Ts)(c:52∉Ts):x.In n w':=
 ⟨⟨(h.tx.sl.Cs h.tx.tg b (a.not c)).1,(h.tx.sl.Cs h.tx.tg b (a.not c)).2,fun y e=>(h.tx.ins y e).qi b a d⟩,h.len⟩
theorem mI.kp{A':List Nat}{q:Nm}(h:mI w n A tot b q)(a:Kp S w w')(c:dt n Ts A' w S)(f:∀z∈A',z∈A)(d:∀T∈IM,T∉Ts)(k:q.x.In n w'):mI w' n A tot b q:=by
 obtain⟨m,e,i⟩:=h.book
 have t:∀{T:TypeId},T∈IM->eA T n w S:=fun j=>c.not (d _ j)
 exact⟨c.blk a h.blk (d _ (by decide)),⟨m,⟨c.blk a e.blk (d _ (by decide)),c.yY a e.map (fun g=>h.nA (f _ g))⟩,i⟩,h.nA,h.nb,c.blk a h.app (d _ (by decide)),(h.ans.Cs h.anT a (t (by decide))).1,(h.ans.Cs h.anT a (t (by decide))).2,k,(h.nam.Cs h.naT a (t (by decide))).1,(h.nam.Cs h.naT a (t (by decide))).2,h.el⟩
theorem mI.az{q:Nm}(h:mI w n A tot b q)(a:Kp [] w w'):mI w' n A tot b q:=h.kp (Ts:=[]) (A':=[]) a dt.nil (fun _ h=>by cases h) (fun _ _ h=>by cases h) (h.x.az a)
theorem fg{q:Nm}{T:TypeId}(h:aG w b (.cells (QC q).toArray T)):Row w b 0 (tV q.bk q.tb (.slice q.ae q.es.length q.ce))/\Row w b 2 [.slice q.ae q.es.length q.ce]/\Row w b 3 (cR q.x)/\Row w b 11 [.int .i64 q.x.ht]/\Row w b 20 [.slice q.x.a q.x.xs.length q.x.c]/\Row w b 21 [.slice q.an q.x.xs.length q.cn]/\Row w b 0 [.pointer (some ⟨q.bk,0,none⟩)]/\Row w b 1 [.iface 74 (.pointer (some ⟨q.tb,0,none⟩))]:=by
 have e:QC q=tV q.bk q.tb (.slice q.ae q.es.length q.ce)++(cR q.x++[.slice q.an q.x.xs.length q.cn]):=rfl
 have j:=Row.of h [] (cR q.x++[.slice q.an q.x.xs.length q.cn]) (by rw[e,nil_append]) rfl
 have d:=Row.of h (tV q.bk q.tb (.slice q.ae q.es.length q.ce)) [.slice q.an q.x.xs.length q.cn] (l:=cR q.x) (by rw[e]) rfl
 have n:=Row.of h (tV q.bk q.tb (.slice q.ae q.es.length q.ce)++cR q.x) [] (l:=[.slice q.an q.x.xs.length q.cn]) (by rw[e,append_assoc,append_nil]) (by rw[length_append,aH])
 obtain⟨-,k,-,m⟩:=pA d
 obtain⟨f,g,i⟩:=ic h
 exact⟨j,i,d,k,m,n,f,g⟩
structure Cm where
 cb:Nat
 tb:Nat
 tm:Nat
 pb:Nat
 nm:Nat
 vb:Nat
 pv:Value
 bd:Bd
 first:Dg
 tr:Tr
 ps:List Em
 ns:List (Dg×Nat×Nm)
def LN(c:Cm):List Value:=iF c.bd++(.iface 40 (.pointer (some ⟨c.vb,0,none⟩))::(dc c.first++[.pointer (some ⟨c.tb,0,none⟩),.pointer (some ⟨c.pb,0,none⟩),.map (some c.nm)]))
abbrev Kx(q:Nat×Nm):Value:= .pointer (some ⟨q.1,0,none⟩)
structure cS(w:World)(n:Nat)(A:List Nat)(tot:Int)(c:Cm):Prop where
 blk:aG w c.cb (.cells (LN c).toArray 127)
 tree:cO w c.tb c.tm c.tr
 pool:Pl w n c.pb c.pv 256 c.ps
 map:aF w c.nm (dv (n:=8)) Kx c.ns
 nd:∀p∈c.ns,mI w n A tot p.2.1 p.2.2
 tA:c.tm∈A
 nA:c.nm∈A
 ne:c.tm≠c.nm
 tn:n<=c.tm
 nn:n<=c.nm
 bn:n<=c.tb
 w0:n<=w.heap.size
theorem cS.az{c:Cm}(h:cS w n A tot c)(a:Kp [] w w'):cS w' n A tot c:=
 ⟨h.blk.az a,h.tree.az a,h.pool.az a,h.map.az a,fun p b=>(h.nd p b).az a,h.tA,h.nA,h.ne,h.tn,h.nn,h.bn,Nat.le_trans h.w0 a.size⟩
theorem cZ{c:Cm}(h:cS w n A tot c):Row w c.cb 0 (iF c.bd)/\Row w c.cb 0 [.int .i64 c.bd.fork]/\Row w c.cb 3 [.iface 40 (.pointer (some ⟨c.vb,0,none⟩))]/\Row w c.cb 4 (dc c.first)/\Row w c.cb 12 [.pointer (some ⟨c.tb,0,none⟩)]/\Row w c.cb 13 [.pointer (some ⟨c.pb,0,none⟩)]/\Row w c.cb 14 [.map (some c.nm)]:=by
 have h:=h.blk
 have a:(dc c.first).length=8:=ai _
 refine⟨Row.of h [] (.iface 40 (.pointer (some ⟨c.vb,0,none⟩))::(dc c.first++[.pointer (some ⟨c.tb,0,none⟩),.pointer (some ⟨c.pb,0,none⟩),.map (some c.nm)])) rfl rfl,Row.of h [] (.int .i64 c.bd.leave:: .int .i64 c.bd.sleep:: .iface 40 (.pointer (some ⟨c.vb,0,none⟩))::(dc c.first++[.pointer (some ⟨c.tb,0,none⟩),.pointer (some ⟨c.pb,0,none⟩),.map (some c.nm)])) rfl rfl,Row.of h (iF c.bd) (dc c.first++[.pointer (some ⟨c.tb,0,none⟩),.pointer (some ⟨c.pb,0,none⟩),.map (some c.nm)]) rfl rfl,Row.of h (iF c.bd++[.iface 40 (.pointer (some ⟨c.vb,0,none⟩))]) [.pointer (some ⟨c.tb,0,none⟩),.pointer (some ⟨c.pb,0,none⟩),.map (some c.nm)] rfl rfl,?_,?_,?_⟩
 ·exact Row.of h (iF c.bd++(.iface 40 (.pointer (some ⟨c.vb,0,none⟩))::dc c.first)) [.pointer (some ⟨c.pb,0,none⟩),.map (some c.nm)] (by simp[LN]) (by simp[iF,a])
 ·exact Row.of h (iF c.bd++(.iface 40 (.pointer (some ⟨c.vb,0,none⟩))::(dc c.first++[.pointer (some ⟨c.tb,0,none⟩)]))) [.map (some c.nm)] (by simp[LN]) (by simp[iF,a])
 ·exact Row.of h (iF c.bd++(.iface 40 (.pointer (some ⟨c.vb,0,none⟩))::(dc c.first++[.pointer (some ⟨c.tb,0,none⟩),.pointer (some ⟨c.pb,0,none⟩)]))) [] (by simp[LN]) (by simp[iF,a])
end
section
variable{b:Bd}{j:Nat}
def yc(b:Bd):Value:= .agg (iF b).toArray
def G8(b:Bd)(j:Nat):Int:=[b.fork,b.leave,b.sleep].getD j 0
def Ca(z:Int):Prop:=z<0\/1024<z
instance(z:Int):Decidable (Ca z):=by unfold Ca;infer_instance
def zJ(b:Bd):Int:=if Ca b.fork\/Ca b.leave\/Ca b.sleep then 2 else 0
theorem Jg(b:Bd)(h:j<3):(iF b)[j]?=some (.int .i64 (G8 b j)):=by
 match j,h with
 |0,_=>rfl
 |1,_=>rfl
 |2,_=>rfl
theorem G7(h:j<3)(a:Ca (G8 b j)):zJ b=2:=by
 unfold zJ
 match j,h with
 |0,_=>exact if_pos (Or.inl a)
 |1,_=>exact if_pos (Or.inr (Or.inl a))
 |2,_=>exact if_pos (Or.inr (Or.inr a))
theorem Je(h:∀j,j<3->¬Ca (G8 b j)):zJ b=0:=if_neg (fun g=>by
 rcases g with g|g|g
 ·exact h 0 (by omega) g
 ·exact h 1 (by omega) g
 ·exact h 2 (by omega) g)
theorem R5(b:Bd)(w:World):(Instr.build 165 #[(0,.int .i64 b.fork),(1,.int .i64 b.leave),(2,.int .i64 b.sleep)]).run prog w= .ok (.agg (iF b).toArray) w:=by kernel_rfl
attribute [local irreducible] CG NG SG aP aM Row aG aF aQ
theorem zK(b:Bd)(w:World):dq prog 35 #[yc b] w (.int .i64 (zJ b)):=by
 refine bC func35 rfl ntmps35 rfl ?_
 repeat apply ar
 refine SG.box rfl rfl rfl (ag rfl) (fun f d g y a=>?_)
 have a:aG d f (.cells (iF b).toArray 31):=a
 have s:Row d f 0 [.int .i64 b.fork]:=Row.of a [] [.int .i64 b.leave,.int .i64 b.sleep] rfl rfl
 have t:Row d f 1 [.int .i64 b.leave]:=Row.of a [.int .i64 b.fork] [.int .i64 b.sleep] rfl rfl
 have u:Row d f 2 [.int .i64 b.sleep]:=Row.of a [.int .i64 b.fork,.int .i64 b.leave] [] rfl rfl
 repeat (first|apply ar|(apply au;rfl;(first|apply aE|apply aZ|apply aU)<;>first|rfl|assumption|exact wn))
 refine SG.val rfl rfl rfl rfl (aK rfl (R5 b)) ?_
 repeat (first|apply ar|refine qa0 ?_)
 refine CG.loop (X:=Nat) (fun q=>[(11,.agg (iF b).toArray),(12,.int .i64 (q:Int))])
  (fun q v=>q<=3/\v=d/\∀j,j<q->¬Ca (G8 b j)) (fun q=>3-q) 0 ⟨by omega,rfl,fun j h=>by omega⟩ (aS.of rfl) ?_
 rintro i A ⟨z,rfl,m⟩
 refine CG.to [(11,.agg (iF b).toArray),(12,.int .i64 (i:Int))] (aS.of rfl) ?_
 clear s t u
 by_cases l:i<3
 ·have n:(i:Int)<3:=by omega
  have x:=Jg b l
  repeat (first|apply ar|refine ul ?_)
  refine bO rfl ?_
  by_cases c:Ca (G8 b i)
  ·have k:=G7 l c
   unfold Ca at c
   by_cases o:G8 b i<0
   ·repeat (first|apply ar|(apply au;rfl;(first|apply Kh|apply aB|apply aE|apply cI|apply cg)<;>first|rfl|exact zc|assumption|exact qf)|refine SG.skip rfl rfl ?_)
    refine bO rfl ?_
    repeat (first|apply ar|refine wt ?_)
    refine aO (Or.inl rfl) results35 (aD.tmp rfl) ?_
    exact⟨by rw[k],g⟩
   ·have p:1024<G8 b i:=by omega
    repeat (first|apply ar|(apply au;rfl;(first|apply Kh|apply aB|apply aE|apply cI|apply cg|apply ij)<;>first|rfl|exact zc|assumption|exact qf|exact qr))
    refine bO rfl ?_
    repeat (first|apply ar|refine wt ?_)
    refine aO (Or.inl rfl) results35 (aD.tmp rfl) ?_
    exact⟨by rw[k],g⟩
  ·have o:¬G8 b i<0:=fun h=>c (Or.inl h)
   have p:¬1024<G8 b i:=fun h=>c (Or.inr h)
   repeat (first|apply ar|(apply au;rfl;(first|apply Kh|apply aB|apply aE|apply cI|apply cg|apply ij)<;>first|rfl|exact zc|assumption|exact qr))
   refine bA rfl ?_
   repeat (first|apply ar|refine wz ?_)
   refine NG.round (i+1) (aS.of rfl) ⟨by omega,rfl,fun j r=>?_⟩ (by omega)
   by_cases e:j=i
   ·rw[e];exact c
   ·exact m j (by omega)
 ·have n:¬(i:Int)<3:=by omega
  repeat (first|apply ar|refine un ?_)
  refine bA rfl ?_
  repeat (first|apply ar|refine wt ?_)
  refine aO (Or.inl rfl) results35 (aD.tmp rfl) ?_
  exact⟨by rw[Je (fun j r=>m j (by omega))],g⟩
theorem lr{w:World}{n:Nat}{A:List Nat}{tot:Int}{c:Cm}(h:cS w n A tot c){q:Nat×Nm}(e:aC c.ns c.tr.tip=some q):dq prog 53 #[.pointer (some ⟨c.cb,0,none⟩)] w (Kx q):=by
 refine bC func53 rfl ntmps53 rfl ?_
 obtain⟨-,-,-,-,f,-,g⟩:=cZ h
 have a:=h.map
 repeat (first|apply ar|refine wt ?_)
 refine CG.tail mixed 9 [0,1,2,3,4,5,6,7,8] (by kernel_rfl) ?_
 repeat (apply bW;rfl;rfl;(first|apply aB|apply aZ|apply aU|apply bR)<;>first|rfl|assumption|exact wn)
 refine aM.call rfl rfl rfl (vs:=[.pointer (some ⟨c.tb,0,none⟩)]) (bg.of rfl) (fun W d _=>fb (h.tree.az d)) ?_
 refine aM.tl (fun i b _ _=>?_)
 have a:=a.az b
 repeat (first|apply ar|(apply au;rfl;(first|apply aE|apply oQ)<;>first|rfl|assumption|exact wn|exact iX (by assumption)|fail))
 refine aO (Or.inl rfl) results53 (aD.tmp rfl) ?_
 exact⟨rfl,b⟩
end
section
variable{c:Cm}{d:Dg}{tot:Int}{l:List Dg}{A:List Nat}{n:Nat}{q:Nat×Nm}{w:World}
theorem fG{b c:Type}[DecidableEq b]{m:List (b×c)}{k:b}{v:c}(h:aC m k=some v):(k,v)∈m:=by
 induction m with
 |nil=>simp[aC] at h
 |cons p m d=>
  obtain⟨a,y⟩:=p
  unfold aC at h
  by_cases e:a=k
  ·rw[if_pos e] at h
   simp only[Option.some.injEq] at h
   rw[e,h]
   exact mem_cons_self
  ·rw[if_neg e] at h
   exact mem_cons_of_mem _ (d h)
theorem cS.yQ(h:cS w n A tot c)(a:aC c.ns d=some q):mI w n A tot q.1 q.2:=h.nd _ (fG a)
def gr(l:List Dg)(d:Dg):Int:=if l.findIdx (fun x=>decide (x=d))<l.length then(l.findIdx (fun x=>decide (x=d)):Int) else-1
theorem Ej(h:∀j (a:j<l.length),l[j]≠d):gr l d= -1:=if_neg (fun g=>by
 have:=findIdx_getElem (w:=g)
 simp only[decide_eq_true_eq] at this
 exact h _ g this)
theorem ID{i:Nat}(a:i<l.length)(c:l[i]=d)(h:∀j (b:j<i),l[j]≠d):gr l d=(i:Int):=by
 have:l.findIdx (fun x=>decide (x=d))=i:=(findIdx_eq a).2 ⟨by simp[c],fun j b=>by simp[h j b]⟩
 unfold gr
 rw[this,if_pos a]
attribute [local irreducible] CG NG SG aP aM Row aG aF aQ aJ
theorem oE(h:cS w n A tot c)(b:aC c.ns c.tr.tip=some q):dq prog 22 #[.pointer (some ⟨c.cb,0,none⟩)] w (.int .i64 q.2.x.ht):=by
 refine bC func22 rfl ntmps22 rfl ?_
 repeat (first|apply ar|refine qa1 ?_)
 refine bA rfl ?_
 repeat (first|apply ar|refine qa0 ?_)
 refine SG.ret rfl rfl rfl (vs:=[.pointer (some ⟨c.cb,0,none⟩)]) (bg.of rfl) (lr h b) (fun d a=>?_)
 obtain⟨-,-,-,r,-⟩:=fg ((h.yQ b).az a).blk
 repeat (first|apply ar|(apply au;rfl;(first|apply aE|apply aZ|apply aU|apply bR)<;>first|rfl|assumption|exact wn))
 refine aO (Or.inl rfl) results22 (aD.tmp rfl) ?_
 exact⟨rfl,a⟩
theorem tQ(h:cS w n A tot c)(g:aC c.ns c.tr.tip=some q):Calls prog 30 #[.pointer (some ⟨c.cb,0,none⟩)] w (fun e p=>∃y:Bm,y.b=q.2.x.b/\e= .returned (eL y)/\y.In 0 p/\Kp [] w p):=by
 refine bC func30 rfl ntmps30 rfl ?_
 repeat apply ar
 refine SG.alloc rfl rfl rfl (fun j E m u f=>?_)
 repeat (first|apply ar|(apply au;rfl;(first|apply jF|apply aB)<;>rfl))
 refine bA rfl ?_
 repeat (first|apply ar|refine qa0 ?_)
 refine SG.ret rfl rfl rfl (vs:=[.pointer (some ⟨c.cb,0,none⟩)]) (bg.of rfl) (lr (h.az m) g) (fun F a=>?_)
 have i:=m.trans a
 obtain⟨-,-,r,-⟩:=fg ((h.yQ g).az i).blk
 repeat (apply au;rfl;(first|apply bf|apply aU|apply bR)<;>first|rfl|assumption|exact wn|apply aH)
 refine SG.call rfl rfl rfl (vs:=[eL q.2.x]) (bg.of rfl) ((jx ((h.yQ g).az i).x).mono (fun e C v=>?_))
 obtain⟨y,B,rfl,k,d,-⟩:=v
 refine⟨_,rfl,?_⟩
 refine SG.aN (l:=cR y) rfl rfl (ag rfl) (ag rfl) ((f.az a).az d) (aH _) rfl (dB _) (fun D o s=>?_)
 have z:Row D j 0 (cR y):=Row.all s rfl
 have t:dD 0 C [j]:=rh ((f.az a).az d) (by decide)
 repeat apply ar
 refine aO (Or.inl rfl) results30 (aD.agg rfl rfl z (aH _)) ?_
 exact⟨y,B,rfl,⟨k.tx.kp o t (eA.cons (Nat.zero_le _) (eA.cells ((f.az a).az d) (by decide)) eA.nil),k.len⟩,(i.trans d).aj o (aW u)⟩
theorem p7(h:cS w n A tot c)(i:aC c.ns c.tr.tip=some q):Calls prog 15 #[.pointer (some ⟨c.cb,0,none⟩)] w (fun e j=>∃a d m,e= .returned (.pointer (some ⟨a,0,none⟩))/\bS j a d m/\iY tot (yP q.2) m q.2.f/\w.heap.size<=a/\w.heap.size<=d/\Kp [] w j):=by
 refine bC func15 rfl ntmps15 rfl ?_
 repeat (first|apply ar|refine qa1 ?_)
 refine bA rfl ?_
 repeat (first|apply ar|refine qa0 ?_)
 refine SG.ret rfl rfl rfl (vs:=[.pointer (some ⟨c.cb,0,none⟩)]) (bg.of rfl) (lr h i) (fun C b=>?_)
 have g:=(h.yQ i).az b
 obtain⟨-,-,-,-,-,-,r,-⟩:=fg g.blk
 obtain⟨m,u,s⟩:=g.book
 repeat (apply au;rfl;(first|apply aZ|apply aU|apply bR)<;>first|rfl|assumption|exact wn)
 refine SG.call rfl rfl rfl (vs:=[.pointer (some ⟨q.2.bk,0,none⟩)]) (bg.of rfl) ((gn u).mono (fun e D p=>?_))
 obtain⟨l,k,x,rfl,o,v,y,z,t⟩:=p
 refine⟨_,rfl,?_⟩
 have B:=b.size
 repeat (first|apply ar|refine wt ?_)
 refine aO (Or.inl rfl) results15 (aD.tmp rfl) ?_
 exact⟨l,k,x,rfl,o,s.perm v,by omega,by omega,b.trans t⟩
theorem zj{a:Option Addr}{cc:Nat}(u:Sl dc 8 w a l)(D:l.length<=1000000)(d:Dg):dq prog 58 #[.slice a l.length cc,dv d] w (.int .i64 (gr l d)):=by
 refine bN func58 rfl ntmps58 rfl ?_
 repeat apply ar
 refine SG.box rfl rfl rfl (ag rfl) (fun c r x B g=>?_)
 have g:aG r c (.cells (dc d).toArray 47):=g
 have s:Row r c 0 (dc d):=Row.all g rfl
 repeat (first|apply ar|refine qb1 ?_)
 refine CG.loop (X:=Nat) (fun q=>[(0,.slice a l.length cc),(3,.pointer (some ⟨c,0,none⟩)),(7,.int .i64 (l.length:Int)),(8,.int .i64 (q:Int))])
  (fun q y=>q<=l.length/\Kp [] r y/\∀j (b:j<l.length),j<q->l[j]≠d) (fun q=>l.length-q) 0 ⟨Nat.zero_le _,Kp.refl _ _,fun j _ h=>by omega⟩ (aS.of rfl) ?_
 rintro i H ⟨C,k,o⟩
 refine CG.to [(0,.slice a l.length cc),(3,.pointer (some ⟨c,0,none⟩)),(7,.int .i64 (l.length:Int)),(8,.int .i64 (i:Int))] (aS.of rfl) ?_
 have s:=s.az k
 have p:=x.trans k
 by_cases n:i<l.length
 ·have t:(i:Int)<(l.length:Int):=by omega
  obtain⟨A,G,rfl,F⟩:=(u.az p).at n
  repeat (first|apply ar|refine ul ?_)
  refine bO rfl ?_
  by_cases f:l[i]=d
  ·have v:d=l[i]:=f.symm
   repeat (first|apply ar|refine ww ?_)
   refine CG.tail mixed 5 [0,1,2,3,4] (by kernel_rfl) ?_
   repeat (apply bW;rfl;rfl;(first|apply aB|apply bf|apply fa)<;>first|rfl|exact zc|assumption|exact wn|apply ai)
   refine aM.tl (fun z m _ _=>?_)
   repeat (first|apply ar|(apply au;rfl;apply vT<;>first|rfl|exact qf))
   refine bO rfl ?_
   repeat (first|apply ar|refine ww ?_)
   refine aO (Or.inl rfl) results58 (aD.tmp rfl) ?_
   exact⟨by rw[ID n f (fun j b=>o j (by omega) b)],p.trans m⟩
  ·have v:¬d=l[i]:=fun e=>f e.symm
   repeat (first|apply ar|refine ww ?_)
   refine CG.tail mixed 5 [0,1,2,3,4] (by kernel_rfl) ?_
   repeat (apply bW;rfl;rfl;(first|apply aB|apply bf|apply fa)<;>first|rfl|exact zc|assumption|exact wn|apply ai)
   refine aM.tl (fun z m _ _=>?_)
   repeat (first|apply ar|(apply au;rfl;apply vT<;>first|rfl|exact qr))
   refine bA rfl ?_
   repeat (first|apply ar|refine wz ?_)
   refine NG.round (i+1) (aS.of rfl) ⟨n,k.trans m,fun j b E=>?_⟩ (by omega)
   by_cases e:j=i
   ·subst e;exact f
   ·exact o j b (by omega)
 ·have t:¬(i:Int)<(l.length:Int):=by omega
  repeat (first|apply ar|refine un ?_)
  refine bA rfl ?_
  repeat (first|apply ar|refine wt ?_)
  refine aO (Or.inl rfl) results58 (aD.tmp rfl) ?_
  exact⟨by rw[Ej (fun j b=>o j b (by omega))],p⟩
end
section
variable{c:Cm}{tot:Int}{A:List Nat}{n:Nat}{w:World}
def dz(ns:List (Dg×Nat×Nm))(d:Dg):List Dg->Option (Int×Int)
 |[]=>none
 |i::l=>match aC ns i with
  |some q=>if 0<=gr q.2.iC d then some (q.2.x.ht,q.2.es.getD (gr q.2.iC d).toNat 0) else dz ns d l
  |none=>dz ns d l
def EH(p:Int×Int):List Value:=[.int .i64 p.1,.int .i64 p.2]
theorem VT(a b:Int)(w:World):(Instr.build 54 #[(0,.int .i64 a),(1,.int .i64 b)]).run prog w= .ok (.agg (EH (a,b)).toArray) w:=by kernel_rfl
theorem RX(w:World):(Instr.build 54 #[]).run prog w= .ok (.agg (EH (0,0)).toArray) w:=by kernel_rfl
theorem IC{l:List Dg}{d:Dg}(h:0<=gr l d):(gr l d).toNat<l.length/\gr l d=((gr l d).toNat:Int):=by
 unfold gr at*
 split at h
 ·rename_i g
  rw[if_pos g]
  exact⟨by simpa using g,rfl⟩
 ·omega
attribute [local irreducible] CG NG SG aP aM Row aG aF aQ aJ gr
theorem pZ{a:Option Addr}{c:Nat}{xs:List Tm}(m:lh w n a xs)(P:xs.length<=1000000):kr prog 47 dc 8 84 #[.slice a xs.length c] w (xs.map (fun b=>aJ b.t)):=by
 refine bC func84 rfl ntmps84 rfl ?_
 have C:=m.sl
 have B:=m.ins
 clear m
 repeat (first|apply ar|refine qb1 ?_)
 refine CG.loop (X:=Nat×Value) (fun q=>[(3,q.2),(6,.slice a xs.length c),(7,.int .i64 (xs.length:Int)),(8,.int .i64 (q.1:Int))])
  (fun q s=>q.1<=xs.length/\Kp [] w s/\s.ownsRow w.heap.size 47 8 q.2 q.1 (bX dc ((xs.map (fun b=>aJ b.t)).take q.1)))
  (fun q=>xs.length-q.1) (0,.slice none 0 0) ⟨Nat.zero_le _,Kp.refl _ _,dY⟩ (aS.of rfl) ?_
 rintro⟨i,v⟩ W ⟨E,d,g⟩
 simp only at E g
 refine CG.to [(3,v),(6,.slice a xs.length c),(7,.int .i64 (xs.length:Int)),(8,.int .i64 (i:Int))] (aS.of rfl) ?_
 by_cases f:i<xs.length
 ·have u:(i:Int)<(xs.length:Int):=by omega
  obtain⟨N,R,rfl,J⟩:=(C.az d).at f
  repeat (first|apply ar|refine ul ?_)
  refine bO rfl ?_
  repeat (first|apply ar|refine ut ?_)
  refine SG.alloc rfl rfl rfl (fun L Y F D y=>?_)
  refine SG.aN (l:=bV xs[i]) rfl rfl (ag rfl) (ag rfl) y (ay _) rfl (bY _) (fun Z G z=>?_)
  have e:=F.aj G (aW D)
  obtain⟨S,-⟩:=aX z
  clear J
  repeat (first|apply ar|refine qb8 ?_)
  refine SG.ret rfl rfl rfl (vs:=[eG xs[i]]) (bg.of rfl) (dV ((B _ (getElem_mem f)).az (d.trans e))) (fun aa H=>?_)
  have e:=e.trans H
  refine SG.buildSlice rfl rfl rfl rfl (B8 _) (fun M w7 p O A=>?_)
  have T:=d.size
  have U:=e.size
  have V:=p.size
  have r:=e.trans p
  have h:=aV g r
  have j:((xs.map (fun b=>aJ b.t)).take i).length=i:=by rw[length_take,length_map];omega
  have h:=wo j.symm h
  refine SG.jN (enc:=dc) (xs:=(xs.map (fun b=>aJ b.t)).take i) (ys:=[aJ xs[i].t]) (base:=w.heap.size) rfl rfl rfl (ag rfl) (ag rfl) rfl rfl rfl rfl ai bj h (gy (enc:=dc) (sz:=8) (x:=aJ xs[i].t) ai A) (by rw[j];simp only[maxLen,length_singleton];omega) (by rw[j];show(i+1)*8<=_;omega) (by omega) (fun K w8 I o Q=>?_)
  rw[<-take_one (fun b:Tm=>aJ b.t) f] at o
  have k:((xs.map (fun b=>aJ b.t)).take (i+1)).length=i+1:=by rw[length_take,length_map];omega
  rw[k] at o
  repeat (first|apply ar|refine us ?_)
  refine NG.round (i+1,K) (aS.of rfl) ⟨f,(d.trans r).aj I (ff h (Nat.le_refl _)),o⟩ (by simp only;omega)
 ·have u:¬(i:Int)<(xs.length:Int):=by omega
  have k:i=xs.length:=by omega
  subst k
  rw[take_of_length_le (by rw[length_map];exact Nat.le_refl _)] at g
  repeat (first|apply ar|refine un ?_)
  refine bA rfl ?_
  repeat (first|apply ar|refine ww ?_)
  refine aO (Or.inl rfl) results84 (aD.tmp rfl) ?_
  exact⟨v,rfl,by rw[length_map];exact g,d⟩
theorem mW(h:cS w n A tot c)(f:df 256 (c.ps.map Em.en)):kr prog 47 dc 8 39 #[.pointer (some ⟨c.cb,0,none⟩)] w ((fU (c.ps.map Em.en)).map (fun e=>aJ e.t)):=by
 refine bC func39 rfl ntmps39 rfl ?_
 obtain⟨-,-,-,-,-,r,-⟩:=cZ h
 repeat (first|apply ar|refine qa1 ?_)
 refine bA rfl ?_
 repeat (first|apply ar|refine qa4 ?_)
 refine SG.call rfl rfl rfl (vs:=[.pointer (some ⟨c.pb,0,none⟩)]) (bg.of rfl) ((xS h.pool f (by omega)).mono (fun e u b=>?_))
 obtain⟨z,a,rfl,g,p,i⟩:=b
 obtain⟨k,l,rfl,v,o⟩:=p.Lu (n:=u.heap.size)
 have y:a.length<=256:=by
  have m:a.length=(fU (c.ps.map Em.en)).length:=by have:=congrArg length i;simpa using this
  have d:=f.len
  rw[m,gZ]
  omega
 refine⟨_,rfl,?_⟩
 refine SG.call rfl rfl rfl (vs:=[.slice k a.length l]) (bg.of rfl) ((pZ o (by omega)).mono (fun e B b=>?_))
 obtain⟨s,rfl,j,q⟩:=b
 refine⟨_,rfl,?_⟩
 have d:a.map (fun x=>aJ x.t)=(fU (c.ps.map Em.en)).map (fun e=>aJ e.t):=by
  have:=congrArg (List.map aJ) i
  rw[map_map,map_map] at this
  exact this
 rw[d] at j
 clear r
 repeat (first|apply ar|refine wt ?_)
 refine aO (Or.inl rfl) results39 (aD.tmp rfl) ?_
 exact⟨s,rfl,c9 j g.size,g.trans q⟩
theorem rQ(h:cS w n A tot c)(wf:c.tr.WF)(hl:(c.tr.line c.tr.tip).length<=100000)(hq:∀d∈c.tr.line c.tr.tip,∃q,aC c.ns d=some q)(d:Dg):dq prog 17 #[.pointer (some ⟨c.cb,0,none⟩),dv d] w
  (match dz c.ns d (c.tr.line c.tr.tip) with|some p=> .tuple #[.agg (EH p).toArray,.bool true]|none=> .tuple #[.agg (EH (0,0)).toArray,.bool false]):=by
 refine bN func17 rfl ntmps17 rfl ?_
 repeat apply ar
 refine SG.box rfl rfl rfl (ag rfl) (fun g w1 H ax E=>?_)
 have E:aG w1 g (.cells (dc d).toArray 47):=E
 have f:Row w1 g 0 (dc d):=Row.all E rfl
 refine SG.alloc rfl rfl rfl (fun m w2 aa ay ak=>?_)
 have K:=H.trans aa
 have f:=f.az aa
 have C:=h.az K
 obtain⟨-,-,-,-,r5,-,N⟩:=cZ C
 repeat (first|apply ar|refine qa1 ?_)
 refine bA rfl ?_
 repeat apply ar
 refine CG.draw mixed [0,1,2,3,4,5,6,7,8,11,9,10] [9] [] [] (fun _=>True) (by kernel_rfl) (by simp) (by simp) trivial (fun _ _ _ _=>trivial) (Or.inl rfl) ?_
 repeat (apply bW;rfl;rfl;(first|apply aB|apply aZ|apply aU|apply bR)<;>first|rfl|assumption|exact wn)
 refine aM.call rfl rfl rfl (vs:=[.pointer (some ⟨c.tb,0,none⟩)]) (bg.of rfl) (fun ae G _=>fb (C.tree.az G)) ?_
 repeat (apply bW;rfl;rfl;apply aB<;>rfl)
 refine aM.mR (c.tr.line c.tr.tip) rfl rfl rfl rfl (vs:=[.pointer (some ⟨c.tb,0,none⟩),dv c.tr.tip]) (bg.of rfl) sX (fun ae G _=>j4 (C.tree.az G) wf c.tr.tip) (fun a Q=>?_)
 repeat (apply bW;rfl;rfl;apply dg<;>rfl)
 refine aM.fin (fun w3 ab hF _=>?_)
 obtain⟨-,W⟩:=hF
 have k3:=K.trans ab
 have U:=W.sl
 clear r5 N W
 obtain⟨b,ac⟩:∃b,b=c.tr.line c.tr.tip:=⟨_,rfl⟩
 rw[<-ac] at hl hq U⊢
 repeat apply ar
 refine CG.loop (X:=Nat) (fun q=>[(0,.pointer (some ⟨c.cb,0,none⟩)),(3,.pointer (some ⟨g,0,none⟩)),(4,.pointer (some ⟨m,0,none⟩)),(22,.slice a b.length Q),(23,.int .i64 (b.length:Int)),(24,.int .i64 (q:Int))])
  (fun q w'=>q<=b.length/\Kp [] w2 w'/\Sl dc 8 w' a b/\dz c.ns d b=dz c.ns d (b.drop q)) (fun q=>b.length-q) 0 ⟨Nat.zero_le _,ab,U,rfl⟩ (by rw[ac];(repeat' (first|exact True.intro|exact rfl|refine And.intro ?_ ?_))) ?_
 rintro i w4 ⟨hi,v,V,e⟩
 refine CG.to [(0,.pointer (some ⟨c.cb,0,none⟩)),(3,.pointer (some ⟨g,0,none⟩)),(4,.pointer (some ⟨m,0,none⟩)),(22,.slice a b.length Q),(23,.int .i64 (b.length:Int)),(24,.int .i64 (i:Int))] (aS.of rfl) ?_
 have L:=K.trans v
 have R:=ak.az v
 by_cases u:i<b.length
 ·have g1:(i:Int)<(b.length:Int):=by omega
  obtain⟨P,aF,rfl,k⟩:=V.at u
  obtain⟨q,ad⟩:=hq _ (getElem_mem u)
  rw[drop_eq_getElem_cons u] at e
  have e:dz c.ns d b=if 0<=gr q.2.iC d then some (q.2.x.ht,q.2.es.getD (gr q.2.iC d).toNat 0) else dz c.ns d (b.drop (i+1)):=by
   rw[e]
   simp only[dz,ad]
  repeat (first|apply ar|refine ul ?_)
  refine bO rfl ?_
  repeat (first|apply ar|refine qb4 ?_)
  refine SG.alloc rfl rfl rfl (fun b5 w5 I ao F=>?_)
  refine SG.aN (l:=dc b[i]) rfl rfl (ag rfl) (ag rfl) F (ai _) rfl (bj _) (fun w6 av al=>?_)
  have M:=I.aj av (aW ao)
  have k6:=L.trans M
  have D:=h.az k6
  have f:Row w6 g 0 (dc d):=f.az (v.trans M)
  have q6:Row w6 b5 0 (dc b[i]):=Row.all al rfl
  obtain⟨-,-,-,-,-,-,N⟩:=cZ D
  have S:=D.map
  clear k
  repeat apply ar
  refine CG.tail mixed 5 [0,1,2,3,4] (by kernel_rfl) ?_
  repeat (apply bW;rfl;rfl;(first|apply aB|apply aZ|apply bf|apply aU|apply bR)<;>first|rfl|assumption|exact wn|apply ai)
  refine aM.tl (fun w7 r _ _=>?_)
  have S:=S.az r
  repeat (first|apply ar|(apply au;rfl;(first|apply aE|apply oQ)<;>first|rfl|assumption|exact wn|exact iX (by assumption)|fail))
  have o:=(D.yQ ad).az r
  have f:=f.az r
  obtain⟨-,z,-,O,-,t6,-⟩:=fg o.blk
  clear N q6
  skip
  refine CG.tail mixed 5 [0,1,2,3,4] (by kernel_rfl) ?_
  repeat (apply bW;rfl;rfl;(first|apply aB|apply aZ|apply bf|apply aU|apply bR)<;>first|rfl|assumption|exact wn|apply ai)
  refine aM.tl (fun w8 s _ _=>?_)
  have T:=o.az s
  have k8:=(M.trans r).trans s
  have af:q.2.x.xs.length=q.2.iC.length:=(length_map _).symm
  have aA:=o.x.len
  refine SG.ret rfl rfl rfl (vs:=[.slice q.2.an q.2.x.xs.length q.2.cn,dv d]) (bg.of rfl) (by rw[af];exact zj T.nam (by omega) d) (fun w9 t=>?_)
  have y:=k8.trans t
  clear f t6
  by_cases B:0<=gr q.2.iC d
  ·rw[if_pos B] at e
   rw[e]
   obtain⟨j1,j2⟩:=IC B
   generalize (gr q.2.iC d).toNat=j at*
   generalize gr q.2.iC d=aI at*
   subst j2
   have Y:j<q.2.es.length:=by rw[o.el];omega
   obtain⟨P,oa,am,k⟩:=(T.ans.az t).at Y
   have ap:q.2.es.getD j 0=q.2.es[j]:=by simp[getD_eq_getElem?_getD,Y]
   rw[ap]
   rw[am] at z
   have z:=(z.az s).az t
   have O:=(O.az s).az t
   have k:Row w9 P (oa+j*1) [.int .i64 q.2.es[j]]:=k
   repeat (first|apply ar|(apply au;rfl;(first|apply aB|apply aE|apply ji)<;>first|rfl|exact qf))
   refine bO rfl ?_
   repeat apply ar
   refine CG.tail mixed 13 [0,1,2,3,4,5,6,7,8,9,10,11,12] (by kernel_rfl) ?_
   repeat (apply bW;rfl;rfl;(first|apply aB|apply aZ|apply aU|apply bR|apply fa)<;>first|rfl|exact zc|assumption|exact wn)
   refine aM.tl (fun aH Z _ _=>?_)
   refine SG.val rfl rfl rfl rfl (aK rfl (VT q.2.x.ht q.2.es[j])) ?_
   refine SG.aN (l:=EH (q.2.x.ht,q.2.es[j])) rfl rfl (ag rfl) (ag rfl) ((R.az y).az Z) rfl rfl rfl (fun aw aq ah=>?_)
   have J:Row aw m 0 (EH (q.2.x.ht,q.2.es[j])):=Row.all ah rfl
   clear z O k
   repeat (first|apply ar|refine wt ?_)
   refine dT (Or.inl rfl) results17 (aD.agg rfl rfl J rfl) (aD.tmp rfl) ?_
   exact⟨rfl,((L.trans y).trans Z).aj aq (aW (by have:=H.size;omega))⟩
  ·rw[if_neg B] at e
   repeat (first|apply ar|(apply au;rfl;(first|apply aB|apply aE|apply ji)<;>first|rfl|exact qr))
   refine bA rfl ?_
   repeat (first|apply ar|refine wz ?_)
   refine NG.round (i+1) (aS.of rfl) ⟨u,v.trans y,V.az y,e⟩ (by omega)
 ·have g1:¬(i:Int)<(b.length:Int):=by omega
  rw[drop_eq_nil_of_le (by omega)] at e
  rw[e]
  repeat (first|apply ar|refine un ?_)
  refine bA rfl ?_
  repeat apply ar
  refine SG.val rfl rfl rfl rfl (aK rfl RX) ?_
  refine SG.aN (l:=EH (0,0)) rfl rfl (ag rfl) (ag rfl) R rfl rfl rfl (fun w5 I F=>?_)
  have J:Row w5 m 0 (EH (0,0)):=Row.all F rfl
  repeat (first|apply ar|refine wt ?_)
  refine dT (Or.inl rfl) results17 (aD.agg rfl rfl J rfl) (aD.tmp rfl) ?_
  exact⟨rfl,L.aj I (aW (by have:=H.size;omega))⟩
end
section
variable{c:Cm}{room tot:Int}{ms:List Em}{A S:List Nat}{Ts:List TypeId}{b base n p:Nat}{T:TypeId}{v:Value}{w w':World}
theorem dt.cons(h:dt n Ts A w [b])(a:dt n Ts A w S):dt n Ts A w (b::S):=h.app a
theorem cS.nodes(h:cS w n A tot c)(b:Kp S w w')(a:dt n CT A w S):∀p∈c.ns,mI w' n A tot p.2.1 p.2.2:=fun p d=>
 (h.nd p d).kp b a (fun _ e=>e) (by decide) ((h.nd p d).x.jq b a (by decide) (by decide))
theorem Pl.qi(h:Pl w n p v room ms):dt n CT A w (p::aR v):=(dt.cells h.bp h.blk (by decide)).cons (dt.own h.own (Nat.le_refl _) (by decide))
theorem Pl.Gn{d f:Type}{enc:d->Value}{V:f->Value}{m:List (d×f)}(h:Pl w n p v room ms)(c:aF w b enc V m):b∉p::aR v:=fun a=>by
 rcases mem_cons.1 a with e|a
 ·exact cJ h.blk c e
 ·exact jZ h.own c _ (aL a) (mem_singleton.2 rfl)
theorem Pl.DP{cs:Array Value}(h:Pl w n p v room ms)(d:aG w b (.cells cs T))(a:T≠214)(c:T≠216):b∉p::aR v:=fun f=>(h.Cr (fun e=>a e.symm) (fun e=>c e.symm) _ f).2 _ _ d
theorem cS.th{d:Value}{b:List Em}(h:cS w n A tot c)(a:Kp (c.pb::aR c.pv) w w')(e:Pl w' n c.pb d 256 b):cS w' n A tot {c with pv:=d,ps:=b}:=by
 have f:dt n CT A w (c.pb::aR c.pv):=h.pool.qi
 exact⟨h.blk.kp a (h.pool.DP h.blk (by decide) (by decide)),h.tree.kp a (h.pool.DP h.tree.blk (by decide) (by decide)) (h.pool.Gn h.tree.map),e,h.map.kp a (h.pool.Gn h.map),h.nodes a f,h.tA,h.nA,h.ne,h.tn,h.nn,h.bn,Nat.le_trans h.w0 a.size⟩
theorem dL{k sz:Nat}{xs:List Value}(d:w.ownsRow base T sz v k xs)(b:eA T n w S):∀g,v.ownBlock=some g->g∉S:=fun g a c=>by
 rcases d.2 with⟨rfl,_⟩|⟨g',cap,cur,rfl,_,hb,_⟩
 ·cases a
 ·simp only[Value.ownBlock,Option.some.injEq] at a
  subst a
  exact(b _ c).2 _ _ hb
def LM:List TypeId:=127::(CT++IM)
theorem cS.Su{A':List Nat}(h:cS w n A tot c)(b:Kp S w w')(a:dt n Ts A' w S)(e:∀z∈A',z∈A/\z≠c.tm/\z≠c.nm)(d:∀T∈LM,T∉Ts)(j:∀p∈c.ns,p.2.2.x.In n w'):cS w' n A tot c:=by
 have t:∀{T:TypeId},T∈LM->eA T n w S:=fun f=>a.not (d _ f)
 exact⟨a.blk b h.blk (d _ (by decide)),⟨a.blk b h.tree.blk (d _ (by decide)),a.yY b h.tree.map (fun g=>(e _ g).2.1 rfl)⟩,h.pool.kp b (a.no h.pool.blk (d _ (by decide))) (dL h.pool.own (t (by decide))) (t (by decide)),a.yY b h.map (fun g=>(e _ g).2.2 rfl),fun p i=>(h.nd p i).kp b a (fun z k=>(e z k).1) (fun T f=>d T (mem_cons_of_mem _ (mem_append_right _ f))) (j p i),h.tA,h.nA,h.ne,h.tn,h.nn,h.bn,Nat.le_trans h.w0 b.size⟩
theorem cS.KC(h:cS w n A tot c)(d:Kp S w w')(a:dt n Ts [] w S)(b:∀T∈LM,T∉Ts)(e:∀p∈c.ns,p.2.2.x.In n w'):cS w' n A tot c:=h.Su d a (fun _ f=>by cases f) b e
open Classical in
noncomputable def gx(nb:dW)(q:Nm)(ps:List En)(t:Tx):Int:=if eJ nb t≠0 then eJ nb t else if t.non<(q.f t.frm).nonce then 17 else fD 256 ps q.x.ht t
open Classical in
noncomputable def lu(nb:dW)(q:Nm)(ps:List En)(t:Tx):List En:=if gx nb q ps t=0 then pG 256 ps q.x.ht t else ps
theorem GJ{L:Env}{d:Option Nat}{ty:TypeId}{pos:String}{af:Array Edge}{g:Option (Nat×Bool)}{F:World->Prop}{x:Operand}{k:Dg}{p:Pu}(a:bH L x=FD (oN k p)):aP prog S w F L ⟨d,.field 59 x 2,ty,pos,af,g⟩ (.int .i64 p.nonce):=
 eS (dc k++[.int .i64 p.money]) [] a rfl (by simp[acl,oN]) (by simp[ai])
attribute [local irreducible] CG NG SG aP aM Row aG aF aQ aJ eJ fD pG
theorem pL(h:cS w n A tot c){pm:Nat}{nb:dW}(R:dw w base c.vb pm v nb)(Q:df 256 (c.ps.map Em.en)){x:Tm}(K:x.In n w){q:Nat×Nm}(J:aC c.ns c.tr.tip=some q):
  Calls prog 38 #[.pointer (some ⟨c.cb,0,none⟩),eG x] w (fun e N=>e= .returned (.int .i64 (gx nb q.2 (c.ps.map Em.en) x.t))/\∃i d,cS N n A tot {c with pv:=i,ps:=d}/\d.map Em.en=lu nb q.2 (c.ps.map Em.en) x.t/\Kp (c.pb::aR c.pv) w N/\∀g,i.ownBlock=some g->c.pv.ownBlock=some g\/w.heap.size<=g):=by
 refine bN func38 rfl ntmps38 rfl ?_
 have I:∀{W:World} {z:Int},Kp [] w W->gx nb q.2 (c.ps.map Em.en) x.t=z->z≠0->(Ending.returned (.int .i64 z)= .returned (.int .i64 (gx nb q.2 (c.ps.map Em.en) x.t))/\∃i d,cS W n A tot {c with pv:=i,ps:=d}/\d.map Em.en=lu nb q.2 (c.ps.map Em.en) x.t/\Kp (c.pb::aR c.pv) w W/\∀g,i.ownBlock=some g->c.pv.ownBlock=some g\/w.heap.size<=g):=fun b L P=>by
  refine⟨by rw[L],c.pv,c.ps,h.az b,?_,b.any,fun g p=>Or.inl p⟩
  unfold lu
  rw[L,if_neg P]
 repeat apply ar
 refine SG.box rfl rfl rfl (ag rfl) (fun O w1 C aa a=>?_)
 have a:aG w1 O (.cells (bV x).toArray 52):=a
 obtain⟨r,-⟩:=aX a
 obtain⟨-,-,t3,-⟩:=cZ (h.az C)
 repeat (first|apply ar|refine qa1 ?_)
 refine bA rfl ?_
 repeat apply ar
 refine CG.tail mixed 5 [0,1,2,3,4] (by kernel_rfl) ?_
 repeat (apply bW;rfl;rfl;(first|apply aB|apply aZ|apply bf|apply aU|apply bR)<;>first|rfl|assumption|exact wn|apply ay)
 refine aM.tl (fun w2 D _ _=>?_)
 have s:=C.trans D
 refine SG.ret rfl rfl rfl (vs:=[eG x,.iface 40 (.pointer (some ⟨c.vb,0,none⟩))]) (bg.of rfl) (iq (R.az s) (K.az s)) (fun w3 E=>?_)
 have u:=s.trans E
 have a:=(a.az D).az E
 clear r t3
 by_cases l:eJ nb x.t=0
 rotate_left
 ·have j:gx nb q.2 (c.ps.map Em.en) x.t=eJ nb x.t:=by unfold gx;rw[if_pos l]
  repeat (first|apply ar|refine vr ?_)
  refine bO rfl ?_
  repeat (first|apply ar|refine ww ?_)
  refine aO (Or.inl rfl) results38 (aD.tmp rfl) ?_
  exact I u j l
 rw[l]
 repeat (first|apply ar|refine vp ?_)
 refine bA rfl ?_
 repeat (first|apply ar|refine qa0 ?_)
 refine SG.ret rfl rfl rfl (vs:=[.pointer (some ⟨c.cb,0,none⟩)]) (bg.of rfl) (lr (h.az u) J) (fun w4 F=>?_)
 have y:=u.trans F
 have a:=a.az F
 have o:=(h.yQ J).az y
 obtain⟨ab,Y,V⟩:=o.book
 obtain⟨-,q0,q1,-⟩:=aX a
 obtain⟨-,-,-,-,-,-,t0,-⟩:=fg o.blk
 repeat (first|apply ar|refine wt ?_)
 have B:∀W,Kp [] w4 W->dq prog 19 #[.pointer (some ⟨q.2.bk,0,none⟩),dv x.t.frm] W (FD (oN x.t.frm (q.2.f x.t.frm))):=fun W b=>by
  rw[<-V.eq]
  exact lR (Y.az b) x.t.frm
 by_cases H:x.t.non<(q.2.f x.t.frm).nonce
 ·have j:gx nb q.2 (c.ps.map Em.en) x.t=17:=by unfold gx;rw[if_neg (fun g=>g l),if_pos H]
  refine CG.tail mixed 11 [0,1,2,3,4,5,6,7,8,9,10] (by kernel_rfl) ?_
  repeat (apply bW;rfl;rfl;(first|apply aB|apply aZ|apply bf|apply aU|apply bR)<;>first|rfl|assumption|exact wn|apply ai)
  refine aM.call rfl rfl rfl (vs:=[.pointer (some ⟨q.2.bk,0,none⟩),dv x.t.frm]) (bg.of rfl) (fun W b _=>B W b) ?_
  refine aM.val rfl rfl rfl (GJ rfl) ?_
  refine aM.tl (fun w5 k _ _=>?_)
  repeat (first|apply ar|refine ul ?_)
  refine bO rfl ?_
  repeat (first|apply ar|refine wt ?_)
  refine aO (Or.inl rfl) results38 (aD.tmp rfl) ?_
  exact I (y.trans k) j (by decide)
 have j:gx nb q.2 (c.ps.map Em.en) x.t=fD 256 (c.ps.map Em.en) q.2.x.ht x.t:=by unfold gx;rw[if_neg (fun g=>g l),if_neg H]
 refine CG.tail mixed 11 [0,1,2,3,4,5,6,7,8,9,10] (by kernel_rfl) ?_
 repeat (apply bW;rfl;rfl;(first|apply aB|apply aZ|apply bf|apply aU|apply bR)<;>first|rfl|assumption|exact wn|apply ai)
 refine aM.call rfl rfl rfl (vs:=[.pointer (some ⟨q.2.bk,0,none⟩),dv x.t.frm]) (bg.of rfl) (fun W b _=>B W b) ?_
 refine aM.val rfl rfl rfl (GJ rfl) ?_
 refine aM.tl (fun w5 k _ _=>?_)
 clear q0 q1 t0
 have M:=y.trans k
 repeat (first|apply ar|refine un ?_)
 refine bA rfl ?_
 obtain⟨r,-⟩:=aX (a.az k)
 obtain⟨-,-,-,t1,-⟩:=fg (o.az k).blk
 obtain⟨-,-,-,-,-,t4,-⟩:=cZ (h.az M)
 repeat apply ar
 refine CG.tail mixed 10 [0,1,2,3,4,5,6,7,8,9] (by kernel_rfl) ?_
 repeat (apply bW;rfl;rfl;(first|apply aB|apply aZ|apply bf|apply aU|apply bR)<;>first|rfl|assumption|exact wn|apply ay)
 refine aM.tl (fun w6 X _ _=>?_)
 have m:=M.trans X
 refine SG.call rfl rfl rfl (vs:=[.pointer (some ⟨c.pb,0,none⟩),.int .i64 q.2.x.ht,eG x]) (bg.of rfl) ((sq (h.az m).pool (K.az m) Q (by omega)).mono (fun e w7 U=>?_))
 obtain⟨rfl,i,d,S,Z,G,p⟩:=U
 refine⟨_,rfl,?_⟩
 clear r t1 t4
 repeat (first|apply ar|refine wt ?_)
 refine aO (Or.inl rfl) results38 (aD.tmp rfl) ?_
 refine⟨by rw[j],i,d,(h.az m).th G S,?_,m.any.trans G,fun g T=>(p g T).elim Or.inl (fun e=>Or.inr (Nat.le_trans m.size e))⟩
 rw[Z]
 unfold lu
 split
 ·rfl
 ·rename_i g
  unfold pG
  rw[if_neg (by rw[<-j];exact g)]
end
section
variable{mk:Dg}{f:Fb}{acc l:List Tx}{b:Nat}{x:Tx}{w:World}
def iW(f:Fb)(t:Tx):Bool:=decide ((f t.frm).nonce=t.non)&&decide (t.fee<=(f t.frm).money)
def rq(mk:Dg):Fb->List Tx->List Tx->List Tx
 |_,acc,[]=>acc
 |f,acc,x::l=>if 64<=acc.length then acc else if iW f x then rq mk (jJ f mk x) (if dC f x=0 then acc++[x] else acc) l else rq mk f acc l
noncomputable def sV(ps:List En)(ns:List Dg):List Tx:=(((fU ps).filter (fun e=> !vk (lI ps ns) e)).take 1024).map (·.t)
theorem C8(a:List En)(ns:List Dg):(((fU a).filter (fun e=> !vk (lI a ns) e)).take (Int.toNat 1024)).map (·.t)=sV a ns:=rfl
theorem wY(h:64<=acc.length)(l:List Tx):rq mk f acc l=acc:=by
 cases l with
 |nil=>rfl
 |cons x l=>exact if_pos h
theorem DT(h:¬64<=acc.length)(a:iW f x=false):rq mk f acc (x::l)=rq mk f acc l:=by
 show(if 64<=acc.length then acc else if iW f x then _ else rq mk f acc l)=_
 rw[if_neg h,a]
 rfl
theorem mc(h:¬64<=acc.length)(a:iW f x=true):rq mk f acc (x::l)=rq mk (jJ f mk x) (if dC f x=0 then acc++[x] else acc) l:=by
 show(if 64<=acc.length then acc else if iW f x then rq mk (jJ f mk x) (if dC f x=0 then acc++[x] else acc) l else _)=_
 rw[if_neg h,a]
 rfl
theorem aF.Cr{d g:Type}{enc:d->Value}{V:g->Value}{m:List (d×g)}(h:aF w b enc V m)(T:TypeId):∀a f,w.heap[b]?≠some (.cells a T f):=fun a f e=>by
 obtain⟨j,c,i⟩:=h.blk
 have:=i.symm.trans e
 cases this
def mS(p:Dg)(h:Int)(mk:Dg)(v:Value):List Value:=dc p++(.int .i64 h::(dc mk++[v]))
theorem gj{p:Dg}{h:Int}{v:Value}{T:TypeId}(a:aG w b (.cells (mS p h mk v).toArray T)):Row w b 0 (mS p h mk v)/\Row w b 8 [.int .i64 h]/\Row w b 17 [v]:=
 ⟨Row.all a rfl,Row.of a (dc p) (dc mk++[v]) (by simp[mS]) (ai _),Row.of a (dc p++(.int .i64 h::dc mk)) [] (by simp[mS]) (by simp[ai])⟩
theorem RQ(w:World)(a0 a b c d e f g i j k l m n o p:UInt8)(h:Int):(Instr.build 50 #[(0,.agg #[bv a0,bv a,bv b,bv c,bv d,bv e,bv f,bv g]),(1,.int .i64 h),(2,.agg #[bv i,bv j,bv k,bv l,bv m,bv n,bv o,bv p])]).run prog w=
  .ok (.agg #[bv a0,bv a,bv b,bv c,bv d,bv e,bv f,bv g,.int .i64 h,bv i,bv j,bv k,bv l,bv m,bv n,bv o,bv p,.slice none 0 0]) w:=by kernel_rfl
theorem RR(p mk:Dg)(h:Int)(w:World):(Instr.build 50 #[(0,dv p),(1,.int .i64 h),(2,dv mk)]).run prog w= .ok (.agg (mS p h mk (.slice none 0 0)).toArray) w:=by
 obtain⟨u,s⟩:=p
 obtain⟨v,t⟩:=mk
 match u,s,v,t with
 |[a,b,c,d,e,f,g,i],_,[j,k,l,m,n,o,q,r],_=>exact RQ w a b c d e f g i j k l m n o q r h
theorem RP(w:World):(Instr.build 50 #[]).run prog w= .ok (eL il) w:=by kernel_rfl
theorem Ja(m:Bk)(t:Tx):E5 m t=iW (cC m) t:=rfl
theorem GU(es:List Int)(f:Fb)(mk:Dg)(x:Tx):(kL es f mk x).length<=es.length+1:=by
 unfold kL
 split
 ·rw[length_append];exact Nat.le_refl _
 ·omega
theorem EF(t:Tl)(f:Fb)(h:Int)(mk:Dg)(x:Tx):(dot t f h mk x).n<=t.n+1:=by
 unfold dot
 split
 ·exact rY _ _ _ _
 ·omega
theorem gl(p mk:Dg)(h:Int)(v:Value):(mS p h mk v).length=18:=by simp[mS,ai]
theorem oG(p mk:Dg)(h:Int)(v:Value)(a:kY v=true):bI (mS p h mk v)=true:=by simp[mS,bI,dc,kY] at*;exact a
attribute [local irreducible] CG NG SG aP aM Row aG aF aQ aJ eJ jJ dC iW fU
theorem BI{n:Nat}{A:List Nat}{tot:Int}{c:Cm}(h:cS w n A tot c)(p mk:Dg)(G:aC c.ns p=none)(s:Value):
  dq prog 36 #[.pointer (some ⟨c.cb,0,none⟩),dv p,dv mk,s] w (.tuple #[eL il,.int .i64 24]):=by
 refine pq func36 rfl ntmps36 rfl ?_
 repeat apply ar
 refine SG.box rfl rfl rfl (ag rfl) (fun d v f D a=>?_)
 have a:aG v d (.cells (dc p).toArray 47):=a
 refine SG.box rfl rfl rfl (ag rfl) (fun z H b E B=>?_)
 refine SG.alloc rfl rfl rfl (fun k x g F m=>?_)
 have j:=(f.trans b).trans g
 have t:Row x d 0 (dc p):=Row.all ((a.az b).az g) rfl
 have e:=h.az j
 obtain⟨-,-,-,-,-,-,u⟩:=cZ e
 have C:=e.map
 repeat (first|apply ar|refine qa1 ?_)
 refine bA rfl ?_
 repeat apply ar
 refine CG.fh mixed [0,1,2,3,4,5,6,7,8,9,10] [] (by kernel_rfl) ?_
 repeat (apply bW;rfl;rfl;(first|apply aB|apply aE|apply aZ|apply bf|apply aU|apply bR|apply jz|apply dd)<;>first|rfl|assumption|exact wn|apply ai|exact rz (by assumption)|fail)
 refine aM.fin (fun I i _ _=>?_)
 repeat (first|apply ar|refine qb2 ?_)
 refine bO rfl ?_
 repeat apply ar
 refine SG.val rfl rfl rfl rfl (aK rfl RP) ?_
 refine SG.aN (l:=cR il) rfl rfl (ag rfl) (ag rfl) (m.az i) (aH _) rfl (dB _) (fun y q o=>?_)
 have r:Row y k 0 (cR il):=Row.all o rfl
 clear t u
 repeat (first|apply ar|refine wt ?_)
 refine dT (Or.inl rfl) results36 (aD.agg rfl rfl r (aH _)) (aD.tmp rfl) ?_
 exact⟨rfl,(j.trans i).aj q (aW (by have:=f.size;have:=b.size;omega))⟩
end
section
variable{m:Bk}{mk p:Dg}{f:Fb}{ht tot:Int}{es:List Int}{acc xs:List Tm}{N b12 b13 bk bm i il tb:Nat}{t:Tl}{va vt:Value}{W W' wT:World}
structure AV(wT:World)(b12 b13 il:Nat)(p mk:Dg)(ht:Int)(tot:Int)(N:Nat)(i:Nat)(xs:List Tm)(bk bm tb:Nat)(m:Bk)(f:Fb)(t:Tl)(va:Value)(es:List Int)(vt:Value)(acc:List Tm)(W:World):Prop where
 kp:Kp [b13,il,b12] wT W
 st:fW W 116 [] b13 bk bm tb m t va
 bm:bm=il\/wT.heap.size<=bm
 bi:iY tot (N+6*i) m f
 tn:t.n<=N+i
 oa:W.ownsRow wT.heap.size 36 1 va es.length (bX vi es)
 el:es.length<=i
 ot:W.ownsRow wT.heap.size 52 13 vt acc.length (bX bV acc)
 al:acc.length<=i
 sub:∀x∈acc,x∈xs
 blk:aG W b12 (.cells (mS p ht mk vt).toArray 50)
theorem AV.az(J:AV wT b12 b13 il p mk ht tot N i xs bk bm tb m f t va es vt acc W)(a:Kp [] W W'):AV wT b12 b13 il p mk ht tot N i xs bk bm tb m f t va es vt acc W':=
 ⟨J.kp.trans a.any,J.st.az a,J.bm,J.bi,J.tn,aV J.oa a,J.el,aV J.ot a,J.al,J.sub,J.blk.az a⟩
theorem AV.next(J:AV wT b12 b13 il p mk ht tot N i xs bk bm tb m f t va es vt acc W)(a:Kp [] W W'):AV wT b12 b13 il p mk ht tot N (i+1) xs bk bm tb m f t va es vt acc W':=
 ⟨J.kp.trans a.any,J.st.az a,J.bm,J.bi.mono (by omega),by have:=J.tn;omega,aV J.oa a,by have:=J.el;omega,aV J.ot a,by have:=J.al;omega,J.sub,J.blk.az a⟩
theorem AV.did(J:AV wT b12 b13 il p mk ht tot N i xs bk bm tb m f t va es vt acc W)(x:Tx){j b k:Nat}{d:Bk}{h:Value}
  (u:fW W' 116 [] b13 j b k d (dot t f ht mk x) h) (o:iY tot (N+6*i+6) d (jJ f mk x)) (s:W'.ownsRow wT.heap.size 36 1 h (kL es f mk x).length (bX vi (kL es f mk x))) (c:Kp (b13::bm::aR va) W W') (q:b=bm\/W.heap.size<=b):AV wT b12 b13 il p mk ht tot N (i+1) xs j b k d (jJ f mk x) (dot t f ht mk x) h (kL es f mk x) vt acc W':=by
 have no:∀{T:TypeId},116≠T->36≠T->eA T 0 W (b13::bm::aR va):=fun l n=>eA.cons (Nat.zero_le _) (eA.cells J.st.blk l) (eA.cons (Nat.zero_le _) (J.st.book.map.Cr _) (eA.own J.oa (Nat.zero_le _) n))
 refine⟨J.kp.st c (fun z a=>?_),u,?_,o.mono (by omega),by have:=J.tn;have:=EF t f ht mk x;omega,s,by have:=J.el;have:=GU es f mk x;omega,cr J.ot c (dL J.ot (no (by decide) (by decide))),by have:=J.al;omega,J.sub,J.blk.kp c (fun r=>(no (by decide) (by decide) b12 r).2 _ _ J.blk)⟩
 ·rcases mem_cons.1 a with rfl|a
  ·exact Or.inl (by simp)
  rcases mem_cons.1 a with rfl|a
  ·exact J.bm.elim (fun e=>Or.inl (by simp[e])) Or.inr
  ·exact Or.inr (cj J.oa z (aL a))
 ·rcases q with rfl|g
  ·exact J.bm
  ·exact Or.inr (Nat.le_trans J.kp.size g)
theorem AV.app{vt':Value}{acc':List Tm}(J:AV wT b12 b13 il p mk ht tot N i xs bk bm tb m f t va es vt acc W)(a:Kp (b12::aR vt) W W')
  (o:W'.ownsRow wT.heap.size 52 13 vt' acc'.length (bX bV acc')) (n:acc'.length<=i) (q:∀x∈acc',x∈xs) (k:aG W' b12 (.cells (mS p ht mk vt').toArray 50)):AV wT b12 b13 il p mk ht tot N i xs bk bm tb m f t va es vt' acc' W':=by
 have no:∀{T:TypeId},50≠T->52≠T->eA T 0 W (b12::aR vt):=fun d g=>eA.cons (Nat.zero_le _) (eA.cells J.blk d) (eA.own J.ot (Nat.zero_le _) g)
 have j:∀{T:TypeId} {b:Nat} {cs:Array Value},50≠T->52≠T->aG W b (.cells cs T)->b∉b12::aR vt:=fun d g l c=>(no d g _ c).2 _ _ l
 refine⟨J.kp.st a (fun z h=>?_),⟨J.st.blk.kp a (j (by decide) (by decide) J.st.blk),⟨J.st.book.blk.kp a (j (by decide) (by decide) J.st.book.blk),J.st.book.map.kp a (fun c=>?_)⟩,J.st.app.kp a (j (by decide) (by decide) J.st.app)⟩,J.bm,J.bi,J.tn,cr J.oa a (dL J.oa (no (by decide) (by decide))),J.el,o,n,q,k⟩
 ·rcases mem_cons.1 h with rfl|h
  ·exact Or.inl (by simp)
  ·exact Or.inr (cj J.ot z (aL h))
 ·rcases mem_cons.1 c with e|c
  ·exact cJ J.blk J.st.book.map e
  ·exact jZ J.ot J.st.book.map _ (aL c) (mem_singleton.2 rfl)
theorem uS(p mk:Dg)(h:Int)(v:Value):(mS p h mk v).toArray.toList=(dc p++(.int .i64 h::dc mk))++([v]++[]):=by simp[mS]
theorem rS(p mk:Dg)(h:Int)(v:Value):(dc p++(.int .i64 h::dc mk))++([v]++[])=mS p h mk v:=by simp[mS]
theorem uR(p mk:Dg)(h:Int):(dc p++(.int .i64 h::dc mk)).length=17:=by simp[ai]
attribute [local irreducible] CG NG SG aP aM Row aG aF aQ aJ eJ jJ dot kL dC iW fU sV
theorem tC{w:World}{n:Nat}{bn:List Nat}{c:Cm}(h:cS w n bn tot c)(bZ:tot<=1000000000)(hI:df 256 (c.ps.map Em.en))(p mk:Dg){q:Nat×Nm}(hp:aC c.ns p=some q)(ck:0<=q.2.x.ht/\q.2.x.ht<=1000)(cl:q.2.t.n<=100000){a0:Option Addr}{c0:Nat}{ls:List Dg}(hL:Sl dc 8 w a0 ls)(bN:ls.length<=10000000):
  Calls prog 36 #[.pointer (some ⟨c.cb,0,none⟩),dv p,dv mk,.slice a0 ls.length c0] w (fun e w'=>∃y:Bm,e= .returned (.tuple #[eL y,.int .i64 0])/\y.b=⟨p,q.2.x.ht+1,mk,rq mk q.2.f [] (sV (c.ps.map Em.en) ls)⟩/\y.In 0 w'/\(∀k v,y.a=some ⟨k,v,none⟩->w.heap.size<=k)/\Kp [] w w'):=by
 refine pq func36 rfl ntmps36 rfl ?_
 repeat apply ar
 refine SG.box rfl rfl rfl (ag rfl) (fun b5 w1 a8 cc aq=>?_)
 have aq:aG w1 b5 (.cells (dc p).toArray 47):=aq
 refine SG.box rfl rfl rfl (ag rfl) (fun E w2 C cd R=>?_)
 have R:aG w2 E (.cells (dc mk).toArray 47):=R
 refine SG.alloc rfl rfl rfl (fun K w3 ab cf aw=>?_)
 have k3:=(a8.trans C).trans ab
 have q5:Row w3 b5 0 (dc p):=Row.all ((aq.az C).az ab) rfl
 have h3:=h.az k3
 obtain⟨-,-,-,-,-,-,r6⟩:=cZ h3
 have hM:=h3.map
 repeat (first|apply ar|refine qa1 ?_)
 refine bA rfl ?_
 repeat apply ar
 refine CG.fh mixed [0,1,2,3,4,5,6,7,8,9,10] [] (by kernel_rfl) ?_
 repeat (apply bW;rfl;rfl;(first|apply aB|apply aE|apply aZ|apply bf|apply aU|apply bR|apply jz|apply dd)<;>first|rfl|assumption|exact wn|apply ai|exact iX (by assumption)|fail)
 refine aM.fin (fun w4 U _ _=>?_)
 repeat (first|apply ar|refine qb2 ?_)
 refine bA rfl ?_
 have k4:=k3.trans U
 have bu:=(h.yQ hp).az k4
 have q5:=q5.az U
 have q6:Row w4 E 0 (dc mk):=Row.all ((R.az ab).az U) rfl
 obtain⟨-,-,-,b0,-⟩:=fg bu.blk
 clear hM r6
 repeat apply ar
 refine CG.fA mixed [0,1,2,3,4,5,6,7,8] [(9,10,12,.tmp 39)] (by kernel_rfl) (by kernel_rfl) ?_
 repeat (apply bW;rfl;rfl;(first|apply aB|apply aZ|apply bf|apply aU|apply bR|apply dp)<;>first|rfl|exact zc|assumption|exact wn|apply ai)
 refine aM.val rfl rfl rfl (aK rfl (RR p mk (q.2.x.ht+1))) ?_
 refine aM.one (fq.of (by rfl) rfl rfl rfl (ag rfl) (by exact gl _ _ _ _) (by rfl) (by exact oG _ _ _ _ rfl)) (fun m w5 am b9 F=>?_)
 have F:aG w5 m (.cells (mS p (q.2.x.ht+1) mk (.slice none 0 0)).toArray 50):=F
 have k5:=k4.trans am
 have aH:=(h.yQ hp).az k5
 obtain⟨ct,j,hi⟩:=aH.book
 obtain⟨t0,-⟩:=fg aH.blk
 clear b0 q5 q6
 repeat (first|apply ar|(apply au;rfl;(first|apply aB|apply bf|apply aU|apply bR)<;>first|rfl|assumption|exact wn))
 refine SG.call rfl rfl rfl (vs:=[FC q.2.bk q.2.tb (.slice q.2.ae q.2.es.length q.2.ce)]) (bg.of rfl) ((tw j aH.app).mono (fun e w6 hh=>?_))
 obtain⟨ak,s,aP,m',rfl,ap,bT,a3,g1,g2,g3,ad⟩:=hh
 refine⟨_,rfl,?_⟩
 refine SG.alloc rfl rfl rfl (fun r w7 bJ bD aa=>?_)
 refine SG.aN (l:=tV ak aP (.slice none 0 0)) rfl rfl (ag rfl) (ag rfl) aa rfl rfl rfl (fun w8 bK aa=>?_)
 have N:=bJ.aj bK (aW bD)
 have k8:=(k5.trans ad).trans N
 obtain⟨-,-,-,-,-,r5,-⟩:=cZ (h.az k8)
 clear t0
 repeat (first|apply ar|refine qa4 ?_)
 refine SG.call rfl rfl rfl (vs:=[.pointer (some ⟨c.pb,0,none⟩),.int .i64 1024,.slice a0 ls.length c0]) (bg.of rfl) ((qU (h.az k8).pool hI (by omega) (most:=1024) (by unfold iS;omega) (hL.az k8) bN).mono (fun e O hh=>?_))
 obtain⟨vx,d,rfl,G,hX,af⟩:=hh
 obtain⟨ax,cx,rfl,ch,hS⟩:=hX.sl
 refine⟨_,rfl,?_⟩
 clear r5
 have s1:=a8.size
 have s2:=C.size
 have s4:=k4.size
 have s5:=am.size
 have s6:=ad.size
 have cw:=N.size
 have sT:=G.size
 have cq:=F.lt
 have l6:=R.lt
 have l8:=aw.lt
 have s3:=ab.size
 have cu:=U.size
 have lm:=ap.map.lt
 have cs:=aa.lt
 have a2:bS O ak s m':=(ap.az N).az G
 have bx:=(a3.az N).az G
 have aY:=aa.az G
 have aX:=((F.az ad).az N).az G
 have kT:=k8.trans G
 have co:d.length<=256:=by
  have e1:=congrArg length af
  have e2:=hI.len
  rw[length_map,length_map,length_take] at e1
  have e3:=length_filter_le (fun e=> !vk (lI (c.ps.map Em.en) ls) e) (fU (c.ps.map Em.en))
  rw[gZ] at e3
  omega
 have af:d.map (·.t)=sV (c.ps.map Em.en) ls:=af.trans (C8 _ _)
 have hO:dD 0 O [r,s,m]:=dD.cons (Nat.zero_le _) (dD.cells aY (by decide)) (dD.cons (Nat.zero_le _) (a2.map.BB (Nat.zero_le _) s (mem_singleton.2 rfl)).2 (dD.cons (Nat.zero_le _) (dD.cells aX (by decide)) dD.nil))
 have bB:∀k v,ax=some ⟨k,v,none⟩->k∉[r,s,m]:=fun k v e j=>by
  have:=fY hX.own k v e
  simp only[mem_cons,mem_nil_iff,or_false] at j
  omega
 have n6:E∉[r,s,m]:=fun j=>by
  simp only[mem_cons,mem_nil_iff,or_false] at j
  omega
 have n8:K∉[r,s,m]:=fun j=>by
  simp only[mem_cons,mem_nil_iff,or_false] at j
  omega
 have bq:aG O E (.cells (dc mk).toArray 47):=((((R.az ab).az U).az am).az ad).az (N.trans G)
 have bs:=(((aw.az U).az am).az ad).az (N.trans G)
 have b7:=(h.yQ hp).az kT
 have bC:iY tot (yP q.2) m' q.2.f:=hi.perm bT
 have b4:yP q.2<=500000:=by unfold yP;omega
 have J0:AV O m r s p mk (q.2.x.ht+1) tot (yP q.2+100000) 0 d ak s aP m' q.2.f q.2.t (.slice none 0 0) [] (.slice none 0 0) [] O:=
  ⟨Kp.refl _ _,⟨aY,a2,bx⟩,Or.inl rfl,bC.mono (by omega),by omega,dY,Nat.zero_le _,dY,Nat.zero_le _,fun _ h=>(by cases h),aX⟩
 have ci:=k8.size
 generalize hN:yP q.2+100000=aQ at*
 have b6:aQ<=600000:=by omega
 have bz:=hX.ins
 clear ap a3 aa F R aw
 repeat (first|apply ar|(apply au;rfl;(first|apply aB|apply dg)<;>rfl))
 refine CG.loop (X:=Nat×(Nat×Nat×Nat×Bk)×(Fb×Tl×List Int)×(Value×Value)×List Tm) (fun z=>[(6,.pointer (some ⟨E,0,none⟩)),(8,.pointer (some ⟨K,0,none⟩)),(12,.pointer (some ⟨m,0,none⟩)),(13,.pointer (some ⟨r,0,none⟩)),(50,.slice ax d.length cx),(51,.int .i64 (d.length:Int)),(52,.int .i64 (z.1:Int))])
  (fun z W=>z.1<=d.length/\AV O m r s p mk (q.2.x.ht+1) tot aQ z.1 d z.2.1.1 z.2.1.2.1 z.2.1.2.2.1 z.2.1.2.2.2 z.2.2.1.1 z.2.2.1.2.1 z.2.2.2.1.1 z.2.2.1.2.2 z.2.2.2.1.2 z.2.2.2.2 W/\rq mk q.2.f [] (d.map (·.t))=rq mk z.2.2.1.1 (z.2.2.2.2.map (·.t)) ((d.drop z.1).map (·.t)))
  (fun z=>d.length-z.1) (0,(ak,s,aP,m'),(q.2.f,q.2.t,[]),(.slice none 0 0,.slice none 0 0),[]) ⟨Nat.zero_le _,J0,rfl⟩ (aS.of rfl) ?_
 rintro⟨i,⟨bo,bm,b1,mm⟩,⟨B,aO,ao⟩,⟨va,vt⟩,g⟩ W ⟨hi,J,M⟩
 simp only at hi J M
 refine CG.to [(6,.pointer (some ⟨E,0,none⟩)),(8,.pointer (some ⟨K,0,none⟩)),(12,.pointer (some ⟨m,0,none⟩)),(13,.pointer (some ⟨r,0,none⟩)),(50,.slice ax d.length cx),(51,.int .i64 (d.length:Int)),(52,.int .i64 (i:Int))] (aS.of rfl) ?_
 have sW:=J.kp.size
 have bw:Sl bV 13 W ax d:=hS.kp J.kp bB
 have a4:∀I∈d,I.In 0 W:=fun I hx=>(bz I hx).iD J.kp hO
 have br:aG W E (.cells (dc mk).toArray 47):=bq.kp J.kp n6
 have aF:=bs.kp J.kp n8
 obtain⟨o,A,rfl⟩:=ik J.ot
 obtain⟨u0,u8,Z⟩:=gj J.blk
 have b8:=J.al
 have a5:∀{W':World} (T:Kp [] W W') (S:g.map (·.t)=rq mk q.2.f [] (sV (c.ps.map Em.en) ls)) {D:World} (C:Kp [K] W' D),∃y:Bm,(Ending.returned (.tuple #[.agg (mS p (q.2.x.ht+1) mk (.slice o g.length A)).toArray,.int .i64 0]):Ending)= .returned (.tuple #[eL y,.int .i64 0])/\y.b=⟨p,q.2.x.ht+1,mk,rq mk q.2.f [] (sV (c.ps.map Em.en) ls)⟩/\y.In 0 D/\(∀k v,y.a=some ⟨k,v,none⟩->w.heap.size<=k)/\Kp [] w D:=by
  intro W' T S D C
  have a1:=aF.az T
  have bv:dD 0 W' [K]:=rh a1 (by decide)
  have bt:lh W' 0 o g:=⟨(Sl.own ay (aV J.ot T) rfl).elim (fun b2=>by
   rintro⟨c,e,-,hs⟩
   cases e
   exact hs),Or.inl (Ty.own (aV J.ot T)),fun I hx=>(a4 I (J.sub I hx)).az T⟩
  refine⟨⟨p,q.2.x.ht+1,mk,o,A,g⟩,rfl,by rw[<-S];rfl,⟨bt.kp C bv (eA.cons (Nat.zero_le _) (eA.cells a1 (by decide)) eA.nil),by show g.length<=_;omega⟩,fun k v e=>?_,?_⟩
  ·have:=fY J.ot k v e
   omega
  ·refine((kT.aj J.kp (fun z u=>?_)).trans T).aj C (aW (by omega))
   simp only[mem_cons,mem_nil_iff,or_false] at u
   exact Or.inr (by omega)
 by_cases L:i<d.length
 rotate_left
 ·have g1:¬(i:Int)<(d.length:Int):=by omega
  have S:g.map (·.t)=rq mk q.2.f [] (sV (c.ps.map Em.en) ls):=by
   rw[<-af,M,drop_eq_nil_of_le (by omega)]
   rfl
  repeat (first|apply ar|refine un ?_)
  refine bA rfl ?_
  repeat (first|apply ar|(apply au;rfl;apply bf<;>first|rfl|assumption|exact wn|apply gl))
  refine SG.aN (l:=mS p (q.2.x.ht+1) mk (.slice o g.length A)) rfl rfl (ag rfl) (ag rfl) aF (gl _ _ _ _) rfl (oG _ _ _ _ rfl) (fun D C aA=>?_)
  have hr:Row D K 0 (mS p (q.2.x.ht+1) mk (.slice o g.length A)):=Row.all aA rfl
  repeat (first|apply ar|refine wt ?_)
  refine dT (Or.inl rfl) results36 (aD.agg rfl rfl hr (gl _ _ _ _)) (aD.tmp rfl) ?_
  exact a5 (Kp.refl _ _) S C
 have g1:(i:Int)<(d.length:Int):=by omega
 obtain⟨ba,v,rfl,bU⟩:=bw.at L
 rw[drop_eq_getElem_cons L,map_cons] at M
 repeat (first|apply ar|refine ul ?_)
 refine bO rfl ?_
 repeat (first|apply ar|refine ut ?_)
 refine SG.alloc rfl rfl rfl (fun ah W1 bH bE Q=>?_)
 refine SG.aN (l:=bV d[i]) rfl rfl (ag rfl) (ag rfl) Q (ay _) rfl (bY _) (fun D bI Q=>?_)
 have V:=bH.aj bI (aW bE)
 have Z:=Z.az V
 clear bU
 by_cases a7:64<=g.length
 ·have g2:(64:Int)<=(g.length:Int):=by omega
  have S:g.map (·.t)=rq mk q.2.f [] (sV (c.ps.map Em.en) ls):=by
   rw[<-af,M,wY (by rw[length_map];exact a7)]
  have u0:=u0.az V
  clear u8
  repeat (first|apply ar|(apply au;rfl;(first|apply aZ|apply aU|apply dg|apply ji)<;>first|rfl|assumption|exact qf|exact wn))
  refine bO rfl ?_
  clear Z
  repeat (first|apply ar|refine NG.nj rfl ?_|(apply au;rfl;apply bf<;>first|rfl|assumption|exact wn|apply gl))
  refine SG.aN (l:=mS p (q.2.x.ht+1) mk (.slice o g.length A)) rfl rfl (ag rfl) (ag rfl) (aF.az V) (gl _ _ _ _) rfl (oG _ _ _ _ rfl) (fun W3 ac aA=>?_)
  have hr:Row W3 K 0 (mS p (q.2.x.ht+1) mk (.slice o g.length A)):=Row.all aA rfl
  repeat (first|apply ar|refine wt ?_)
  refine dT (Or.inl rfl) results36 (aD.agg rfl rfl hr (gl _ _ _ _)) (aD.tmp rfl) ?_
  exact a5 V S ac
 have g2:¬(64:Int)<=(g.length:Int):=by omega
 have aI:¬64<=(g.map (·.t)).length:=by rw[length_map];exact a7
 repeat (first|apply ar|(apply au;rfl;(first|apply aZ|apply aU|apply dg|apply ji)<;>first|rfl|assumption|exact qr|exact wn))
 refine bA rfl ?_
 have Y:Row D ah 0 (bV d[i]):=Row.all Q rfl
 have be:=J.st.az V
 repeat (first|apply ar|refine qa2 ?_)
 refine SG.ret rfl rfl rfl (vs:=[.pointer (some ⟨r,0,none⟩),eG d[i]]) (bg.of rfl) (zI be.blk be.book d[i]) (fun W3 ac=>?_)
 have H:=V.trans ac
 rw[Ja,J.bi.eq]
 clear Z u0
 cases hbr:iW B d[i].t with
 |false=>
  clear u8 Y
  repeat (first|apply ar|(apply au;rfl;(first|apply aB|apply cI)<;>rfl)|refine SG.skip rfl rfl ?_)
  refine bA rfl ?_
  repeat (first|apply ar|refine wz ?_)
  refine NG.round (i+1,(bo,bm,b1,mm),(B,aO,ao),(va,.slice o g.length A),g) (aS.of rfl) ⟨L,?_,?_⟩ (by simp only;omega)
  ·exact J.next H
  ·rw[M,DT aI hbr]
 |true=>
  have u8:=u8.az H
  have Y:=Y.az ac
  have q6:Row W3 E 0 (dc mk):=Row.all (br.az H) rfl
  have bh:=J.st.az H
  repeat (apply au;rfl;(first|apply aB|apply aZ|apply bf|apply aU)<;>first|rfl|assumption|exact wn|apply ai|apply ay)
  refine SG.call rfl rfl rfl (vs:=[.pointer (some ⟨r,0,none⟩),.int .i64 (q.2.x.ht+1),dv mk,eG d[i]]) (bg.of rfl) ((AH (n0:=0) bh J.bi bZ (aV J.oa H) (Nat.le_trans sW H.size) (Nat.zero_le _) (by have:=J.el;omega) (by decide) (by decide) (by decide) ((a4 _ (getElem_mem L)).az H) (q.2.x.ht+1) mk (by have:=J.tn;omega)).mono (fun e W4 hh=>?_))
  obtain⟨aR,aT,bj,bl,m2,rfl,bX,bF,bQ,a9,bG,cn⟩:=hh
  refine⟨_,rfl,?_⟩
  have J3:=J.az H
  have P:=J3.did d[i].t bX bF bQ a9 bG
  clear u8 Y q6
  by_cases u:dC B d[i].t=0
  rotate_left
  ·repeat (first|apply ar|(apply au;rfl;(first|apply cI|apply fE)<;>first|rfl|exact qr))
   refine bA rfl ?_
   repeat (first|apply ar|refine wz ?_)
   refine NG.round (i+1,(aR,aT,bj,m2),(jJ B mk d[i].t,dot aO B (q.2.x.ht+1) mk d[i].t,kL ao B mk d[i].t),(bl,.slice o g.length A),g) (aS.of rfl) ⟨L,P,?_⟩ (by simp only;omega)
   rw[M,mc aI hbr,if_neg u]
  ·rw[u]
   have Q:aG W4 ah (.cells (bV d[i]).toArray 52):=(Q.az ac).kp a9 (fun j=>by
    rcases mem_cons.1 j with e|j
    ·omega
    rcases mem_cons.1 j with e|j
    ·have:=bh.book.map.lt;have:=J.st.book.map.lt;omega
    ·have:=cK J.oa ah (aL j);omega)
   have Y:Row W4 ah 0 (bV d[i]):=Row.all Q rfl
   obtain⟨-,-,Z⟩:=gj P.blk
   repeat (first|apply ar|(apply au;rfl;(first|apply cI|apply fE)<;>first|rfl|exact qf))
   refine bO rfl ?_
   repeat (first|apply ar|(apply au;rfl;(first|apply aZ|apply bf|apply aU)<;>first|rfl|assumption|exact wn|apply ay))
   refine SG.buildSlice rfl rfl rfl rfl (zF _) (fun b3 W5 an ca bp=>?_)
   have bd:=aV P.ot an
   have cy:=P.kp.size
   have cv:=an.size
   clear Y Z
   refine SG.jN (enc:=bV) (xs:=g) (ys:=[d[i]]) (base:=O.heap.size) rfl rfl rfl (ag rfl) (ag rfl) rfl rfl rfl rfl ay bY bd (gy (enc:=bV) (sz:=13) (x:=d[i]) ay bp) (by simp only[maxLen,length_singleton];omega) (by show(g.length+1)*80<=_;omega) (by omega) (fun v6 W6 bb aJ cm=>?_)
   obtain⟨a6,c6,rfl⟩:=ik aJ
   have F:=(P.blk.az an).kp bb (fun j=>by have:=cj bd m (aL j);omega)
   repeat (apply au;rfl;apply aU<;>rfl)
   refine SG.cp (dc p++(.int .i64 (q.2.x.ht+1)::dc mk)) [.slice o g.length A] [] rfl rfl (ag rfl) (ag rfl) F (uS _ _ _ _) rfl rfl (uR _ _ _) rfl (fun W7 bc av=>?_)
   have av:aG W7 m (.cells (mS p (q.2.x.ht+1) mk (.slice a6 (g++[d[i]]).length c6)).toArray 50):=by
    have e:=rS p mk (q.2.x.ht+1) (.slice a6 (g++[d[i]]).length c6)
    rw[<-e]
    exact av
   have bL:(g++[d[i]]).length=g.length+1:=by rw[length_append];rfl
   have J7:=(P.az an).app (vt':= .slice a6 (g++[d[i]]).length c6) (acc':=g++[d[i]]) ((bb.mono (fun z u=>mem_cons_of_mem _ u)).trans (bc.mono (fun z u=>by rw[mem_singleton] at u;rw[u];exact mem_cons_self))) (cr aJ bc (cF aJ (by decide) F)) (by rw[bL];omega) (fun I hx=>(mem_append.1 hx).elim (J.sub I) (fun e=>by rw[mem_singleton] at e;rw[e];exact getElem_mem L)) av
   repeat (first|apply ar|refine wz ?_)
   refine NG.round (i+1,(aR,aT,bj,m2),(jJ B mk d[i].t,dot aO B (q.2.x.ht+1) mk d[i].t,kL ao B mk d[i].t),(bl,.slice a6 (g++[d[i]]).length c6),g++[d[i]]) (aS.of rfl) ⟨L,J7,?_⟩ (by simp only;omega)
   rw[M,mc aI hbr,if_pos u,map_append]
   rfl
end
section
variable{args:Array Value}{F:Fence}{ops rest:List Oper}{n:Nat}{P:Program}{R:Value->World->Prop}{w:World}
def Wf(F:Fence):Prop:=F=Fence.wide\/∃l,F=Fence.wide.inRound l
theorem Wf.wide:Wf Fence.wide:=Or.inl rfl
theorem Wf.round(l:Nat):Wf (Fence.wide.inRound l):=Or.inr ⟨l,rfl⟩
theorem Wf.fn(h:Wf F)(f:FuncId):F.fn f:=by
 rcases h with rfl|⟨l,rfl⟩<;>exact trivial
theorem Wf.depth(h:Wf F):¬F.depth.isSome=true:=by
 rcases h with rfl|⟨l,rfl⟩<;>exact fun h=>by cases h
theorem Wf.calls(h:Wf F){f:FuncId}{R:Ending->World->Prop}(a:Calls P f args w R):CallsIn F n P f args w R:=by
 rcases h with rfl|⟨l,rfl⟩
 ·exact callsIn_wide.2 a
 ·exact(callsIn_wide (n:=n)).2 a
theorem Wf.rows(h:Wf F){a:String}(e:Rows P a args w R):RowsIn F n P a args w R:=by
 have d:RowsIn Fence.wide n P a args w R:=fun c b _=>by
  obtain⟨v,f,r,s⟩:=e c b
  exact⟨v,f,r,stepsIn_wide.2 s⟩
 rcases h with rfl|⟨l,rfl⟩<;>exact d
def iw:Op->Bool
 | .defer .. =>true
 |_=>false
theorem ma{o:Op}(h:iw o=false):∀c,o≠.defer c:=fun c e=>by
 rw[e] at h
 cases h
section
variable {P:Program} {n:Nat} {Q:Exit->Act->World->Prop} {L:Env} {w:World}
theorem sQ{F:Fence}{m:Nat}(c:Wf F)(l:¬LetsOut Q){j:Array Oper}:∀{i:List Oper} {a:Act} {w:World},i.all (fun o=> !iw o.op)=true->wpList P j Q i a w->wpListIn F m P j Q i a w
 |[],a,w,_,h=>h
 |o::i,a,w,p,h=>by
  simp only[all_cons,Bool.and_eq_true,Bool.not_eq_true'] at p
  obtain⟨q,s⟩:=p
  have g:∀{a:Act} {w:World},wpList P j Q i a w->wpListIn F m P j Q i a w:=fun h=>sQ c l s h
  simp only[wpList] at h
  simp only[wpListIn]
  split
  ·rename_i k
   rw[if_pos k] at h
   rcases h with h|h
   ·refine⟨fun f _=>c.fn f,?_⟩
    rw[Oper.semAt_eq _ _ _ (ma q)]
    unfold Oper.wp at h
    generalize (execOp a.eval o).run P w=r at*
    cases r with
    |ok x t=>
     cases x<;>simp only[Oper.upon,Oper.uponIn] at h⊢<;>try exact h.elim
     case value v=>exact g h
     case skip=>exact g h
     case defer d=>exact g h
     case enter f args=>exact⟨fun b=>absurd b c.depth,c.calls (Calls.mono h (fun e u b=>by cases e<;>first|exact g b|exact b))⟩
     case row row args=>exact⟨fun b=>absurd b c.depth,c.rows (Rows.mono h (fun v u b=>g b))⟩
    |halt x t=>cases x<;>exact h
   ·exact absurd h.2 l
  ·rename_i k
   rw[if_neg k] at h
   exact⟨fun f _=>c.fn f,g h⟩
def SY(P:Program)(n:Nat)(ops:List Oper)(Q:Exit->Act->World->Prop)(rest:List Oper)(L:Env)(w:World):Prop:=∀a,Fits n a L->wpListIn Fence.wide 0 P ops.toArray Q rest a w
theorem CG.F5{c:Nat}(h:SY P n ops Q ops L w):CG P n (.region c ops.toArray false) Q L w:=fun a b=>wpIn_wide.1 (wpIn_region_lit (h a b))
theorem SY.nil(h:NG n .normal Q L w):SY P n ops Q [] L w:=fun a b=>h a b
theorem SY.op{o:Oper}(e:o.dst.all (fun d=>Nat.blt d n)=true)(l:want ops L o=some true)(h:o.op.operands.toList.all (known L)=true)
  (j:∀a:Act,(∀x∈o.op.operands,bH L x=a.eval x)->∀K:Act->World->Prop,(∀v b,R v b->K (a.put o.dst v) b)->o.wpIn Fence.wide 0 P a w K Q)
  (i:∀v b,R v b->SY P n ops Q rest (im o.dst v L) b):SY P n ops Q (o::rest) L w:=by
 intro a c
 have f:∀t∈xj ops o,∀v,look L t=some v->a.tmps[t]?=some v:=fun t _ v k=>c.slot t v k
 have m:=dx f l
 simp only[wpListIn]
 rw[if_pos m]
 refine j a (fZ f h) _ (fun v b g=>i v b g _ ?_)
 cases hdd:o.dst with
 |none=>exact c
 |some d=>
  rw[hdd] at e
  exact c.put d v (by simpa[Nat.blt_eq] using e)
theorem SY.val{d:Nat}{c:Op}{ty:TypeId}{pos:String}{af:Array Edge}{g:Option (Nat×Bool)}{v:Value}
  (m:Nat.blt d n=true) (i:fm c=false) (o:iw c=false) (t:want ops L ⟨some d,c,ty,pos,af,g⟩=some true) (q:c.operands.toList.all (known L)=true) (s:aP P [] w (fun _=>True) L ⟨some d,c,ty,pos,af,g⟩ v)
  (r:SY P n ops Q rest ((d,v)::L) w):SY P n ops Q (⟨some d,c,ty,pos,af,g⟩::rest) L w:=by
 refine SY.op (R:=fun j k=>j=v/\k=w) (by simpa using m) t q (fun a p K l=>?_) (fun j k h=>by obtain⟨rfl,rfl⟩:=h;exact r)
 refine⟨fun f _=>trivial,?_⟩
 rw[Oper.semAt_eq _ _ _ (ma o),<-execOp_congr ⟨some d,c,ty,pos,af,g⟩ (fun u b e=>by simp only at e;rw[e] at i;cases i) p,s w (Kp.refl _ _) trivial]
 exact l _ _ ⟨rfl,rfl⟩
end
end
open Go.RowKit
section
section
variable {P:Program} {n:Nat} {Q:Exit->Act->World->Prop} {L:Env} {w:World}
theorem II{f:FuncId}{fn:Func}{c:Code}{args:List Value}{R:Ending->World->Prop}(d:P.funcs[f]?=some fn)(b:fn.body=some c)(i:fn.ntmps=n)(g:Nat.ble args.length n=true)
  (h:CG P n c (bodyPostM Fence.wide 0 P fn R) (ny 0 args) w):Calls P f args.toArray w R:=by
 refine callsIn_wide.1 (callsIn_of_wp_marks (n:=0) d b trivial (wpIn_wide.2 (h _ ⟨fun t v j=>?_,?_,rfl⟩)))
 ·have:=(lK args 0 t v j).2
  have e:t<args.toArray.size:=by
   have a:=(List.getElem?_eq_some_iff.1 this).1
   simpa using a
  simp only[Array.getElem?_append_left e]
  simpa using this
 ·have:=g
  rw[Nat.ble_eq] at this
  simp[i]
  omega
def pc(a:Act)(fn:FuncId)(ps:Array Tmp)(assign body:Code)(D:Nat)(st:LoopState)(pe:Option Code):Loop:={state:=st,pending:=pe,fn:=fn,tmps:=a.tmps,params:=ps,assign:=assign,body:=body,defers:=D}
theorem CG.rangeFunc{g:Operand}{i:Array Tmp}{c d:Code}{f:FuncId}[F:bU P f]{k:Array Value}(z:known L g=true)(y:bH L g= .func (.func f) #[] k)
  (h:∀a,Fits n a L->∀(fn:FuncId) (l:LoopState->Loop) (b:World),l=(fun C=>pc a fn i c d w.heap.size C none)->Kp [] w b->b.heap.size=w.heap.size+2->aG b w.heap.size (.deferred (some []))->aG b (w.heap.size+1) (.loop (l .ready))->
   Calls P f (#[.func (.yield (w.heap.size+1)) #[] #[]]++k) b (fun e p=>(∃v,e= .returned v)/\aG p (w.heap.size+1) (.loop (l .ready))/\
    Q .normal {a with defers:=[{target:= .collected w.heap.size,args:= #[]}]} (p.putObj (w.heap.size+1) (.loop (l .exhausted))))):CG P n (.rangeFunc g i c d) Q L w:=by
 intro a m
 refine(wpIn_wide (n:=0)).1 (wpIn_rangeFunc (fun fn G=>?_))
 have x:a.eval g= .func (.func f) #[] k:=by rw[m.eval z,y]
 obtain⟨b,j⟩:∃b,(w.alloc (.deferred (some []))).alloc (.loop (pc a fn i c d w.heap.size .ready none))=b:=⟨_,rfl⟩
 have A:Kp [] w b:=by
  rw[<-j]
  exact(Kp.push w (.deferred (some [])) rfl).trans (Kp.push (w.alloc (.deferred (some []))) (.loop (pc a fn i c d w.heap.size .ready none)) rfl)
 have B:b.heap.size=w.heap.size+2:=by rw[<-j];simp
 have r:aG b w.heap.size (.deferred (some [])):=by
  rw[<-j]
  exact(Below.heap_alloc _ _ _ (by simp)).trans (World.alloc_heap_new w _)
 have s:aG b (w.heap.size+1) (.loop (pc a fn i c d w.heap.size .ready none)):=by
  rw[<-j]
  have:=World.alloc_heap_new (w.alloc (.deferred (some []))) (.loop (pc a fn i c d w.heap.size .ready none))
  rwa [World.size_alloc] at this
 refine⟨w.heap.size+1,[{target:= .collected w.heap.size,args:= #[]}],b,{target:= .fn (.func f) k,args:= #[.func (.yield (w.heap.size+1)) #[] #[]]},b,f,#[.func (.yield (w.heap.size+1)) #[] #[]]++k,b,?_,?_,fun D E=>trivial,?_,fun o=>absurd o Wf.wide.depth,?_⟩
 ·rw[<-j]
  exact run_enterLoop_outer _ _ _ _ _
 ·simp only[resolve,x]
  simp[go_sem]
 ·simp[invoke,go_sem,F.run]
 ·have q:a.defers=[]:=m.defers
  rw[q]
  refine callsIn_wide.2 ((h a m fn _ b rfl A B r s).mono (fun e p o=>?_))
  obtain⟨⟨v,rfl⟩,t,u⟩:=o
  exact⟨none,_,run_endLoop (P:=P) t (by simp[pc]),u⟩
theorem NG.zX{K:Act->World->Prop}(h:∀a,Fits n a L->K a w):NG n .normal (Exit.then K Q) L w:=fun a b=>h a b
structure oP(n:Nat)(ds:List Deferred)(a:Act)(L:Env):Prop where
 fit:Fits n {a with defers:=[]} L
 defers:a.defers=ds
theorem oP.mark{a:Act}{b:List Deferred}(h:Fits n a L):oP n b {a with defers:=b} L:=⟨⟨h.slot,h.size,rfl⟩,rfl⟩
def CD(P:Program)(n:Nat)(ds:List Deferred)(c:Code)(Q:Exit->Act->World->Prop)(L:Env)(w:World):Prop:=∀a,oP n ds a L->c.wp P Q a w
def SD(P:Program)(n:Nat)(ds:List Deferred)(ops:List Oper)(Q:Exit->Act->World->Prop)(rest:List Oper)(L:Env)(w:World):Prop:=∀a,oP n ds a L->wpList P ops.toArray Q rest a w
end
end
open Go.RowKit
section
variable{a:Act}{K:Act->World->Prop}{body y:Code}{R:Ending->World->Prop}{ds:List Deferred}{ops:List Oper}{id l:Nat}{o:Oper}{v:Value}
section
variable {P:Program} {n:Nat} {Q:Exit->Act->World->Prop} {L:Env} {w:World}
theorem JO{F:Fence}{m:Nat}(b:Wf F)(e:iw o.op=false){w:World}(h:o.wp P a w K Q):o.wpIn F m P a w K Q:=by
 refine⟨fun f _=>b.fn f,?_⟩
 rw[Oper.semAt_eq _ _ _ (ma e)]
 unfold Oper.wp at h
 generalize (execOp a.eval o).run P w=r at*
 cases r with
 |ok x g=>
  cases x<;>simp only[Oper.upon,Oper.uponIn] at h⊢<;>try exact h.elim
  case value v=>exact h
  case skip=>exact h
  case defer d=>exact h
  case enter f args=>exact⟨fun c=>absurd c b.depth,b.calls h⟩
  case row row args=>exact⟨fun c=>absurd c b.depth,b.rows h⟩
 |halt x g=>cases x<;>exact h
theorem vu{F:Fence}{m:Nat}(e:Wf F)(k:¬LetsOut Q){j:Region.Mode}{d:Array Oper}(l:∀(i:Nat) (o:Oper),d[i]?=some o->iw o.op=false):∀(fuel:Nat) (c:Array Bool) (a:Act) (w:World),wpAny P j d Q fuel c a w->wpAnyIn F m P j d Q fuel c a w
 |0,_,_,_,h=>h
 |fuel+1,c,a,w,h=>⟨h.1,fun i p=>by
  have b:=wpOp_mono (K':=wpAnyIn F m P j d Q fuel (c.setIfInBounds i true)) (fun a w=>vu e k l fuel (c.setIfInBounds i true) a w) (h.2 i p)
  unfold wpOp at b
  unfold wpOpIn
  cases ho:d[i]? with
  |none=>rw[ho] at b;exact b
  |some o=>
   rw[ho] at b
   simp only at b⊢
   split
   ·rename_i g
    rw[if_pos g] at b
    rcases b with b|b
    ·exact JO e (l i o ho) b
    ·exact absurd b.2 k
   ·rename_i g
    rw[if_neg g] at b
    exact⟨fun f _=>e.fn f,b⟩⟩
def mG(ds:List Deferred)(a:Act):Act:={a with defers:=a.defers++ds}
theorem FL{w:World}(h:o.wp P a w (fun c b=>K (mG ds c) b) (fun e c b=>Q e (mG ds c) b)):o.wp P (mG ds a) w K Q:=by
 have i:(Act.eval (mG ds a))=Act.eval a:=rfl
 have j:LetsOut (fun e c b=>Q e (mG ds c) b)->LetsOut Q:=fun⟨a,w,h⟩=>⟨_,_,h⟩
 have k:∀{a:Act} {d:Option Nat} {v:Value},mG ds (a.put d v)=(mG ds a).put d v:=fun{a d v}=>by cases d<;>rfl
 unfold Oper.wp at*
 rw[i]
 generalize (execOp a.eval o).run P w=r at*
 cases r with
 |ok x b=>
  cases x<;>simp only[Oper.upon,k] at h⊢<;>try exact h.elim
  case value v=>exact h
  case skip=>exact h
  case defer d=>exact h
  case enter f args=>exact Calls.mono h (fun e l g=>by cases e<;>first|exact g|exact j g)
  case row row args=>exact Rows.mono h (fun v l g=>g)
 |halt x b=>cases x<;>exact h
theorem vv{c:List Deferred}{k:Region.Mode}{g:Array Oper}:∀(fuel:Nat) (f:Array Bool) (a:Act) (w:World),wpAny P k g (fun e l m=>Q e (mG c l) m) fuel f a w->wpAny P k g Q fuel f (mG c a) w
 |0,_,_,_,h=>h
 |fuel+1,f,a,w,h=>⟨h.1,fun i q=>by
  have b:=wpOp_mono (K':=fun a w=>wpAny P k g Q fuel (f.setIfInBounds i true) (mG c a) w) (fun a w=>vv fuel (f.setIfInBounds i true) a w) (h.2 i q)
  have r:∀{a:Act} {d:Option Nat} {v:Value},mG c (a.put d v)=(mG c a).put d v:=fun{a d v}=>by cases d<;>rfl
  unfold wpOp at b⊢
  cases ho:g[i]? with
  |none=>rw[ho] at b;exact b
  |some o=>
   rw[ho] at b
   simp only at b⊢
   show(if Region.wanted o (yielded g a.tmps) then _ else _)
   split
   ·rename_i j
    rw[if_pos j] at b
    rcases b with b|⟨b,l,m,p⟩
    ·exact Or.inl (FL b)
    ·exact Or.inr ⟨b,_,_,p⟩
   ·rename_i j
    rw[if_neg j,r] at b
    exact b⟩
theorem AN{b:Nat}{o:Obj}(h:aG w b o)(o':Obj):aG (w.putObj b o') b o':=World.putObj_heap_same h.lt
def CI(P:Program)(n l:Nat)(c:Code)(Q:Exit->Act->World->Prop)(L:Env)(w:World):Prop:=∀a,Fits n a L->c.wpIn (Fence.wide.inRound l) 0 P Q a w
theorem Jk(b:ops.all (fun o=> !iw o.op)=true):∀(i:Nat) (o:Oper),ops.toArray[i]?=some o->iw o.op=false:=fun i o a=>by
 rw[getElem?_toArray] at a
 have:=all_eq_true.1 b o (mem_of_getElem? a)
 simpa using this
theorem CI.dS(m:P.follows .mixedOrders=true)(d:¬LetsOut Q)(j:ops.all (fun o=> !iw o.op)=true)(k:Nat)(c b:List Nat)(S:List Nat)(R:World->Prop)(i:uN n ops c b k=true)(e:R w)(f:cH [] R)
  (h:aM P S w ops b (mU n S w P ops Q k) c L (fun _=>True) R):CI P n l (.region id ops.toArray true) Q L w:=fun a g=>
 wpIn_region_any m (vu (Wf.round l) d (Jk j) _ _ _ _ (jX k c b S (fun _=>True) R i g trivial (fun _ _ _ _=>trivial) e f h))
theorem yM:¬LetsOut (Exit.then K (fun _ _ _=>False)):=fun h=>by
 obtain⟨a,w,h⟩:=h
 exact h
theorem tc{D:Nat}{d:List Oper}{A:Nat}{fn:FuncId}{t u:Nat}{x:Value}{b:LoopState->Loop}(I:b=fun f=>pc a fn #[t,u] (.region A d.toArray false) (.block id body) D f none)(C:Fits n a L)(J:t<n)(hu:u<n)(H:aG w l (.loop (b .ready)))
  (E:d.all (fun o=> !iw o.op)=true)
  (h:SG P n d (Exit.then (fun m i=>∃k,Fits n m k/\aG i l (.loop (b .ready))/\∀f,Kp [l] i f->aG f l (.loop (b .busy))->
    CI P n l body (Exit.then (fun _ j=>aG j l (.loop (b .busy))/\∀s,Kp [l] j s->aG s l (.loop (b .ready))->R (.returned (.bool true)) s) (fun _ _ _=>False)) k f) (fun _ _ _=>False)) d ((u,x)::(t,v)::L) w):
  YieldAt Fence.wide 0 P l #[v,x] w R:=by
 subst I
 refine⟨fn,_,_,_,run_yield H rfl,roundIn_of_wpIn trivial ?_⟩
 have G:Fits n {tmps:=(a.tmps.setIfInBounds t v).setIfInBounds u x,defers:=[]} ((u,x)::(t,v)::L):=by
  have g:=(C.put t v J).put u x hu
  exact⟨fun y z K=>by simpa[Act.put] using g.slot y z K,by simpa[Act.put] using g.size,rfl⟩
 have M:(Array.foldl (fun r x=>match x with|(t,a)=>Array.setIfInBounds r t a) a.tmps (#[t,u].zip #[v,x]))=(a.tmps.setIfInBounds t v).setIfInBounds u x:=by simp
 show(Code.region A d.toArray false).wpIn _ _ _ _ {tmps:=Array.foldl (fun r x=>match x with|(t,a)=>Array.setIfInBounds r t a) a.tmps (#[t,u].zip #[v,x]),defers:=[]} w
 rw[M]
 refine wpIn_mono (wpIn_region_lit (sQ (Wf.round l) yM E (h _ G))) (fun e m i c=>?_)
 cases e<;>try exact False.elim c
 obtain⟨k,F,p,g⟩:=c
 refine⟨_,run_beginRound p rfl,wpIn_block (wpIn_mono (g _ (Kp.set i p rfl rfl) (World.putObj_heap_same p.lt) m F) (fun e N j c=>?_))⟩
 cases e<;>try exact False.elim c
 obtain⟨q,B⟩:=c
 exact⟨_,_,run_endRound none q,B _ (Kp.set j q rfl rfl) (World.putObj_heap_same q.lt)⟩
theorem SY.HU{m:List Oper}{d:Nat}{ty:TypeId}{pos:String}{af:Array Edge}{g:Option (Nat×Bool)}{x y z:Operand}{i:Array TypeId}{u:Value}
  (t:Nat.blt d n=true) (E:want ops L ⟨some d,.call ⟨.value x,#[y,z],i⟩,ty,pos,af,g⟩=some true) (B:(Op.call ⟨.value x,#[y,z],i⟩).operands.toList.all (known L)=true)
  (F:bH L x= .func (.yield l) #[] #[]) (G:bH L y=v) (H:bH L z=u) (h:YieldAt Fence.wide 0 P l #[v,u] w R) (k:∀e c,R e c->∃u,e= .returned u/\SY P n ops Q m ((d,u)::L) c):SY P n ops Q (⟨some d,.call ⟨.value x,#[y,z],i⟩,ty,pos,af,g⟩::m) L w:=by
 obtain⟨fn,I,o,p,D,C⟩:=h
 refine SY.op (R:=fun u c=>R (.returned u) c) (by simpa using t) E B (fun a j K s=>?_) (fun u c h=>?_)
 ·refine⟨fun f _=>trivial,?_⟩
  rw[Oper.semAt_eq _ _ _ (ma rfl),<-execOp_congr ⟨some d,.call ⟨.value x,#[y,z],i⟩,ty,pos,af,g⟩ (fun J b e=>by cases e) j]
  have:(execOp (bH L) ⟨some d,.call ⟨.value x,#[y,z],i⟩,ty,pos,af,g⟩).run P w= .ok (.round l fn I o p) w:=by
   simp only[execOp,resolve,Deferred.ofValue,invoke,Sem.run_bind,Sem.run_pure,Result.andThen_ok,map_toArray,map_cons,map_nil,F,G,H]
   simpa using D
  rw[this,Oper.uponIn_round]
  refine⟨fun A=>absurd A Wf.wide.depth,RoundIn.mono C (fun e c j=>?_)⟩
  obtain⟨u,rfl,_⟩:=k e c j
  exact s _ _ j
 ·obtain⟨M,q,r⟩:=k _ _ h
  cases q
  exact r
theorem oP.app(h:Fits n a L):oP n ds (mG ds a) L:=⟨⟨h.slot,h.size,rfl⟩,by show a.defers++ds=ds;rw[h.defers];rfl⟩
theorem CD.dS(l:P.follows .mixedOrders=true)(k:Nat)(c b:List Nat)(S:List Nat)(R:World->Prop)(j:uN n ops c b k=true)(g:R w)(i:cH [] R)
  (h:aM P S w ops b (mU n S w P ops (fun e f m=>Q e (mG ds f) m) k) c L (fun _=>True) R):CD P n ds (.region id ops.toArray true) Q L w:=fun a d=>by
 have e:a=mG ds {a with defers:=[]}:=by
  show a={a with defers:=[]++ds}
  rw[nil_append,<-d.defers]
 rw[e]
 exact wp_region_any l (vv _ _ _ _ (jX k c b S (fun _=>True) R j d.fit trivial (fun _ _ _ _=>trivial) g i h))
theorem CD.rangeFunc{g:Operand}{f:Array Tmp}{c:Code}{d:FuncId}[F:bU P d]{j:Array Value}(x:known L g=true)(u:bH L g= .func (.func d) #[] j)
  (h:∀a,oP n ds a L->∀(fn:FuncId) (k:LoopState->Loop) (b:World),k=(fun A=>pc a fn f c body w.heap.size A none)->Kp [] w b->b.heap.size=w.heap.size+2->aG b w.heap.size (.deferred (some []))->aG b (w.heap.size+1) (.loop (k .ready))->
   Calls P d (#[.func (.yield (w.heap.size+1)) #[] #[]]++j) b (fun e o=>(∃v,e= .returned v)/\aG o (w.heap.size+1) (.loop (k .ready))/\
    Q .normal {a with defers:={target:= .collected w.heap.size,args:= #[]}::ds} (o.putObj (w.heap.size+1) (.loop (k .exhausted))))):CD P n ds (.rangeFunc g f c body) Q L w:=by
 intro a l
 refine(wpIn_wide (n:=0)).1 (wpIn_rangeFunc (fun fn D=>?_))
 have t:a.eval g= .func (.func d) #[] j:=by
  have:=l.fit.eval x
  rw[u] at this
  exact this
 obtain⟨b,i⟩:∃b,(w.alloc (.deferred (some []))).alloc (.loop (pc a fn f c body w.heap.size .ready none))=b:=⟨_,rfl⟩
 have y:Kp [] w b:=by
  rw[<-i]
  exact(Kp.push w (.deferred (some [])) rfl).trans (Kp.push (w.alloc (.deferred (some []))) (.loop (pc a fn f c body w.heap.size .ready none)) rfl)
 have z:b.heap.size=w.heap.size+2:=by rw[<-i];simp
 have p:aG b w.heap.size (.deferred (some [])):=by
  rw[<-i]
  exact(Below.heap_alloc _ _ _ (by simp)).trans (World.alloc_heap_new w _)
 have q:aG b (w.heap.size+1) (.loop (pc a fn f c body w.heap.size .ready none)):=by
  rw[<-i]
  have:=World.alloc_heap_new (w.alloc (.deferred (some []))) (.loop (pc a fn f c body w.heap.size .ready none))
  rwa [World.size_alloc] at this
 refine⟨w.heap.size+1,[{target:= .collected w.heap.size,args:= #[]}],b,{target:= .fn (.func d) j,args:= #[.func (.yield (w.heap.size+1)) #[] #[]]},b,d,#[.func (.yield (w.heap.size+1)) #[] #[]]++j,b,?_,?_,fun B C=>trivial,?_,fun m=>absurd m Wf.wide.depth,?_⟩
 ·rw[<-i]
  exact run_enterLoop_outer _ _ _ _ _
 ·simp only[resolve,t]
  simp[go_sem]
 ·simp[invoke,go_sem,F.run]
 ·refine callsIn_wide.2 ((h a l fn _ b rfl y z p q).mono (fun e o m=>?_))
  obtain⟨⟨v,rfl⟩,r,s⟩:=m
  refine⟨none,_,run_endLoop (P:=P) r (by simp[pc]),?_⟩
  show Q .normal {a with defers:=[{target:= .collected w.heap.size,args:= #[]}]++a.defers} _
  rw[l.defers]
  exact s
theorem CD.seq{x:Code}(h:CD P n ds x (Exit.then (y.wp P Q) Q) L w):CD P n ds (.seq x y) Q L w:=fun a b=>wp_seq (h a b)
theorem CD.block{c:Code}(h:CD P n ds c (Exit.inBlock id Q) L w):CD P n ds (.block id c) Q L w:=fun a b=>wp_block (h a b)
theorem NG.cd(h:CD P n ds y Q L w):NG n .normal (fun e a w=>Exit.then (y.wp P Q) Q e (mG ds a) w) L w:=fun a b=>h _ (oP.app b)
theorem Gz{b c:Nat}{fn:Func}{e:Exit}(j:e= .normal\/e= .ret)(m:fn.results= #[])(i:a.defers=[{target:= .collected c,args:= #[]},{target:= .collected b,args:= #[]}])(d:aG w c (.deferred (some [])))(l:b≠c)(g:aG w b (.deferred (some [])))(h:R (.returned (.tuple #[])) ((w.putObj c (.deferred none)).putObj b (.deferred none))):bodyPostM Fence.wide 0 P fn R e a w:=by
 have f:LeavesInM Fence.wide 0 P fn a.tmps R a.defers .returning w:=by
  rw[i]
  have k:=Kp.set w (o':= .deferred none) d rfl rfl
  refine⟨by simp,.inl ⟨_,_,rfl,run_takeDeferred d,by simp,.inl ⟨_,_,rfl,run_takeDeferred (g.kp k (by simp[l])),?_⟩⟩⟩
  refine⟨.tuple #[],?_,h⟩
  unfold results
  rw[m]
  simp only[mapM_toArray,<-bind_pure_comp,Sem.run_bind,Result.andThen,Sem.run_pure]
  rfl
 rcases j with rfl|rfl
 ·exact f
 ·exact f
end
end
section
attribute [local irreducible] CG NG SG SY aP aM Row aG aF aQ
theorem rX{w:World}{l c:Nat}{a:Option Addr}{cc:Nat}{xs:List Dg}(x:xs.length<=100000)(J:Nat->World->Prop)(i:∀r W,J r W->Row W c 0 [.slice a xs.length cc]/\Sl dc 8 W a xs)(y:∀r W b,J r W->Kp [] W b->J r b)
  (s:∀r W (p:r<xs.length),J (r+1) W->YieldAt Fence.wide 0 prog l #[.int .i64 (r:Int),dv xs[r]] W (fun e b=>e= .returned (.bool true)/\J r b)) (h:J xs.length w):
  Calls prog 158 #[.func (.yield l) #[] #[],.pointer (some ⟨c,0,none⟩)] w (fun e g=>(∃v,e= .returned v)/\J 0 g):=by
 refine bN func158 rfl ntmps158 rfl ?_
 obtain⟨f,-⟩:=i _ _ h
 repeat (first|apply ar|(apply au;rfl;(first|apply aE|apply aZ|apply dg|apply td)<;>first|rfl|exact zc|assumption|exact wn))
 refine CG.loop (X:=Nat) (fun r=>[(0,.func (.yield l) #[] #[]),(1,.pointer (some ⟨c,0,none⟩)),(3,.int .i64 ((r:Int)-1))])
  (fun r g=>r<=xs.length/\J r g) (fun r=>r) xs.length ⟨Nat.le_refl _,h⟩ (aS.of rfl) ?_
 rintro r t ⟨p,d⟩
 refine CG.to [(0,.func (.yield l) #[] #[]),(1,.pointer (some ⟨c,0,none⟩)),(3,.int .i64 ((r:Int)-1))] (aS.of rfl) ?_
 clear f
 cases r with
 |zero=>
  have k:¬(0:Int)<=((0:Nat):Int)-1:=by omega
  repeat (first|apply ar|(apply au;rfl;(first|apply aB|apply ji)<;>first|rfl|exact qr))
  refine bA rfl ?_
  repeat apply ar
  refine oY (Or.inr rfl) results158 ?_
  exact⟨⟨_,rfl⟩,d⟩
 |succ r=>
  have j:((r+1:Nat):Int)-1=(r:Int):=by omega
  rw[j]
  have k:(0:Int)<=(r:Int):=by omega
  obtain⟨f,n⟩:=i _ _ d
  obtain⟨u,z,rfl,q⟩:=n.at (show r<xs.length by omega)
  repeat (first|apply ar|(apply au;rfl;(first|apply aB|apply ji)<;>first|rfl|exact qf))
  refine bO rfl ?_
  repeat (first|refine CG.block ?_|refine CG.scope ?_|refine CG.seq ?_|apply CG.skip|refine NG.next ?_)
  refine CG.F5 ?_
  repeat (refine SY.val rfl rfl rfl rfl rfl (by first|((first|apply aB|apply aZ|apply bf|apply fa)<;>(first|exact rfl|exact Ar.mk (by omega)|assumption|exact wn|apply ai|apply ai|fail))|fail) ?_)
  refine SY.HU rfl rfl rfl (ag rfl) (ag rfl) (ag rfl) (s r t (by omega) d) (fun e A o=>?_)
  obtain⟨rfl,m⟩:=o
  refine⟨_,rfl,?_⟩
  clear q f
  repeat (refine SY.val rfl rfl rfl rfl rfl (by first|(apply ig<;>(exact rfl))|fail) ?_)
  refine SY.nil ?_
  repeat apply ar
  refine bA rfl ?_
  repeat (first|apply ar|(apply au;rfl;(first|apply aB|apply aE|apply td)<;>first|rfl|exact zc))
  refine NG.round r (aS.of rfl) ⟨by omega,m⟩ (by omega)
theorem rW(w:World)(v:Value):Calls prog 123 #[v] w (fun e c=>∃a,e= .returned (lf 158 [.pointer (some ⟨a,0,none⟩)])/\Kp [] w c/\w.heap.size<=a/\aG c a (.cells v.cells 93)):=by
 refine bC func123 rfl ntmps123 rfl ?_
 repeat apply ar
 refine SG.box rfl rfl rfl (ag rfl) (fun b h g f d=>?_)
 repeat (first|apply ar|refine wt ?_)
 refine SG.val rfl rfl rfl rfl (Hz (vs:=[.pointer (some ⟨b,0,none⟩)]) rfl) ?_
 repeat (first|apply ar|refine wt ?_)
 refine aO (Or.inl rfl) results123 (aD.tmp rfl) ?_
 exact⟨b,rfl,g,f,d⟩
end
section
variable{c:Cm}{tot:Int}{X:List (Nat×Obj)}{E:List En}{A:List Nat}{n:Nat}{o:Obj}{W W' w:World}
def iG(ns:List (Dg×Nat×Nm))(d:Dg):List Tx:=match aC ns d with
 |some q=>q.2.x.xs.map (·.t)
 |none=>[]
noncomputable def sO(ns:List (Dg×Nat×Nm))(h:Int)(ps:List En)(l:List Dg):List En:=l.foldr (fun d ps=>(qb 256 ps h (iG ns d)).1) ps
noncomputable def uK(ns:List (Dg×Nat×Nm))(ps:List En)(l:List Dg):List En:=l.foldr (fun d ps=>pY ps (iG ns d)) ps
noncomputable def Ft(ns:List (Dg×Nat×Nm))(t:Tr)(ps:List En)(old now:Dg):List En:=uK ns (sO ns (t.height now) ps (t.fv old now)) (t.fv now old)
theorem lS{ns:List (Dg×Nat×Nm)}{h:Int}{b:List En}(a:df 256 b):∀l,df 256 (sO ns h b l)
 |[]=>a
 |d::l=>Cc (lS a l)
theorem oC{ns:List (Dg×Nat×Nm)}{b:List En}(a:df 256 b):∀l,df 256 (uK ns b l)
 |[]=>a
 |d::l=>B2 (oC a l)
def Hl(W:World)(X:List (Nat×Obj)):Prop:=∀p∈X,aG W p.1 p.2
def Sy:Obj->Prop
 | .cells _ T _=>T∉CT
 |_=>True
def Ku(X:List (Nat×Obj)):Prop:=∀p∈X,Sy p.2
theorem Pl.no{p b:Nat}{v:Value}{room:Int}{ms:List Em}(h:Pl w n p v room ms)(c:aG w b o)(d:Sy o):b∉p::aR v:=fun a=>by
 rcases mem_cons.1 a with rfl|a
 ·have e:=c.uniq h.blk
  subst e
  exact d (by decide)
 ·have a:=aL a
  rcases h.own.2 with⟨rfl,_⟩|⟨g,cap,cur,rfl,_,hg,_⟩
  ·cases a
  ·simp only[Value.ownBlock,Option.some.injEq] at a
   subst a
   have e:=c.uniq hg
   subst e
   exact d (by decide)
theorem Hl.az(h:Hl W X)(a:Kp [] W W'):Hl W' X:=fun p b=>(h p b).az a
theorem Hl.kp{S:List Nat}(h:Hl W X)(b:Kp S W W')(c:∀p∈X,p.1∉S):Hl W' X:=fun p a=>(h p a).kp b (c p a)
def vf(w:World)(n:Nat)(A:List Nat)(tot:Int)(c:Cm)(X:List (Nat×Obj))(E:List En)(W:World):Prop:=
 ∃pv ps',cS W n A tot {c with pv:=pv,ps:=ps'}/\ps'.map Em.en=E/\Kp (c.pb::aR c.pv) w W/\(∀g,pv.ownBlock=some g->c.pv.ownBlock=some g\/w.heap.size<=g)/\Hl W X
theorem vf.new(h:vf w n A tot c X E W)(a:Kp [] W W'):vf w n A tot c X E W':=by
 obtain⟨j,i,b,d,e,f,g⟩:=h
 exact⟨j,i,b.az a,d,e.trans a.any,f,g.az a⟩
theorem vf.pool{h:List En}{pv f:Value}{q d:List Em}(t:Ku X)(i:cS W n A tot {c with pv:=pv,ps:=q})(j:Kp (c.pb::aR c.pv) w W)(k:∀g,pv.ownBlock=some g->c.pv.ownBlock=some g\/w.heap.size<=g)(l:Hl W X)
  (a:Kp (c.pb::aR pv) W W') (s:Pl W' n c.pb f 256 d) (r:d.map Em.en=h) (u:∀g,f.ownBlock=some g->pv.ownBlock=some g\/W.heap.size<=g):vf w n A tot c X h W':=by
 refine⟨f,d,i.th a s,r,j.aj a (fun z b=>?_),fun g x=>?_,l.kp a (fun o m=>Pl.no (p:=c.pb) (v:=pv) (room:=256) (ms:=q) i.pool (l o m) (t o m))⟩
 ·rcases mem_cons.1 b with rfl|b
  ·exact Or.inl mem_cons_self
  ·rcases k z (aL b) with g|g
   ·refine Or.inl (mem_cons_of_mem _ ?_)
    unfold aR
    rw[g]
    simp
   ·exact Or.inr g
 ·rcases u g x with e|e
  ·exact k g e
  ·exact Or.inr (Nat.le_trans j.size e)
theorem vf.put{X':List (Nat×Obj)}{l:Nat}(h:vf w n A tot c X E W)(a:Kp [l] W W')(q:aG W l o)(r:n<=l)(s:LC [] [] l o)(t:w.heap.size<=l)(m:∀p∈X',p∈X/\p.1≠l\/aG W' p.1 p.2):vf w n A tot c X' E W':=by
 obtain⟨v,u,d,f,i,j,k⟩:=h
 have e:dt n [] [] W [l]:=dt.obj r q s
 refine⟨v,u,d.KC a e (fun _ _ h=>by cases h) (fun p b=>(d.nd p b).x.jq a e not_mem_nil not_mem_nil),f,i.aj a (aW t),j,fun p b=>?_⟩
 rcases m p b with⟨g1,g2⟩|g
 ·exact(k p g1).kp a (bQ g2)
 ·exact g
end
section
variable{w:World}
theorem qq{b off:Nat}{l:List Dg}{pre post:List Value}{T:TypeId}(a:aG w b (.cells (pre++(flat l++post)).toArray T))(c:pre.length=off):Sl dc 8 w (some ⟨b,off,none⟩) l:=by
 rw[<-c]
 exact Sl.iL ai a
attribute [local irreducible] CG NG SG SY CI aP aM Row aG aF aQ
theorem sK{n:Nat}{A:List Nat}{tot:Int}{c:Cm}(h:cS w n A tot c)(wf:c.tr.WF)(hI:df 256 (c.ps.map Em.en)){old d:Dg}(ho:c.tr.has old=true)(hw:c.tr.has d=true)(bF:c.tr.sD old d<=100000)(bG:c.tr.sD d old<=100000)
  (h1:∀aJ∈c.tr.fv old d,∃q,aC c.ns aJ=some q) (h2:∀aJ∈c.tr.fv d old,∃q,aC c.ns aJ=some q):
  Calls prog 75 #[.pointer (some ⟨c.cb,0,none⟩),dv old,dv d] w (fun e w'=>e= .returned (.tuple #[])/\vf w n A tot c [] (Ft c.ns c.tr (c.ps.map Em.en) old d) w'):=by
 refine II (args:=[.pointer (some ⟨c.cb,0,none⟩),dv old,dv d]) func75 rfl ntmps75 rfl ?_
 repeat apply ar
 refine SG.box rfl rfl rfl (ag rfl) (fun H w1 bi bV aa=>?_)
 have aa:aG w1 H (.cells #[.pointer (some ⟨c.cb,0,none⟩)] 39):=aa
 refine SG.box rfl rfl rfl (ag rfl) (fun P w2 aS bX ab=>?_)
 have ab:aG w2 P (.cells (dc old).toArray 47):=ab
 refine SG.box rfl rfl rfl (ag rfl) (fun Q w3 aE bY an=>?_)
 have an:aG w3 Q (.cells (dc d).toArray 47):=an
 have k3:=(bi.trans aS).trans aE
 have aa:=(aa.az aS).az aE
 have ab:=ab.az aE
 have h3:=h.az k3
 have M:Row w3 H 0 [.pointer (some ⟨c.cb,0,none⟩)]:=Row.of aa [] [] rfl rfl
 have r4:Row w3 P 0 (dc old):=Row.all ab rfl
 have r5:Row w3 Q 0 (dc d):=Row.all an rfl
 obtain⟨-,-,-,-,q3,-,-⟩:=cZ h3
 repeat apply ar
 refine CG.fA mixed [0,1,2,3,4,5] [(6,7,6,.tmp 16)] (by kernel_rfl) (by kernel_rfl) ?_
 repeat (apply bW;rfl;rfl;(first|apply aZ|apply bf|apply aU|apply bR)<;>first|rfl|assumption|exact wn|apply ai)
 refine aM.call rfl rfl rfl (vs:=[.pointer (some ⟨c.tb,0,none⟩),dv d]) (bg.of rfl) (fun W K _=>dZ (h3.tree.az K) d) ?_
 refine aM.one (fq.of (by rfl) rfl rfl rfl (ag rfl) (by rfl) (by rfl) (by rfl)) (fun b6 w4 L bZ aB=>?_)
 have aB:aG w4 b6 (.cells #[.int .i64 (c.tr.height d)] 3):=aB
 have k4:=k3.trans L
 have h4:=h.az k4
 have M:=M.az L
 have r4:=r4.az L
 have r5:=r5.az L
 have q3:=q3.az L
 repeat apply ar
 refine CG.tail mixed 6 [0,1,2,3,4,5] (by kernel_rfl) ?_
 repeat (apply bW;rfl;rfl;(first|apply aZ|apply bf|apply aU|apply bR)<;>first|rfl|assumption|exact wn|apply ai)
 refine aM.tl (fun w5 al _ _=>?_)
 refine SG.call rfl rfl rfl (vs:=[.pointer (some ⟨c.tb,0,none⟩),dv old,dv d]) (bg.of rfl) ((iu (h4.tree.az al) wf ho hw).mono (fun e w6 s=>?_))
 obtain⟨bs,a4,aH,bM,bK,rfl,b1,bp,⟨bH,b5⟩,aF⟩:=s
 refine⟨_,rfl,?_⟩
 refine SG.call rfl rfl rfl (vs:=[.slice (some ⟨bs,a4,none⟩) (c.tr.sD old d) aH]) (bg.of rfl) ((rW w6 _).mono (fun e i s=>?_))
 obtain⟨bx,rfl,T,b3,bb⟩:=s
 refine⟨_,rfl,?_⟩
 repeat apply ar
 have s1:=bi.size
 have s2:=aS.size
 have s3:=aE.size
 have s4:=L.size
 have s5:=al.size
 have s6:=aF.size
 have s7:=T.size
 have cj:=bb.lt
 have aw:=(al.trans aF).trans T
 have k7:=k4.trans aw
 have X0:Hl i [(H,.cells #[.pointer (some ⟨c.cb,0,none⟩)] 39),(P,.cells (dc old).toArray 47),(Q,.cells (dc d).toArray 47),(b6,.cells #[.int .i64 (c.tr.height d)] 3)]:=fun p b=>by
  simp only[mem_cons,mem_nil_iff,or_false] at b
  rcases b with rfl|rfl|rfl|rfl
  ·exact(aa.az L).az aw
  ·exact(ab.az L).az aw
  ·exact(an.az L).az aw
  ·exact aB.az aw
 have l6:=aB.lt
 have b0:H<i.heap.size/\P<i.heap.size/\Q<i.heap.size/\b6<i.heap.size:=by
  have:=aa.lt
  have:=ab.lt
  have:=an.lt
  omega
 have be:Ku [(H,.cells #[.pointer (some ⟨c.cb,0,none⟩)] 39),(P,.cells (dc old).toArray 47),(Q,.cells (dc d).toArray 47),(b6,.cells #[.int .i64 (c.tr.height d)] 3)]:=fun p b=>by
  simp only[mem_cons,mem_nil_iff,or_false] at b
  rcases b with rfl|rfl|rfl|rfl<;>(show _∉CT;decide)
 have ba:=bp.az T
 clear M r4 r5 q3
 generalize aD:[(H,Obj.cells #[.pointer (some ⟨c.cb,0,none⟩)] 39),(P,.cells (dc old).toArray 47),(Q,.cells (dc d).toArray 47),(b6,.cells #[.int .i64 (c.tr.height d)] 3)]=X at*
 have bA:∀p∈X,p.1<i.heap.size:=fun p b=>(X0 p b).lt
 have m3:(H,Obj.cells #[.pointer (some ⟨c.cb,0,none⟩)] 39)∈X:=by rw[<-aD];exact .head _
 have m4:(P,Obj.cells (dc old).toArray 47)∈X:=by rw[<-aD];exact .tail _ (.head _)
 have m5:(Q,Obj.cells (dc d).toArray 47)∈X:=by rw[<-aD];exact .tail _ (.tail _ (.head _))
 have m6:(b6,Obj.cells #[.int .i64 (c.tr.height d)] 3)∈X:=by rw[<-aD];exact .tail _ (.tail _ (.tail _ (.head _)))
 have ch:=ba.lt
 refine CG.rangeFunc rfl (ag rfl) (fun bS ha fn N W1 bk aq ca bq bv=>?_)
 obtain⟨G,R⟩:∃G:LoopState->List (Nat×Obj),G=fun g=>(bx,.cells #[.slice (some ⟨bs,a4,none⟩) (c.tr.sD old d) aH] 93)::(bs,.cells (bM++(flat (c.tr.fv old d)++bK)).toArray 47)::(i.heap.size,.deferred (some []))::(i.heap.size+1,.loop (N g))::X:=⟨_,rfl⟩
 have mX:∀{g p},p∈X->p∈G g:=fun b=>by rw[R];exact .tail _ (.tail _ (.tail _ (.tail _ b)))
 have J:∀{g},(i.heap.size+1,Obj.loop (N g))∈G g:=by rw[R];exact .tail _ (.tail _ (.tail _ (.head _)))
 have bm:∀g,Ku (G g):=fun g p b=>by
  rw[R] at b
  simp only[mem_cons] at b
  rcases b with rfl|rfl|rfl|rfl|b
  ·show _∉CT;decide
  ·show _∉CT;decide
  ·trivial
  ·trivial
  ·exact be p b
 have V:∀{g ak E W B},vf w n A tot c (G g) E W->Kp [i.heap.size+1] W B->aG B (i.heap.size+1) (.loop (N ak))->vf w n A tot c (G ak) E B:=fun{g ak E W B} k K hB=>by
  have F:aG W (i.heap.size+1) (.loop (N g)):=by
   obtain⟨_,_,-,-,-,-,f⟩:=k
   exact f _ J
  refine k.put K F (by have:=h.w0;omega) trivial (by omega) (fun p b=>?_)
  rw[R] at b
  simp only[mem_cons] at b
  rw[R]
  rcases b with rfl|rfl|rfl|rfl|b
  ·exact Or.inl ⟨.head _,by simp only;omega⟩
  ·exact Or.inl ⟨.tail _ (.head _),by simp only;omega⟩
  ·exact Or.inl ⟨.tail _ (.tail _ (.head _)),by simp only;omega⟩
  ·exact Or.inr hB
  ·exact Or.inl ⟨.tail _ (.tail _ (.tail _ (.tail _ b))),by have:=bA p b;omega⟩
 refine(rX (xs:=c.tr.fv old d) (a:=some ⟨bs,a4,none⟩) (cc:=aH) (by rw[fM];exact bF)
  (fun r W=>vf w n A tot c (G .ready) (sO c.ns (c.tr.height d) (c.ps.map Em.en) ((c.tr.fv old d).drop r)) W)
  (fun r W k=>?_) (fun r W B k K=>k.new K) (fun r W hr k=>?_) ?_).mono (fun e v s=>?_)
 ·obtain⟨_,_,-,-,-,-,f⟩:=k
  rw[R] at f
  rw[fM]
  exact⟨Row.of (f _ (.head _)) [] [] rfl rfl,qq (f _ (.tail _ (.head _))) bH⟩
 ·have F:aG W (i.heap.size+1) (.loop (N .ready)):=by
   obtain⟨_,_,-,-,-,-,f⟩:=k
   exact f _ J
  refine tc (t:=25) (u:=26) bk ha (by decide) (by decide) F rfl ?_
  clear bk
  have ll:=F.lt
  refine SG.alloc rfl rfl rfl (fun b8 W2 aT bC ac=>?_)
  refine SG.aN (l:=dc (c.tr.fv old d)[r]) rfl rfl (ag rfl) (ag rfl) ac (ai _) rfl (bj _) (fun v aV ac=>?_)
  have av:Kp [] W v:=aT.aj aV (aW (by omega))
  have z:=k.new av
  refine SG.nil (NG.zX (fun a1 af=>⟨_,af,F.az av,fun j I ad=>?_⟩))
  have y:=V z I ad
  have r8:Row j b8 0 (dc (c.tr.fv old d)[r]):=Row.all (ac.kp I (bQ (by omega))) rfl
  clear af a1 k z
  obtain⟨ay,ah,o,hE,am,hg,f⟩:=y
  have M:Row j H 0 [.pointer (some ⟨c.cb,0,none⟩)]:=Row.of (f _ (mX m3)) [] [] rfl rfl
  have r6:Row j b6 0 [.int .i64 (c.tr.height d)]:=Row.of (f _ (mX m6)) [] [] rfl rfl
  obtain⟨-,-,-,-,-,t4,t5⟩:=cZ o
  obtain⟨q,hq⟩:=h1 _ (getElem_mem hr)
  have hQ:=o.yQ (c:={c with pv:=ay,ps:=ah}) hq
  obtain⟨-,-,-,-,a6,-⟩:=fg hQ.blk
  have hM:=o.map
  refine CI.dS mixed yM rfl 15 [0,1,2,3,4,5,6,7,8,9,10,11,12,13,14] [] [] (fun _=>True) (by kernel_rfl) trivial (fun _ _ _ _=>trivial) ?_
  repeat (apply bW;rfl;rfl;(first|apply aZ|apply bf|apply aU|apply bR|apply oQ)<;>first|rfl|assumption|exact wn|apply ai|exact iX (by assumption)|fail)
  refine aM.tl (fun W5 D _ _=>?_)
  clear M r6 r8 t4 t5 a6 hM
  have aO:df 256 (ah.map Em.en):=by rw[hE];exact lS hI _
  refine SG.call rfl rfl rfl (vs:=[.pointer (some ⟨c.pb,0,none⟩),.int .i64 (c.tr.height d),.slice q.2.x.a q.2.x.xs.length q.2.x.c]) (bg.of rfl) ((tW (o.az D).pool aO (by omega) (hQ.az D).x.tx (hQ.x.len)).mono (fun e Y s=>?_))
  obtain⟨rfl,bP,bO,aQ,aL,aX,aR⟩:=s
  refine⟨_,rfl,?_⟩
  have a0:=am.trans D.any
  have ao:vf w n A tot c (G .busy) (sO c.ns (c.tr.height d) (c.ps.map Em.en) ((c.tr.fv old d).drop r)) Y:=by
   refine vf.pool (bm _) (o.az D) a0 hg (f.az D) aX aQ ?_ aR
   rw[drop_eq_getElem_cons hr]
   show _=(qb 256 (sO c.ns (c.tr.height d) (c.ps.map Em.en) ((c.tr.fv old d).drop (r+1))) (c.tr.height d) (iG c.ns (c.tr.fv old d)[r])).1
   have et:iG c.ns (c.tr.fv old d)[r]=q.2.x.xs.map (·.t):=by unfold iG;rw[hq]
   rw[aL,hE,et]
  have a3:aG Y (i.heap.size+1) (.loop (N .busy)):=by
   obtain⟨_,_,-,-,-,-,f⟩:=ao
   exact f _ J
  refine SG.nil (NG.zX (fun a1 af=>⟨a3,fun m aY aP=>⟨rfl,V ao aY aP⟩⟩))
 ·refine⟨c.pv,c.ps,h.az (k7.trans aq),by rw[drop_length];rfl,(k7.trans aq).any,fun a8 hg=>Or.inl hg,?_⟩
  rw[R]
  intro p b
  simp only[mem_cons] at b
  rcases b with rfl|rfl|rfl|rfl|b
  ·exact bb.az aq
  ·exact ba.az aq
  ·exact bq
  ·exact bv
  ·exact(X0 p b).az aq
 obtain⟨hv,z⟩:=s
 have U:aG v (i.heap.size+1) (.loop (N .ready)):=by
  obtain⟨_,_,-,-,-,-,f⟩:=z
  exact f _ J
 refine⟨hv,U,?_⟩
 obtain⟨j,ae⟩:∃j,v.putObj (i.heap.size+1) (.loop (N .exhausted))=j:=⟨_,rfl⟩
 rw[ae]
 have I:Kp [i.heap.size+1] v j:=by
  rw[<-ae]
  exact Kp.set v U rfl rfl
 have ad:aG j (i.heap.size+1) (.loop (N .exhausted)):=by
  rw[<-ae]
  exact AN U _
 have y:=V z I ad
 rw[drop_zero] at y
 clear z U I V bm J
 generalize bd:sO c.ns (c.tr.height d) (c.ps.map Em.en) (c.tr.fv old d)=E1 at y
 have bt:df 256 E1:=by rw[<-bd];exact lS hI _
 have mD:(i.heap.size,Obj.deferred (some []))∈G .exhausted:=by rw[R];exact .tail _ (.tail _ (.head _))
 refine CD.seq ?_ _ (oP.mark ha)
 have bU:=y
 obtain⟨ay,ah,o,hE,am,hg,f⟩:=y
 have M:Row j H 0 [.pointer (some ⟨c.cb,0,none⟩)]:=Row.of (f _ (mX m3)) [] [] rfl rfl
 have r4:Row j P 0 (dc old):=Row.all (f _ (mX m4)) rfl
 have r5:Row j Q 0 (dc d):=Row.all (f _ (mX m5)) rfl
 obtain⟨-,-,-,-,t3,-,-⟩:=cZ o
 refine CD.dS mixed 6 [0,1,2,3,4,5] [] [] (fun _=>True) (by kernel_rfl) trivial (fun _ _ _ _=>trivial) ?_
 repeat (apply bW;rfl;rfl;(first|apply aZ|apply bf|apply aU|apply bR)<;>first|rfl|assumption|exact wn|apply ai)
 refine aM.tl (fun W5 al _ _=>?_)
 refine SG.call rfl rfl rfl (vs:=[.pointer (some ⟨c.tb,0,none⟩),dv d,dv old]) (bg.of rfl) ((iu (o.az al).tree wf hw ho).mono (fun e Y s=>?_))
 obtain⟨aA,a5,aI,bN,bL,rfl,b2,a9,⟨bI,b7⟩,aF⟩:=s
 refine⟨_,rfl,?_⟩
 refine SG.call rfl rfl rfl (vs:=[.slice (some ⟨aA,a5,none⟩) (c.tr.sD d old) aI]) (bg.of rfl) ((rW Y _).mono (fun e m s=>?_))
 obtain⟨bn,rfl,T,b4,bc⟩:=s
 refine⟨_,rfl,?_⟩
 refine SG.nil (NG.cd ?_)
 refine CD.block ?_
 clear M r4 r5 t3
 have ax:=(al.trans aF).trans T
 have cg:=T.size
 have ck:=bc.lt
 have ci:=(a9.az T).lt
 obtain⟨Z,ap⟩:∃Z:List (Nat×Obj),Z=(i.heap.size,.deferred (some []))::X:=⟨_,rfl⟩
 have a7:Hl m Z:=fun p b=>by
  rw[ap] at b
  rcases mem_cons.1 b with rfl|b
  ·exact(f _ mD).az ax
  ·exact(f _ (mX b)).az ax
 have bz:Ku Z:=fun p b=>by
  rw[ap] at b
  rcases mem_cons.1 b with rfl|b
  ·trivial
  ·exact be p b
 have bh:∀p∈Z,p.1<m.heap.size:=fun p b=>(a7 p b).lt
 have bo:=h2
 have cf:w.heap.size<=m.heap.size:=Nat.le_trans am.size ax.size
 refine CD.rangeFunc rfl (ag rfl) (fun a2 bB bT O W8 bl au ce br bw=>?_)
 obtain⟨C,S⟩:∃C:LoopState->List (Nat×Obj),C=fun g=>(bn,.cells #[.slice (some ⟨aA,a5,none⟩) (c.tr.sD d old) aI] 93)::(aA,.cells (bN++(flat (c.tr.fv d old)++bL)).toArray 47)::(m.heap.size,.deferred (some []))::(m.heap.size+1,.loop (O g))::Z:=⟨_,rfl⟩
 have mY:∀{g p},p∈Z->p∈C g:=fun b=>by rw[S];exact .tail _ (.tail _ (.tail _ (.tail _ b)))
 have J:∀{g},(m.heap.size+1,Obj.loop (O g))∈C g:=by rw[S];exact .tail _ (.tail _ (.tail _ (.head _)))
 have bJ:∀g,Ku (C g):=fun g p b=>by
  rw[S] at b
  simp only[mem_cons] at b
  rcases b with rfl|rfl|rfl|rfl|b
  ·show _∉CT;decide
  ·show _∉CT;decide
  ·trivial
  ·trivial
  ·exact bz p b
 have V:∀{g ak E W B},vf w n A tot c (C g) E W->Kp [m.heap.size+1] W B->aG B (m.heap.size+1) (.loop (O ak))->vf w n A tot c (C ak) E B:=fun{g ak E W B} k K hB=>by
  have F:aG W (m.heap.size+1) (.loop (O g)):=by
   obtain⟨_,_,-,-,-,-,f⟩:=k
   exact f _ J
  refine k.put K F (by have:=h.w0;omega) trivial (by omega) (fun p b=>?_)
  rw[S] at b
  simp only[mem_cons] at b
  rw[S]
  rcases b with rfl|rfl|rfl|rfl|b
  ·exact Or.inl ⟨.head _,by simp only;omega⟩
  ·exact Or.inl ⟨.tail _ (.head _),by simp only;omega⟩
  ·exact Or.inl ⟨.tail _ (.tail _ (.head _)),by simp only;omega⟩
  ·exact Or.inr hB
  ·exact Or.inl ⟨.tail _ (.tail _ (.tail _ (.tail _ b))),by have:=bh p b;omega⟩
 refine(rX (xs:=c.tr.fv d old) (a:=some ⟨aA,a5,none⟩) (cc:=aI) (by rw[fM];exact bG)
  (fun r W=>vf w n A tot c (C .ready) (uK c.ns E1 ((c.tr.fv d old).drop r)) W)
  (fun r W k=>?_) (fun r W B k K=>k.new K) (fun r W hr k=>?_) ?_).mono (fun e v s=>?_)
 ·obtain⟨_,_,-,-,-,-,f⟩:=k
  rw[S] at f
  rw[fM]
  exact⟨Row.of (f _ (.head _)) [] [] rfl rfl,qq (f _ (.tail _ (.head _))) bI⟩
 ·have F:aG W (m.heap.size+1) (.loop (O .ready)):=by
   obtain⟨_,_,-,-,-,-,f⟩:=k
   exact f _ J
  refine tc (t:=51) (u:=52) (a:={a2 with defers:=[]}) bl bB.fit (by decide) (by decide) F rfl ?_
  clear bl
  have ll:=F.lt
  refine SG.alloc rfl rfl rfl (fun b8 W2 aT bC ac=>?_)
  refine SG.aN (l:=dc (c.tr.fv d old)[r]) rfl rfl (ag rfl) (ag rfl) ac (ai _) rfl (bj _) (fun v aV ac=>?_)
  have av:Kp [] W v:=aT.aj aV (aW (by omega))
  have z:=k.new av
  refine SG.nil (NG.zX (fun a1 af=>⟨_,af,F.az av,fun j I ad=>?_⟩))
  have y:=V z I ad
  have r8:Row j b8 0 (dc (c.tr.fv d old)[r]):=Row.all (ac.kp I (bQ (by omega))) rfl
  clear af a1 k z
  obtain⟨ay,ah,o,hE,am,hg,f⟩:=y
  have M:Row j H 0 [.pointer (some ⟨c.cb,0,none⟩)]:=Row.of (f _ (mY (by rw[ap];exact .tail _ m3))) [] [] rfl rfl
  obtain⟨-,-,-,-,-,t4,t5⟩:=cZ o
  obtain⟨q,hq⟩:=bo _ (getElem_mem hr)
  have hQ:=o.yQ (c:={c with pv:=ay,ps:=ah}) hq
  obtain⟨-,-,-,-,a6,-⟩:=fg hQ.blk
  have hM:=o.map
  refine CI.dS mixed yM rfl 14 [0,1,2,3,4,5,6,7,8,9,10,11,12,13] [] [] (fun _=>True) (by kernel_rfl) trivial (fun _ _ _ _=>trivial) ?_
  repeat (apply bW;rfl;rfl;(first|apply aZ|apply bf|apply aU|apply bR|apply oQ)<;>first|rfl|assumption|exact wn|apply ai|exact iX (by assumption)|fail)
  refine aM.tl (fun W5 D _ _=>?_)
  clear M r8 t4 t5 a6 hM
  have aO:df 256 (ah.map Em.en):=by rw[hE];exact oC bt _
  refine SG.call rfl rfl rfl (vs:=[.pointer (some ⟨c.pb,0,none⟩),.slice q.2.x.a q.2.x.xs.length q.2.x.c]) (bg.of rfl) ((tO (o.az D).pool aO (by omega) (hQ.az D).x.tx.sl (hQ.x.len)).mono (fun e Y s=>?_))
  obtain⟨rfl,bP,bO,aQ,aL,aX,aR⟩:=s
  refine⟨_,rfl,?_⟩
  have a0:=am.trans D.any
  have ao:vf w n A tot c (C .busy) (uK c.ns E1 ((c.tr.fv d old).drop r)) Y:=by
   refine vf.pool (bJ _) (o.az D) a0 hg (f.az D) aX aQ ?_ (fun a8 bE=>Or.inl (aR a8 bE))
   rw[drop_eq_getElem_cons hr]
   show _=pY (uK c.ns E1 ((c.tr.fv d old).drop (r+1))) (iG c.ns (c.tr.fv d old)[r])
   have et:iG c.ns (c.tr.fv d old)[r]=q.2.x.xs.map (·.t):=by unfold iG;rw[hq]
   rw[aL,hE,et]
  have a3:aG Y (m.heap.size+1) (.loop (O .busy)):=by
   obtain⟨_,_,-,-,-,-,f⟩:=ao
   exact f _ J
  refine SG.nil (NG.zX (fun a1 af=>⟨a3,fun m aY aP=>⟨rfl,V ao aY aP⟩⟩))
 ·refine⟨ay,ah,o.az (ax.trans au),by rw[drop_length];exact hE,am.trans (ax.trans au).any,hg,?_⟩
  rw[S]
  intro p b
  simp only[mem_cons] at b
  rcases b with rfl|rfl|rfl|rfl|b
  ·exact bc.az au
  ·exact(a9.az T).az au
  ·exact br
  ·exact bw
  ·exact(a7 p b).az au
 obtain⟨hv,z⟩:=s
 have U:aG v (m.heap.size+1) (.loop (O .ready)):=by
  obtain⟨_,_,-,-,-,-,f⟩:=z
  exact f _ J
 refine⟨hv,U,?_⟩
 obtain⟨j,ae⟩:∃j,v.putObj (m.heap.size+1) (.loop (O .exhausted))=j:=⟨_,rfl⟩
 rw[ae]
 have I:Kp [m.heap.size+1] v j:=by
  rw[<-ae]
  exact Kp.set v U rfl rfl
 have ad:aG j (m.heap.size+1) (.loop (O .exhausted)):=by
  rw[<-ae]
  exact AN U _
 have y:=V z I ad
 rw[drop_zero] at y
 have mE:(m.heap.size,Obj.deferred (some []))∈C .exhausted:=by rw[S];exact .tail _ (.tail _ (.head _))
 have mF:(i.heap.size,Obj.deferred (some []))∈C .exhausted:=mY (by rw[ap];exact .head _)
 have hD:aG j m.heap.size (.deferred (some []))/\aG j i.heap.size (.deferred (some [])):=by
  obtain⟨_,_,-,-,-,-,f⟩:=y
  exact⟨f _ mE,f _ mF⟩
 have b9:i.heap.size<m.heap.size:=bh _ (by rw[ap];exact .head _)
 have bD:uK c.ns E1 (c.tr.fv d old)=Ft c.ns c.tr (c.ps.map Em.en) old d:=by unfold Ft;rw[bd]
 rw[bD] at y
 have kA:=Kp.set j (o':= .deferred none) hD.1 rfl rfl
 have aK:=hD.2.kp kA (bQ (by omega))
 have bu:=y.put (X':=[(i.heap.size,Obj.deferred (some []))]) kA hD.1 (by have:=h.w0;omega) trivial (by omega) (fun p b=>by
  rw[mem_singleton] at b
  subst b
  exact Or.inr aK)
 refine Gz (Or.inl rfl) results75 rfl hD.1 (by omega) hD.2 ⟨rfl,?_⟩
 exact bu.put (X':=[]) (Kp.set _ aK rfl rfl) aK (by have:=h.w0;omega) trivial (by omega) (fun p b=>by cases b)
end
section
variable{mk:Dg}{f:Fb}{h:Int}{es:List Int}{l:List Tx}{b:Nat}{t:Tl}{x:Tx}{T:TypeId}{w:World}
open Classical in
noncomputable def dR(nb:dW)(h:Int)(mk:Dg):Fb->Tl->List Int->List Tx->Int×Fb×Tl×List Int
 |f,t,es,[]=>(0,f,t,es)
 |f,t,es,x::l=>if eJ nb x≠0 then(eJ nb x,f,t,es) else if dC f x≠0 then(dC f x,f,t,es) else dR nb h mk (jJ f mk x) (dot t f h mk x) (kL es f mk x) l
open Classical in
noncomputable def oL(nb:dW)(c:Cm)(b:Bl):Int:=
 if bz b≠0 then bz b else if(aC c.ns (aI b)).isSome then 7 else
 match aC c.ns b.par with
 |none=>24
 |some q=>if iU b q.2.x.b≠0 then iU b q.2.x.b else if(dR nb b.ht b.mkr q.2.f q.2.t [] b.txs).1≠0 then(dR nb b.ht b.mkr q.2.f q.2.t [] b.txs).1 else c.tr.addE (aI b) b.par
theorem nM{nb:dW}:dR nb h mk f t es []=(0,f,t,es):=rfl
theorem lD{nb:dW}(a:eJ nb x≠0):(dR nb h mk f t es (x::l)).1=eJ nb x:=by
 unfold dR
 rw[if_pos a]
theorem lE{nb:dW}(b:eJ nb x=0)(a:dC f x≠0):(dR nb h mk f t es (x::l)).1=dC f x:=by
 unfold dR
 rw[if_neg (fun g=>g b),if_pos a]
theorem l0{nb:dW}(b:eJ nb x=0)(a:dC f x=0):dR nb h mk f t es (x::l)=dR nb h mk (jJ f mk x) (dot t f h mk x) (kL es f mk x) l:=by
 show(if eJ nb x≠0 then _ else if dC f x≠0 then _ else _)=_
 rw[if_neg (fun g=>g b),if_neg (fun g=>g a)]
theorem zB{b p:Bl}(h:iU b p=0):b.ht=p.ht+1:=by
 unfold iU at h
 split at h
 ·rename_i g
  exact absurd h g
 ·split at h
  ·cases h
  ·rename_i g
   exact Classical.byContradiction (fun e=>g (Or.inr (Or.inr e)))
def Ao(bk tb:Nat)(va:Value)(y:Bm)(vn:Value):List Value:=I7 bk tb va (cR y++[vn])
theorem RO(w:World)(bk tb:Nat)(a0 b d e f g i j k l m o p q r s:UInt8)(h:Int)(a:Option Addr)(n c:Nat):(Instr.build 118 #[(0,FC bk tb (.slice none 0 0)),(1,.agg #[bv a0,bv b,bv d,bv e,bv f,bv g,bv i,bv j,.int .i64 h,bv k,bv l,bv m,bv o,bv p,bv q,bv r,bv s,.slice a n c])]).run prog w=
  .ok (.agg #[.pointer (some ⟨bk,0,none⟩),.iface 74 (.pointer (some ⟨tb,0,none⟩)),.slice none 0 0,bv a0,bv b,bv d,bv e,bv f,bv g,bv i,bv j,.int .i64 h,bv k,bv l,bv m,bv o,bv p,bv q,bv r,bv s,.slice a n c,.slice none 0 0]) w:=by kernel_rfl
theorem Tj(bk tb:Nat)(y:Bm)(w:World):(Instr.build 118 #[(0,FC bk tb (.slice none 0 0)),(1,eL y)]).run prog w= .ok (.agg (Ao bk tb (.slice none 0 0) y (.slice none 0 0)).toArray) w:=by
 obtain⟨⟨v,t⟩,h,⟨x,u⟩,a,c,z⟩:=y
 match v,t,x,u with
 |[b,d,e,f,g,i,j,k],_,[l,m,n,o,p,q,r,s],_=>exact RO w bk tb b d e f g i j k l m n o p q r s h a z.length c
theorem wU{bk tb:Nat}{va vn:Value}{y:Bm}(h:aG w b (.cells (Ao bk tb va y vn).toArray T)):Row w b 20 [.slice y.a y.xs.length y.c]/\Row w b 21 [vn]:=by
 have e:Ao bk tb va y vn=tV bk tb va++(cR y++[vn]):=rfl
 have d:=Row.of h (tV bk tb va) [vn] (l:=cR y) (by rw[e]) rfl
 have f:=Row.of h (tV bk tb va++cR y) [] (l:=[vn]) (by rw[e,append_assoc,append_nil]) (by rw[length_append,aH])
 exact⟨(pA d).2.2.2,f⟩
theorem eA.nb{n:Nat}{S:List Nat}{cs:Array Value}(h:eA T n w S)(a:aG w b (.cells cs T)):b∉S:=fun c=>(h b c).2 _ _ a
theorem Gs(bk tb:Nat)(va:Value)(y:Bm)(vn:Value):(Ao bk tb va y vn).toArray.toList=(tV bk tb va++cR y)++([vn]++[]):=by simp[Ao,I7,tV]
theorem DO(bk tb:Nat)(va:Value)(y:Bm)(vn:Value):(tV bk tb va++cR y)++([vn]++[])=Ao bk tb va y vn:=by simp[Ao,I7,tV]
theorem Gr(bk tb:Nat)(va:Value)(y:Bm):(tV bk tb va++cR y).length=21:=by rw[length_append,aH];rfl
structure Cw(wT:World)(b il:Nat)(y:Bm)(tot:Int)(N i:Nat)(bk bm tb:Nat)(m:Bk)(f:Fb)(t:Tl)(va:Value)(es:List Int)(vn:Value)(W:World):Prop where
 kp:Kp [b,il] wT W
 st:fW W 118 (cR y++[vn]) b bk bm tb m t va
 bm:bm=il\/wT.heap.size<=bm
 bi:iY tot (N+6*i) m f
 tn:t.n<=N+i
 oa:W.ownsRow wT.heap.size 36 1 va es.length (bX vi es)
 el:es.length=i
 on:W.ownsRow wT.heap.size 47 8 vn i (bX dc ((y.xs.take i).map (fun x=>aJ x.t)))
section
variable {wT:World} {b il:Nat} {y:Bm} {tot:Int} {N i:Nat} {bk bm tb:Nat} {m:Bk} {f:Fb} {t:Tl} {va:Value} {es:List Int} {vn:Value} {W W':World}
theorem Cw.az(J:Cw wT b il y tot N i bk bm tb m f t va es vn W)(a:Kp [] W W'):Cw wT b il y tot N i bk bm tb m f t va es vn W':=
 ⟨J.kp.trans a.any,J.st.az a,J.bm,J.bi,J.tn,aV J.oa a,J.el,aV J.on a⟩
theorem Cw.no(J:Cw wT b il y tot N i bk bm tb m f t va es vn W)(a:118≠T)(c:36≠T):eA T 0 W (b::bm::aR va):=
 eA.cons (Nat.zero_le _) (eA.cells J.st.blk a) (eA.cons (Nat.zero_le _) (J.st.book.map.Cr _) (eA.own J.oa (Nat.zero_le _) c))
theorem Cw.sub(J:Cw wT b il y tot N i bk bm tb m f t va es vn W):∀z∈b::bm::aR va,z∈[b,il]\/wT.heap.size<=z:=fun z a=>by
 rcases mem_cons.1 a with rfl|a
 ·exact Or.inl (by simp)
 rcases mem_cons.1 a with rfl|a
 ·exact J.bm.elim (fun e=>Or.inl (by simp[e])) Or.inr
 ·exact Or.inr (cj J.oa z (aL a))
theorem Cw.did(J:Cw wT b il y tot N i bk bm tb m f t va es vn W)(M:i<y.xs.length)(O:x=y.xs[i].t)(L:dC f x=0){k e p:Nat}{o:Bk}{d A:Value}{j q:World}
  (a:fW W' 118 (cR y++[vn]) b k e p o (dot t f h mk x) d) (I:iY tot (N+6*i+6) o (jJ f mk x)) (C:W'.ownsRow wT.heap.size 36 1 d (kL es f mk x).length (bX vi (kL es f mk x))) (B:Kp (b::bm::aR va) W W') (K:e=bm\/W.heap.size<=e)
  (c:Kp (aR vn) W' j) (E:j.ownsRow wT.heap.size 47 8 A (i+1) (bX dc ((y.xs.take (i+1)).map (fun x=>aJ x.t)))) (l:Kp [b] j q) (G:aG q b (.cells (Ao k p d y A).toArray 118)):Cw wT b il y tot N (i+1) k e p o (jJ f mk x) (dot t f h mk x) d (kL es f mk x) A q:=by
 have u:W'.ownsRow wT.heap.size 47 8 vn i (bX dc ((y.xs.take i).map (fun x=>aJ x.t))):=cr J.on B (dL J.on (J.no (by decide) (by decide)))
 have F:∀{T:TypeId},47≠T->eA T 0 W' (aR vn):=fun r=>eA.own u (Nat.zero_le _) r
 have w:∀{T:TypeId} {z:Nat} {cs:Array Value},47≠T->aG W' z (.cells cs T)->z∉aR vn:=fun r H s=>(F r _ s).2 _ _ H
 have v:fW j 118 (cR y++[vn]) b k e p o (dot t f h mk x) d:=⟨a.blk.kp c (w (by decide) a.blk),⟨a.book.blk.kp c (w (by decide) a.book.blk),a.book.map.kp c (fun s=>jZ u a.book.map _ (aL s) (mem_singleton.2 rfl))⟩,a.app.kp c (w (by decide) a.app)⟩
 have D:=cr C c (dL C (F (by decide)))
 refine⟨((J.kp.st B J.sub).st c (fun z n=>Or.inr (cj u z (aL n)))).trans (l.mono (fun z n=>by rw[mem_singleton] at n;rw[n];simp)),v.Fz d l G (by decide) (by decide),?_,I.mono (by omega),by have:=J.tn;have:=EF t f h mk x;omega,cr D l (cF D (by decide) v.blk),?_,cr E l (cF E (by decide) v.blk)⟩
 ·rcases K with rfl|g
  ·exact J.bm
  ·exact Or.inr (Nat.le_trans J.kp.size g)
 ·unfold kL
  rw[if_pos L,length_append,J.el]
  rfl
end
end
section
def Tr.QR(t:Tr):Nat:=max 1 (t.ht t.tip+1-t.depth)
def Tr.fin(t:Tr):List Dg:=(t.line t.tip).take t.QR
theorem Fa{t:Tr}{x p:Dg}(a:t.addE x p=0):t.has x=false/\t.has p=true/\t.nodes.length<4096/\t.ht t.tip<=t.depth+t.ht (t.part p t.tip):=by
 have b:t.has x=false:=by
  cases h:t.has x with
  |false=>rfl
  |true=>simp[Tr.addE,h] at a
 have c:t.has p=true:=by
  cases h:t.has p with
  |true=>rfl
  |false=>simp[Tr.addE,b,h] at a
 have f:t.nodes.length<4096:=by
  by_cases h:4096<=t.nodes.length
  ·simp[Tr.addE,b,c,h] at a
  ·omega
 refine⟨b,c,f,?_⟩
 by_cases h:t.ht t.tip<=t.depth+t.ht (t.part p t.tip)
 ·exact h
 ·have d:¬4096<=t.nodes.length:=by omega
  have e:t.depth+t.ht (t.part p t.tip)<t.ht t.tip:=by omega
  simp[Tr.addE,b,c,d,Tr.deep,e] at a
attribute [local irreducible] CG NG SG aP aM Row aG aF
end
section
variable{c:Cm}{a b d:Dg}{H tot:Int}{A:List Nat}{n:Nat}{t:Tr}{w w':World}
theorem qo(j:t.WF)(g:t.has a=true)(c:d∈t.fv a b):t.has d=true:=by
 have i:∀(k:Nat) {x:Dg},t.has x=true->k<=t.ht x->∀d∈t.eF k x,t.has d=true:=by
  intro k
  induction k with
  |zero=>
   intro x e _ d c
   rw[Tr.eF,mem_singleton] at c
   rw[c]
   exact e
  |succ k h=>
   intro x e l d c
   have f:=j.anc 1 e (by omega)
   rcases mem_cons.1 c with rfl|c
   ·exact e
   ·exact h f.1 (by have:=f.2;show k<=t.ht (t.anc 1 x);omega) d c
 exact i _ g (by unfold Tr.sD;omega) d (mem_of_mem_take c)
theorem uh(d:t.WF)(c:t.has a=true):t.sD a b<=100000:=by
 have:=d.bound c
 unfold Tr.sD
 omega
theorem cS.QA(h:cS w n A tot c):dt n CT A w [c.tb,c.tm]:=(dt.cells h.bn h.tree.blk (by decide)).cons (dt.map h.tn h.tree.map h.tA)
theorem cS.C0{g:Tr}(h:cS w n A tot c)(a:Kp [c.tb,c.tm] w w')(j:cO w' c.tb c.tm g):cS w' n A tot {c with tr:=g}:=by
 have f:∀{T:TypeId} {b:Nat} {cs:Array Value},T≠200->aG w b (.cells cs T)->b∉[c.tb,c.tm]:=fun i d=>gG (fun e=>by
  subst e
  have:=d.uniq h.tree.blk
  simp only[Obj.cells.injEq] at this
  exact i this.2.1) (fun e=>cJ d h.tree.map e.symm)
 have k:eA 216 n w [c.tb,c.tm]:=eA.cons h.bn (eA.cells h.tree.blk (by decide)) (eA.cons h.tn (h.tree.map.Cr _) eA.nil)
 have l:eA 5 n w [c.tb,c.tm]:=eA.cons h.bn (eA.cells h.tree.blk (by decide)) (eA.cons h.tn (h.tree.map.Cr _) eA.nil)
 exact⟨h.blk.kp a (f (by decide) h.blk),j,h.pool.kp a (f (by decide) h.pool.blk) (dL h.pool.own k) l,h.map.kp a (gG (fun e=>cJ h.tree.blk h.map e) (fun e=>h.ne e.symm)),h.nodes a h.QA,h.tA,h.nA,h.ne,h.tn,h.nn,h.bn,Nat.le_trans h.w0 a.size⟩
theorem cS.ins{b:Nat}{q:Nm}(h:cS w n A tot c)(i:Kp [c.nm] w w')(l:aF w' c.nm (dv (n:=8)) Kx (ca c.ns d (b,q)))(o:mI w' n A tot b q):cS w' n A tot {c with ns:=ca c.ns d (b,q)}:=by
 have r:dt n CT A w [c.nm]:=dt.map h.nn h.map h.nA
 have j:∀{T:TypeId} {z:Nat} {cs:Array Value},aG w z (.cells cs T)->z∉[c.nm]:=fun s=>bQ (fun e=>cJ s h.map e.symm)
 have k:∀T,eA T n w [c.nm]:=fun T=>eA.cons h.nn (h.map.Cr _) eA.nil
 have t:∀{m:List (Dg×Nat×Nm)} {p:Dg×Nat×Nm},p∈ca m d (b,q)->p=(d,b,q)\/p∈m:=by
  intro m
  induction m with
  |nil=>intro p f;simp[ca] at f;exact Or.inl f
  |cons a m u=>
   obtain⟨x,y⟩:=a
   intro p f
   unfold ca at f
   by_cases e:x=d
   ·rw[if_pos e] at f
    rcases mem_cons.1 f with f|f
    ·exact Or.inl (by rw[f,e])
    ·exact Or.inr (mem_cons_of_mem _ f)
   ·rw[if_neg e] at f
    rcases mem_cons.1 f with f|f
    ·exact Or.inr (by rw[f];exact mem_cons_self)
    ·rcases u f with f|f
     ·exact Or.inl f
     ·exact Or.inr (mem_cons_of_mem _ f)
 exact⟨h.blk.kp i (j h.blk),h.tree.kp i (j h.tree.blk) (bQ h.ne),h.pool.kp i (j h.pool.blk) (dL h.pool.own (k _)) (k _),l,fun p f=>(t f).elim (fun e=>by rw[e];exact o) (fun g=>h.nodes i r p g),h.tA,h.nA,h.ne,h.tn,h.nn,h.bn,Nat.le_trans h.w0 i.size⟩
def qG(c:Cm):List Nat:=c.tb::c.tm::c.nm::c.pb::aR c.pv
structure fX(c:Cm)(H:Int):Prop where
 wf:c.tr.WF
 dep:c.tr.depth<=1000
 pool:df 256 (c.ps.map Em.en)
 has:∀d,c.tr.has d=(aC c.ns d).isSome
 nd:∀d q,aC c.ns d=some q->0<=q.2.x.ht/\q.2.x.ht<=H/\(q.2.t.n:Int)<=64*q.2.x.ht
theorem fX.get(h:fX c H)(a:c.tr.has d=true):∃q,aC c.ns d=some q:=by
 rw[h.has] at a
 exact Option.isSome_iff_exists.1 a
theorem fX.tip(h:fX c H):∃q,aC c.ns c.tr.tip=some q:=h.get h.wf.tip
end
section
variable{b:Bl}{c:Cm}{tot:Int}{A:List Nat}{n:Nat}{q:Nat×Nm}{w:World}{nb:dW}
def Lt(w:World)(n:Nat)(A:List Nat)(tot:Int)(c:Cm)(nb:dW)(b:Bl)(w':World):Prop:=
 ∃pv' ps' z q,cS w' n A tot {c with pv:=pv',ps:=ps',tr:=c.tr.add (aI b) b.par,ns:=ca c.ns (aI b) (z,q)}/\q.x.b=b/\(∃p,aC c.ns b.par=some p/\dR nb b.ht b.mkr p.2.f p.2.t [] b.txs=(0,q.f,q.t,q.es))/\
  ps'.map Em.en=(if(c.tr.add (aI b) b.par).tip=c.tr.tip then c.ps.map Em.en else Ft (ca c.ns (aI b) (z,q)) (c.tr.add (aI b) b.par) (c.ps.map Em.en) c.tr.tip (c.tr.add (aI b) b.par).tip)/\Kp (qG c) w w'/\(∀g,pv'.ownBlock=some g->c.pv.ownBlock=some g\/w.heap.size<=g)/\(∀b off,q.x.a=some ⟨b,off,none⟩->w.heap.size<=b)
def vg(w:World)(n:Nat)(A:List Nat)(tot:Int)(c:Cm)(nb:dW)(b:Bl)(e:Ending)(w':World):Prop:=
 e= .returned (.int .i64 (oL nb c b))/\(oL nb c b≠0/\cS w' n A tot c/\Kp (qG c) w w'\/oL nb c b=0/\Lt w n A tot c nb b w')
theorem vg.no{e:World}{z:Int}(h:cS w n A tot c)(a:Kp [] w e)(d:oL nb c b=z)(f:z≠0):vg w n A tot c nb b (.returned (.int .i64 z)) e:=⟨by rw[d],Or.inl ⟨by rw[d];exact f,h.az a,a.any⟩⟩
theorem pI(h:bz b≠0):oL nb c b=bz b:=by unfold oL;rw[if_pos h]
theorem pH(h:bz b=0)(a:aC c.ns (aI b)=some q):oL nb c b=7:=by unfold oL;rw[if_neg (fun g=>g h),a];rfl
theorem uY(h:bz b=0)(a:aC c.ns (aI b)=none)(d:aC c.ns b.par=none):oL nb c b=24:=by unfold oL;rw[if_neg (fun g=>g h),a,d];rfl
open Classical in
theorem uZ(h:bz b=0)(a:aC c.ns (aI b)=none)(d:aC c.ns b.par=some q):oL nb c b=if iU b q.2.x.b≠0 then iU b q.2.x.b else if(dR nb b.ht b.mkr q.2.f q.2.t [] b.txs).1≠0 then(dR nb b.ht b.mkr q.2.f q.2.t [] b.txs).1 else c.tr.addE (aI b) b.par:=by
 unfold oL
 rw[if_neg (fun g=>g h),a,d]
 rfl
attribute [local irreducible] CG NG SG aP aM Row aG aF aQ aJ eJ jJ dot kL dC aI bz iU dR oL nC
theorem tT(h:cS w n A tot c){bT:Int}(ok:fX c bT)(hH:bT<=500)(db:tot<=1000000000)(hA:∀bq∈A,bq<w.heap.size){base pm:Nat}{v:Value}(hN:dw w base c.vb pm v nb){x:Bm}(hx:x.In n w):
  Calls prog 27 #[.pointer (some ⟨c.cb,0,none⟩),eL x] w (vg w n A tot c nb x.b):=by
 refine bN func27 rfl ntmps27 rfl ?_
 repeat apply ar
 refine SG.box rfl rfl rfl (ag rfl) (fun b3 w1 aX dA s=>?_)
 have s:aG w1 b3 (.cells (cR x).toArray 50):=s
 obtain⟨ax,-⟩:=bJ s
 repeat (first|apply ar|refine qa1 ?_)
 refine bA rfl ?_
 repeat (first|apply ar|refine qa9 ?_)
 by_cases o:bz x.b=0
 rotate_left
 ·have eo:nC x.b (aI x.b)= .tuple #[dv zd,.int .i64 (bz x.b)]:=by unfold nC;rw[if_neg o]
  have N:=eP (hx.az aX)
  rw[eo] at N
  refine SG.ret rfl rfl rfl (vs:=[eL x]) (bg.of rfl) N (fun w2 a0=>?_)
  clear ax
  repeat refine qa7 ?_
  refine SG.alloc rfl rfl rfl (fun L w3 bx ao R=>?_)
  refine SG.aN (l:=dc zd) rfl rfl (ag rfl) (ag rfl) R (ai _) rfl (bj _) (fun w4 bB R=>?_)
  repeat (first|apply ar|refine vr ?_)
  refine bO rfl ?_
  repeat (first|apply ar|refine ww ?_)
  refine aO (Or.inl rfl) results27 (aD.tmp rfl) ?_
  exact vg.no h ((aX.trans a0).trans (bx.aj bB (aW ao))) (pI o) o
 have eo:nC x.b (aI x.b)= .tuple #[dv (aI x.b),.int .i64 0]:=by unfold nC;rw[if_pos o]
 have N:=eP (hx.az aX)
 rw[eo] at N
 refine SG.ret rfl rfl rfl (vs:=[eL x]) (bg.of rfl) N (fun w2 a0=>?_)
 clear ax N eo
 repeat refine qa7 ?_
 refine SG.alloc rfl rfl rfl (fun L w3 bx ao R=>?_)
 refine SG.aN (l:=dc (aI x.b)) rfl rfl (ag rfl) (ag rfl) R (ai _) rfl (bj _) (fun w4 bB R=>?_)
 have cm:=bx.aj bB (aW ao)
 have k4:=(aX.trans a0).trans cm
 have s:=s.az (a0.trans cm)
 have q5:Row w4 L 0 (dc (aI x.b)):=Row.all R rfl
 have h4:=h.az k4
 obtain⟨-,-,-,-,-,-,r6⟩:=cZ h4
 have hM:=h4.map
 repeat (first|apply ar|refine vp ?_)
 refine bA rfl ?_
 repeat apply ar
 cases hhas:aC c.ns (aI x.b) with
 |some q0=>
  refine CG.fh mixed [0,1,2,3,4,5,6,7,8,9,10] [] (by kernel_rfl) ?_
  repeat (apply bW;rfl;rfl;(first|apply aB|apply aE|apply aZ|apply bf|apply aU|apply bR|apply jz|apply dd)<;>first|rfl|assumption|exact wn|apply ai|exact iX (by assumption)|fail)
  refine aM.fin (fun w5 af _ _=>?_)
  clear q5 r6 hM
  repeat (first|apply ar|refine qa0 ?_)
  refine bO rfl ?_
  repeat (first|apply ar|refine wt ?_)
  refine aO (Or.inl rfl) results27 (aD.tmp rfl) ?_
  exact vg.no h (k4.trans af) (pH o hhas) (by decide)
 |none=>
 refine CG.fh mixed [0,1,2,3,4,5,6,7,8,9,10] [] (by kernel_rfl) ?_
 repeat (apply bW;rfl;rfl;(first|apply aB|apply aE|apply aZ|apply bf|apply aU|apply bR|apply jz|apply dd)<;>first|rfl|assumption|exact wn|apply ai|exact rz (by assumption)|fail)
 refine aM.fin (fun w5 af _ _=>?_)
 repeat (first|apply ar|refine qa0 ?_)
 refine bA rfl ?_
 have k5:=k4.trans af
 have s:=s.az af
 obtain⟨-,r0,-⟩:=bJ s
 have h5:=h.az k5
 have hM:=h5.map
 have r6:=r6.az af
 clear q5
 repeat apply ar
 cases hpar:aC c.ns x.par with
 |none=>
  refine CG.fh mixed [0,1,2,3,4,5,6,7,8,9,10,11] [] (by kernel_rfl) ?_
  repeat (apply bW;rfl;rfl;(first|apply aB|apply aE|apply aZ|apply bf|apply aU|apply bR|apply jz|apply dd)<;>first|rfl|assumption|exact wn|apply ai|exact rz (by assumption)|fail)
  refine aM.fin (fun w6 aq _ _=>?_)
  clear r0 r6 hM
  repeat (first|apply ar|refine qb2 ?_)
  refine bO rfl ?_
  repeat (first|apply ar|refine wt ?_)
  refine aO (Or.inl rfl) results27 (aD.tmp rfl) ?_
  exact vg.no h (k5.trans aq) (uY o hhas hpar) (by decide)
 |some q=>
 refine CG.fh mixed [0,1,2,3,4,5,6,7,8,9,10,11] [] (by kernel_rfl) ?_
 repeat (apply bW;rfl;rfl;(first|apply aB|apply aE|apply aZ|apply bf|apply aU|apply bR|apply jz|apply dd)<;>first|rfl|assumption|exact wn|apply ai|exact iX (by assumption)|fail)
 refine aM.fin (fun w6 aq _ _=>?_)
 clear r0 r6 hM
 have B:=uZ (nb:=nb) o hhas hpar
 repeat (first|apply ar|refine qb2 ?_)
 refine bA rfl ?_
 have k6:=k5.trans aq
 have s:=s.az aq
 obtain⟨ax,-⟩:=bJ s
 have hQ:=(h.yQ hpar).az k6
 obtain⟨-,-,Q,-⟩:=fg hQ.blk
 obtain⟨o1,o2,o3⟩:=ok.nd _ _ hpar
 repeat apply ar
 refine CG.tail mixed 5 [0,1,2,3,4] (by kernel_rfl) ?_
 repeat (apply bW;rfl;rfl;(first|apply aB|apply bf|apply aU|apply bR)<;>first|rfl|assumption|exact wn|apply aH)
 refine aM.tl (fun w7 ah _ _=>?_)
 refine SG.ret rfl rfl rfl (vs:=[eL x,eL q.2.x]) (bg.of rfl) (qa ((hx.az k6).az ah) (hQ.az ah).x (by omega)) (fun w8 a1=>?_)
 clear ax Q
 have k8:=(k6.trans ah).trans a1
 by_cases hc:iU x.b q.2.x.b=0
 rotate_left
 ·rw[if_pos hc] at B
  repeat (first|apply ar|refine vr ?_)
  refine bO rfl ?_
  repeat (first|apply ar|refine ww ?_)
  refine aO (Or.inl rfl) results27 (aD.tmp rfl) ?_
  exact vg.no h k8 B hc
 rw[if_neg (fun g=>g hc)] at B
 rw[hc]
 repeat (first|apply ar|refine vp ?_)
 refine bA rfl ?_
 have s:=(s.az ah).az a1
 have hQ:=(hQ.az ah).az a1
 obtain⟨ax,-⟩:=bJ s
 obtain⟨t0,-⟩:=fg hQ.blk
 obtain⟨di,hm,hi⟩:=hQ.book
 repeat apply ar
 refine CG.dS mixed 6 [0,1,2,3,5,4] [4] [] (fun _=>True) (by kernel_rfl) trivial (fun _ _ _ _=>trivial) ?_
 repeat (apply bW;rfl;rfl;(first|apply aB|apply bf|apply aU|apply bR)<;>first|rfl|assumption|exact wn|apply aH)
 refine aM.kQ (X:=Nat×Nat×Nat×Bk) (vs:=[FC q.2.bk q.2.tb (.slice q.2.ae q.2.es.length q.2.ce)]) (fun z=>FC z.1 z.2.2.1 (.slice none 0 0)) (fun z W=>(bS W z.1 z.2.1 z.2.2.2/\z.2.2.2.Perm di/\gp W z.2.2.1 q.2.t)/\w8.heap.size<=z.1/\w8.heap.size<=z.2.1/\w8.heap.size<=z.2.2.1) rfl rfl rfl rfl (bg.of rfl) (fun z W W' u h=>⟨⟨h.1.1.az u,h.1.2.1,h.1.2.2.az u⟩,h.2⟩) (fun _ _ _ h=>h) (fun W u _=>(tw (hm.az u) (hQ.app.az u)).mono (fun p W' M=>?_)) (fun z=>?_)
 ·obtain⟨cw,cx,dr,m',rfl,cC,c8,cM,g1,g2,g3,c2⟩:=M
  have:=u.size
  exact⟨(cw,cx,dr,m'),rfl,⟨⟨cC,c8,cM⟩,Nat.le_trans this g1,Nat.le_trans this g2,Nat.le_trans this g3⟩,c2⟩
 obtain⟨a8,il,bp,m0⟩:=z
 refine aM.tl (fun w9 bD S _=>?_)
 obtain⟨-,⟨ad,cd,bb⟩,g1,g2,g3⟩:=S
 simp only at ad cd bb g1 g2 g3
 have k9:=k8.trans bD
 refine SG.call rfl rfl rfl (vs:=[eL x]) (bg.of rfl) ((jx (hx.az k9)).mono (fun p d3 M=>?_))
 obtain⟨j,hy,rfl,hY,aY,bl⟩:=M
 have bl:∀al aw,j.a=some ⟨al,aw,none⟩->w.heap.size<=al:=fun al aw p=>Nat.le_trans k9.size (bl al aw p)
 refine⟨_,rfl,?_⟩
 refine SG.val rfl rfl rfl rfl (aK rfl (Tj a8 bp j)) ?_
 clear ax t0
 refine SG.box rfl rfl rfl (ag rfl) (fun r K a2 dy ac=>?_)
 have ac:aG K r (.cells (Ao a8 bp (.slice none 0 0) j (.slice none 0 0)).toArray 118):=ac
 have kT:=(k9.trans aY).trans a2
 have bI:=(bD.trans aY).trans a2
 have hY:=hY.az a2
 have ad:=(ad.az aY).az a2
 have bb:=(bb.az aY).az a2
 have dK:=ac.lt
 have dO:=ad.map.lt
 have s8:=k8.size
 have d0:=bI.size
 have d1:=(bD.trans aY).size
 have cD:=s.az bI
 have l3:=s.lt
 obtain⟨ds,bL⟩:=wU ac
 have c1:iY tot (yP q.2) m0 q.2.f:=hi.perm cd
 have J0:Cw K r il j tot (yP q.2) 0 a8 il bp m0 q.2.f q.2.t (.slice none 0 0) [] (.slice none 0 0) K:=
  ⟨Kp.refl _ _,⟨ac,ad,bb⟩,Or.inl rfl,c1,by unfold yP;omega,dY,rfl,dY⟩
 have ao:aG K L (.cells (dc (aI x.b)).toArray 47):=(R.az ((af.trans aq).trans (ah.trans a1))).az bI
 have l5:L<w8.heap.size:=((R.az ((af.trans aq).trans (ah.trans a1)))).lt
 have cj:=hY.len
 have ck:j.xs.map (·.t)=x.b.txs:=by rw[<-hy];rfl
 repeat (first|apply ar|(apply au;rfl;(first|apply aB|apply aE|apply aZ|apply aU|apply bR|apply dg)<;>first|rfl|assumption|exact wn))
 refine CG.loop (X:=Nat×(Nat×Nat×Nat×Bk)×(Fb×Tl×List Int)×(Value×Value)) (fun z=>[(0,.pointer (some ⟨c.cb,0,none⟩)),(3,.pointer (some ⟨b3,0,none⟩)),(5,.pointer (some ⟨L,0,none⟩)),(12,.pointer (some ⟨r,0,none⟩)),(74,.slice j.a j.xs.length j.c),(75,.int .i64 (j.xs.length:Int)),(76,.int .i64 (z.1:Int))])
  (fun z W=>z.1<=j.xs.length/\Cw K r il j tot (yP q.2) z.1 z.2.1.1 z.2.1.2.1 z.2.1.2.2.1 z.2.1.2.2.2 z.2.2.1.1 z.2.2.1.2.1 z.2.2.2.1 z.2.2.1.2.2 z.2.2.2.2 W/\dR nb x.b.ht x.b.mkr q.2.f q.2.t [] x.b.txs=dR nb x.b.ht x.b.mkr z.2.2.1.1 z.2.2.1.2.1 z.2.2.1.2.2 ((j.xs.drop z.1).map (·.t)))
  (fun z=>j.xs.length-z.1) (0,(a8,il,bp,m0),(q.2.f,q.2.t,[]),(.slice none 0 0,.slice none 0 0)) ⟨Nat.zero_le _,J0,by rw[<-ck];rfl⟩ (aS.of rfl) ?_
 rintro⟨k,⟨cv,bs,dq,mm⟩,⟨aP,cq,bZ⟩,⟨d2,aa⟩⟩ W ⟨c0,J,H⟩
 simp only at c0 J H
 refine CG.to [(0,.pointer (some ⟨c.cb,0,none⟩)),(3,.pointer (some ⟨b3,0,none⟩)),(5,.pointer (some ⟨L,0,none⟩)),(12,.pointer (some ⟨r,0,none⟩)),(74,.slice j.a j.xs.length j.c),(75,.int .i64 (j.xs.length:Int)),(76,.int .i64 (k:Int))] (aS.of rfl) ?_
 clear ds bL J0
 have s1:=aX.size
 have Y:Kp [] w W:=kT.aj J.kp (fun z o=>by
  simp only[mem_cons,mem_nil_iff,or_false] at o
  exact Or.inr (by omega))
 have hO:dD 0 K [r,il]:=dD.cons (Nat.zero_le _) (dD.cells ac (by decide)) (dD.cons (Nat.zero_le _) (ad.map.Cr _) dD.nil)
 have cL:eA 52 0 K [r,il]:=eA.cons (Nat.zero_le _) (eA.cells ac (by decide)) (eA.cons (Nat.zero_le _) (ad.map.Cr _) eA.nil)
 have aT:j.In 0 W:=⟨hY.tx.kp J.kp hO cL,cj⟩
 have b0:=cD.kp J.kp (gG (by omega) (by omega))
 have b1:=ao.kp J.kp (gG (by omega) (by omega))
 have sW:=J.kp.size
 have dE:yP q.2<=300000:=by unfold yP;omega
 have dI:j.xs.length<=64:=by
  have:=jE o
  rw[<-ck,length_map] at this
  exact this
 by_cases av:k<j.xs.length
 rotate_left
 ·have ei:k=j.xs.length:=by omega
  have cB:¬(k:Int)<(j.xs.length:Int):=by omega
  rw[drop_eq_nil_of_le (by omega),map_nil,nM] at H
  rw[H,if_neg (fun g=>g rfl)] at B
  subst ei
  have cc:=J.el
  obtain⟨ct,cz,rfl⟩:=ik J.oa
  obtain⟨an,cn,rfl⟩:=ik J.on
  obtain⟨O,ak⟩:∃O:Nm,O=⟨cv,bs,dq,aP,cq,ct,cz,bZ,j,an,cn⟩:=⟨_,rfl⟩
  have hW:=h.az Y
  have dH:=hx.az Y
  have N:j.xs.take j.xs.length=j.xs:=take_of_length_le (Nat.le_refl _)
  have cW:w.heap.size<=bs:=J.bm.elim (fun p=>by omega) (fun g=>by have:=kT.size;omega)
  have df:j.ht=q.2.x.ht+1:=by
   have h1:j.ht=x.b.ht:=by rw[<-hy];rfl
   rw[h1]
   exact zB hc
  have b7:mI W n A tot r O:=by
   rw[ak]
   refine⟨J.st.blk,⟨mm,J.st.book,J.bi.mono ?_⟩,fun hm=>absurd (hA _ hm) (by show ¬bs<_;omega),Nat.le_trans h.w0 cW,J.st.app,?_,Or.inl (Ty.own J.oa),⟨⟨aT.tx.sl,aT.tx.tg.elim Or.inl (fun g=>Or.inr (fun al aw p=>Nat.lt_of_lt_of_le (g al aw p) (Nat.zero_le _))),fun z o=>(aT.tx.ins z o).mono (Nat.zero_le _)⟩,cj⟩,?_,Or.inl ?_,cc⟩
   ·unfold yP
    simp only
    rw[df]
    omega
   ·obtain⟨bq,c',p,-,hs⟩:=Sl.own (enc:=vi) (sz:=1) (fun _=>rfl) J.oa rfl
    cases p
    exact hs
   ·obtain⟨bq,c',p,-,hs⟩:=Sl.own ai J.on (by rw[length_map,N])
    cases p
    rw[N] at hs
    exact hs
   ·exact Ty.own J.on
  have q5:Row W L 0 (dc (aI x.b)):=Row.all b1 rfl
  obtain⟨-,-,-,-,Q,-,-⟩:=cZ hW
  repeat (first|apply ar|refine un ?_)
  refine bA rfl ?_
  repeat (first|apply ar|refine qa4 ?_)
  refine SG.ret rfl rfl rfl (vs:=[.pointer (some ⟨c.tb,0,none⟩)]) (bg.of rfl) (fb hW.tree) (fun W1 bc=>?_)
  refine SG.alloc rfl rfl rfl (fun br W2 bw cT a9=>?_)
  refine SG.aN (l:=dc c.tr.tip) rfl rfl (ag rfl) (ag rfl) a9 (ai _) rfl (bj _) (fun W3 bd a9=>?_)
  have Z:=bc.trans (bw.aj bd (aW cT))
  have q5:=q5.az Z
  have Q:=Q.az Z
  obtain⟨-,r0,-⟩:=bJ (b0.az Z)
  repeat apply ar
  refine CG.tail mixed 7 [0,1,2,3,4,5,6] (by kernel_rfl) ?_
  repeat (apply bW;rfl;rfl;(first|apply aB|apply aZ|apply bf|apply aU|apply bR)<;>first|rfl|assumption|exact wn|apply ai)
  refine aM.tl (fun W4 ap _ _=>?_)
  have I:=Z.trans ap
  have am:=hW.az I
  refine SG.call rfl rfl rfl (vs:=[.pointer (some ⟨c.tb,0,none⟩),dv (aI x.b),dv x.par]) (bg.of rfl) ((tG am.tree (fun p=>cJ am.tree.blk am.tree.map p.symm) ok.wf ok.dep (aI x.b) x.par).mono (fun p W5 M=>?_))
  obtain⟨rfl,cN,G⟩:=M
  refine⟨_,rfl,?_⟩
  have aQ:=am.C0 G cN
  have cl:Kp (qG c) w W5:=(Y.trans I).any.trans (G.mono (fun z o=>by
   simp only[mem_cons,mem_nil_iff,or_false] at o
   rcases o with rfl|rfl
   ·exact .head _
   ·exact .tail _ (.head _)))
  clear q5 Q r0
  by_cases T:c.tr.addE (aI x.b) x.par=0
  rotate_left
  ·have et:c.tr.add (aI x.b) x.par=c.tr:=by unfold Tr.add;rw[if_neg T]
   rw[et] at aQ
   repeat (first|apply ar|refine vr ?_)
   refine bO rfl ?_
   repeat (first|apply ar|refine ww ?_)
   refine aO (Or.inl rfl) results27 (aD.tmp rfl) ?_
   exact⟨by rw[B];rfl,Or.inl ⟨by rw[B];exact T,aQ,cl⟩⟩
  rw[T]
  have cA:c.tr.add (aI x.b) x.par=c.tr.put (aI x.b) x.par:=by unfold Tr.add;rw[if_pos T]
  have cf:=oK ok.wf (aI x.b) x.par
  have dQ:=h.tree.blk.lt
  have dT:=h.tree.map.lt
  have dU:=h.map.lt
  have dN:=ao.lt
  have dB:w.heap.size<=L:=by have:=a0.size;omega
  have q5:Row W5 L 0 (dc (aI x.b)):=Row.all ((b1.az I).kp G (gG (by omega) (by omega))) rfl
  have cH:mI W5 n A tot r O:=(b7.az I).kp G am.QA (fun _ o=>o) (by decide) ((b7.az I).x.jq G am.QA (by decide) (by decide))
  have b5:=aQ.map
  obtain⟨-,-,-,-,-,-,r6⟩:=cZ aQ
  repeat (first|apply ar|refine vp ?_)
  refine bA rfl ?_
  repeat apply ar
  refine CG.tail mixed 6 [0,1,2,3,4,5] (by kernel_rfl) ?_
  repeat (apply bW;rfl;rfl;(first|apply aB|apply aZ|apply bf|apply aU|apply bR)<;>first|rfl|assumption|exact wn|apply ai)
  refine aM.tl (fun W6 C _ _=>?_)
  refine SG.mapUpdate (enc:=dv (n:=8)) (V:=Kx) (kx:=aI x.b) (vy:=(r,O)) rfl rfl (ag rfl) (ag rfl) (ag rfl) (b5.az C) gJ.key (fun W7 U cG=>?_)
  have b4:=aQ.az C
  have b8:dt n CT A W6 [c.nm]:=dt.map h.nn b4.map h.nA
  have b6:=cH.az C
  have cI:mI W7 n A tot r O:=b6.kp U b8 (fun _ o=>o) (by decide) (b6.x.jq U b8 (by decide) (by decide))
  have bv:=b4.ins (c:={c with tr:=c.tr.add (aI x.b) x.par}) U cG cI
  have dh:Kp (qG c) w W7:=(cl.trans C.any).trans (U.mono (fun z o=>by rw[mem_singleton] at o;rw[o];exact .tail _ (.tail _ (.head _))))
  have Q:Row W7 c.cb 12 [.pointer (some ⟨c.tb,0,none⟩)]:=(cZ bv).2.2.2.2.1
  have cP:cO W7 c.tb c.tm (c.tr.add (aI x.b) x.par):=bv.tree
  clear q5 r6 b5
  repeat (first|apply ar|refine qa4 ?_)
  refine SG.ret rfl rfl rfl (vs:=[.pointer (some ⟨c.tb,0,none⟩)]) (bg.of rfl) (fb cP) (fun W8 bC=>?_)
  refine SG.alloc rfl rfl rfl (fun cu W9 c5 cU bt=>?_)
  refine SG.aN (l:=dc (c.tr.add (aI x.b) x.par).tip) rfl rfl (ag rfl) (ag rfl) bt (ai _) rfl (bj _) (fun bU c3 bt=>?_)
  have bH:=bC.trans (c5.aj c3 (aW cU))
  have b2:=bv.az bH
  have bG:=dh.trans bH.any
  have dn:Row bU cu 0 (dc (c.tr.add (aI x.b) x.par).tip):=Row.all bt rfl
  have dM:=a9.lt
  have dZ:=ap.size
  have dz:w.heap.size<=br:=by have:=Y.size;have:=bc.size;omega
  have dm:Row bU br 0 (dc c.tr.tip):=Row.all (((((a9.az ap).kp G (gG (by omega) (by omega))).az C).kp U (bQ (by show br≠c.nm;omega))).az bH) rfl
  clear Q
  by_cases ch:(c.tr.add (aI x.b) x.par).tip=c.tr.tip
  ·repeat (first|apply ar|(apply au;rfl;(first|apply bf|apply Cp)<;>first|rfl|assumption|exact qf|exact wn|apply ai))
   refine bA rfl ?_
   repeat (first|apply ar|refine wt ?_)
   refine aO (Or.inl rfl) results27 (aD.tmp rfl) ?_
   exact⟨by rw[B];exact T▸rfl,Or.inr ⟨B.trans T,c.pv,c.ps,r,O,b2,by rw[ak];exact hy,⟨q,hpar,by rw[ak];exact H⟩,(if_pos ch).symm,bG,fun g hg=>Or.inl hg,by rw[ak];exact bl⟩⟩
  have ci:∀{d:Dg},(c.tr.add (aI x.b) x.par).has d=true->∃z,aC (ca c.ns (aI x.b) (r,O)) d=some z:=fun{d} hd=>by
   rw[cA,fH,Bool.or_eq_true] at hd
   rw[bK]
   by_cases p:aI x.b=d
   ·exact⟨_,if_pos p⟩
   ·rw[if_neg p]
    exact ok.get (hd.resolve_left (by simpa using p))
  have ab:=cf.1
  have bE:(c.tr.add (aI x.b) x.par).has c.tr.tip=true:=cf.2.2.2.1
  repeat (first|apply ar|(apply au;rfl;(first|apply bf|apply Cp)<;>first|rfl|assumption|exact qr|exact wn|apply ai))
  refine bO rfl ?_
  repeat (first|apply ar|refine qa5 ?_)
  refine SG.call rfl rfl rfl (vs:=[.pointer (some ⟨c.cb,0,none⟩),dv c.tr.tip,dv (c.tr.add (aI x.b) x.par).tip]) (bg.of rfl) ((sK b2 ab ok.pool bE ab.tip (uh ab bE) (uh ab ab.tip) (fun d hd=>ci (qo ab bE hd)) (fun d hd=>ci (qo ab ab.tip hd))).mono (fun p dx M=>?_))
  obtain⟨rfl,dl,dk,cF,c9,c4,cY,-⟩:=M
  refine⟨_,rfl,?_⟩
  clear dn dm
  repeat (first|apply ar|refine wt ?_)
  refine aO (Or.inl rfl) results27 (aD.tmp rfl) ?_
  refine⟨by rw[B];exact T▸rfl,Or.inr ⟨B.trans T,dl,dk,r,O,cF,by rw[ak];exact hy,⟨q,hpar,by rw[ak];exact H⟩,c9.trans (if_neg ch).symm,bG.trans (c4.mono (fun z o=> .tail _ (.tail _ (.tail _ o)))),fun g hg=>(cY g hg).elim Or.inl (fun p=>Or.inr (Nat.le_trans bG.size p)),by rw[ak];exact bl⟩⟩
 have cB:(k:Int)<(j.xs.length:Int):=by omega
 have hS:=aT.tx.sl
 have bF:=aT.tx.ins _ (getElem_mem av)
 rw[drop_eq_getElem_cons av,map_cons] at H
 generalize dJ:j.a=ya at*
 obtain⟨ba,aw,rfl,da⟩:=hS.at av
 repeat (first|apply ar|refine ul ?_)
 refine bO rfl ?_
 repeat (first|apply ar|refine ut ?_)
 refine SG.alloc rfl rfl rfl (fun aA W1 bc cQ F=>?_)
 refine SG.aN (l:=bV j.xs[k]) rfl rfl (ag rfl) (ag rfl) F (ay _) rfl (bY _) (fun W2 bw F=>?_)
 have co:=bc.aj bw (aW cQ)
 have a4:Row W2 aA 0 (bV j.xs[k]):=Row.all F rfl
 obtain⟨-,-,Q,-⟩:=cZ (h.az (Y.trans co))
 clear da
 repeat apply ar
 refine CG.tail mixed 5 [0,1,2,3,4] (by kernel_rfl) ?_
 repeat (apply bW;rfl;rfl;(first|apply aB|apply aZ|apply bf|apply aU|apply bR)<;>first|rfl|assumption|exact wn|apply ay)
 refine aM.tl (fun W3 bd _ _=>?_)
 have Z:=co.trans bd
 refine SG.ret rfl rfl rfl (vs:=[eG j.xs[k],.iface 40 (.pointer (some ⟨c.vb,0,none⟩))]) (bg.of rfl) (iq (hN.az (Y.trans Z)) (bF.az Z)) (fun W4 ap=>?_)
 have I:=Z.trans ap
 have F:=(F.az bd).az ap
 clear a4 Q
 by_cases hv:eJ nb j.xs[k].t=0
 rotate_left
 ·rw[H,lD hv,if_pos hv] at B
  repeat (first|apply ar|refine vr ?_)
  refine bO rfl ?_
  repeat (first|apply ar|refine ww ?_)
  refine aO (Or.inl rfl) results27 (aD.tmp rfl) ?_
  exact vg.no h (Y.trans I) B hv
 rw[hv]
 have J4:=J.az I
 have a4:Row W4 aA 0 (bV j.xs[k]):=Row.all F rfl
 obtain⟨-,-,r1,r2,-⟩:=bJ (b0.az I)
 repeat (first|apply ar|refine vp ?_)
 refine bA rfl ?_
 repeat apply ar
 refine CG.tail mixed 8 [0,1,2,3,4,5,6,7] (by kernel_rfl) ?_
 repeat (apply bW;rfl;rfl;(first|apply aB|apply aZ|apply bf|apply aU|apply bR)<;>first|rfl|assumption|exact wn|apply ai|apply ay)
 refine aM.tl (fun W5 G _ _=>?_)
 have bo:=I.trans G
 have D:=J4.az G
 have cc:=J.el
 have dF:=J.tn
 refine SG.call rfl rfl rfl (vs:=[.pointer (some ⟨r,0,none⟩),.int .i64 x.ht,dv x.mkr,eG j.xs[k]]) (bg.of rfl) ((AH (n0:=0) D.st D.bi db D.oa D.kp.size (Nat.zero_le _) (by omega) (by decide) (by decide) (by decide) (bF.az bo) x.ht x.mkr (by omega)).mono (fun p W6 M=>?_))
 obtain⟨aF,cy,a5,a6,m2,rfl,bh,cV,c6,C,cX,dG⟩:=M
 refine⟨_,rfl,?_⟩
 clear a4 r1 r2
 by_cases hp:dC aP j.xs[k].t=0
 rotate_left
 ·rw[H,lE hv hp,if_pos hp] at B
  repeat (first|apply ar|refine vr ?_)
  refine bO rfl ?_
  repeat (first|apply ar|refine ww ?_)
  refine aO (Or.inl rfl) results27 (aD.tmp rfl) ?_
  refine vg.no h ((Y.trans bo).aj C (fun z o=>Or.inr ?_)) B hp
  rcases D.sub z o with g|g
  ·simp only[mem_cons,mem_nil_iff,or_false] at g
   omega
  ·have:=kT.size
   omega
 have F:aG W6 aA (.cells (bV j.xs[k]).toArray 52):=(F.az G).kp C ((D.no (by decide) (by decide)).nb (F.az G))
 have a4:Row W6 aA 0 (bV j.xs[k]):=Row.all F rfl
 have de:j.xs[k].In 0 W6:=(bF.az bo).iD C (D.no (by decide) (by decide))
 have a3:=cr D.on C (dL D.on (D.no (by decide) (by decide)))
 obtain⟨-,bL⟩:=wU (bk:=aF) (tb:=a5) (va:=a6) (y:=j) (vn:=aa) bh.blk
 have b9:∀z∈aR aa,z<W6.heap.size:=fun z o=>cK a3 z (aL o)
 have dj:r∉aR aa:=(eA.own a3 (Nat.zero_le _) (by decide)).nb bh.blk
 have dW:aA∉aR aa:=(eA.own a3 (Nat.zero_le _) (by decide)).nb F
 have s6:=C.size
 have dX:=bo.size
 rw[hp]
 repeat (first|apply ar|refine vp ?_)
 refine bA rfl ?_
 repeat apply ar
 refine CG.dS mixed 9 [0,1,2,3,4,5,6,7,8] [7,8] (aR aa) (fun W=>W.ownsRow K.heap.size 47 8 aa k (bX dc ((j.xs.take k).map (fun x=>aJ x.t)))) (by kernel_rfl) a3 (fun _ _ u h=>aV h u) ?_
 repeat (apply bW;rfl;rfl;(first|apply aB|apply aZ|apply bf|apply aU|apply bR)<;>first|rfl|assumption|apply ay)
 refine aM.call rfl rfl rfl (vs:=[eG j.xs[k]]) (bg.of rfl) (fun W u _=>dV (de.iD u (eA.own a3 (Nat.zero_le _) (by decide)))) ?_
 refine aM.lP (cs:=(dc (aJ j.xs[k].t)).toArray) (E:=47) rfl rfl rfl rfl rfl (fun W=>B8 _ W) b9 (fun W W' u h=>trivial) (fun _ _ u h=>aV h u) (fun bn=>?_)
 apply aM.mv (P:=prog) (t:=93) (base:=K.heap.size) (e:=47) (i:=Tryz.t47) (f:=ty.i47) (v:=aa) (nn:=k) (xs:=bX dc ((j.xs.take k).map (fun x=>aJ x.t))) (b:=bn) (off:=0) (m:=1) (c:=1) (news:=dc (aJ j.xs[k].t))
 iterate 4 exact rfl
 iterate 2 exact ag rfl
 iterate 3 exact rfl
 ·exact fun W u S=>Row.all S.2.2 rfl
 ·rw[ai];rfl
 ·exact bj _
 ·simp only[maxLen];omega
 ·show(k+1)*8<=_;omega
 ·omega
 ·exact fun _ h=>h
 ·exact fun W W' u S=>⟨trivial,S.2.1,S.2.2.kp u (fun hm=>by have:=b9 _ hm;have:=S.2.1;omega)⟩
 intro v7
 refine aM.tl (fun W7 U S be=>?_)
 have be:W7.ownsRow K.heap.size 47 8 v7 (k+1) (bX dc ((j.xs.take (k+1)).map (fun x=>aJ x.t))):=by
  rw[map_take,take_one (fun x:Tm=>aJ x.t) av,dP,ix,<-map_take]
  exact be
 obtain⟨a7,c7,rfl⟩:=ik be
 have cE:=bh.blk.kp U dj
 clear a4 bL
 repeat (apply au;rfl;(first|apply aU|apply bR)<;>rfl)
 refine SG.cp (tV aF a5 a6++cR j) [aa] [] rfl rfl (ag rfl) (ag rfl) cE (Gs _ _ _ _ _) rfl rfl (Gr _ _ _ _) rfl (fun W8 bC bu=>?_)
 have bu:aG W8 r (.cells (Ao aF a5 a6 j (.slice a7 (k+1) c7)).toArray 118):=by
  rw[<-DO aF a5 a6 j (.slice a7 (k+1) c7)]
  exact bu
 rw[l0 hv hp] at H
 repeat (first|apply ar|refine wz ?_)
 refine NG.round (k+1,(aF,cy,a5,m2),(jJ aP x.mkr j.xs[k].t,dot cq aP x.ht x.mkr j.xs[k].t,kL bZ aP x.mkr j.xs[k].t),(a6,.slice a7 (k+1) c7)) (aS.of rfl) ⟨av,D.did av rfl hp bh cV c6 C cX U be bC bu,H⟩ (by simp only;omega)
end
section
def eU(l:List Ac):Int:=(l.map (·.money)).sum
theorem po(e:Ac)(l:List Ac):eU (e::l)=e.money+eU l:=by simp[eU]
def Vg(l:List Ac)(k:Dg):Pu:=match l.find? (fun e=>decide (e.key=k)) with
 |some e=>⟨e.money,e.nonce⟩
 |none=>pz
theorem wx:∀{l:List Ac} {b:List Dg} {s:Int},(∀e∈l,¬ql e)->(l.map (·.key)).Nodup->(∀e∈l,e.key∉b)->s+eU l<=1125899906842624->jG b s l=0
 |[],b,s,_,_,_,h=>by
  simp only[eU,map_nil,sum_nil] at h
  simp only[jG]
  rw[if_neg (by omega)]
 |e::l,b,s,d,c,f,g=>by
  rw[po] at g
  rw[map_cons,nodup_cons] at c
  simp only[jG]
  rw[if_neg (d e (by simp)),if_neg (f e (by simp))]
  refine wx (fun x a=>d x (by simp[a])) c.2 (fun x a i=>?_) (by omega)
  rcases mem_cons.1 i with h|h
  ·exact c.1 (mem_map.2 ⟨x,a,h⟩)
  ·exact f x (by simp[a]) h
theorem nh:∀{l:List Ac} {b:List Dg} {s:Int},jG b s l=0->(∀e∈l,¬ql e)/\(l.map (·.key)).Nodup/\(∀e∈l,e.key∉b)/\s+eU l<=1125899906842624
 |[],b,s,h=>by
  simp only[jG] at h
  refine⟨by simp,by simp,by simp,?_⟩
  simp only[eU,map_nil,sum_nil]
  split at h
  ·cases h
  ·omega
 |e::l,b,s,h=>by
  simp only[jG] at h
  split at h
  ·cases h
  ·rename_i i
   split at h
   ·cases h
   ·rename_i k
    obtain⟨f,g,d,m⟩:=nh h
    refine⟨fun x a=>?_,?_,fun x a=>?_,by rw[po];omega⟩
    ·rcases mem_cons.1 a with rfl|a
     ·exact i
     ·exact f x a
    ·rw[map_cons,nodup_cons]
     refine⟨fun c=>?_,g⟩
     obtain⟨x,a,j⟩:=mem_map.1 c
     exact d x a (by rw[j];simp)
    ·rcases mem_cons.1 a with rfl|a
     ·exact k
     ·exact fun c=>d x a (by simp[c])
theorem vV:∀{l:List Ac} {m:Bk},(l.map (·.key)).Nodup->∀k,cC (gq m l) k=match l.find? (fun e=>decide (e.key=k)) with
  |some e=>⟨e.money,e.nonce⟩
  |none=>cC m k
 |[],m,_,k=>rfl
 |e::l,m,h,k=>by
  rw[map_cons,nodup_cons] at h
  show cC (gq (iN m e.key ⟨e.money,e.nonce⟩) l) k=_
  rw[vV h.2 k,find?_cons]
  by_cases a:e.key=k
  ·have c:l.find? (fun x=>decide (x.key=k))=none:=by
    rw[find?_eq_none]
    intro x d
    simp only[decide_eq_true_eq]
    exact fun b=>h.1 (mem_map.2 ⟨x,d,by rw[b,a]⟩)
   rw[c]
   simp only[a,decide_true]
   rw[oH,if_pos rfl]
  ·simp only[a,decide_false]
   cases l.find? (fun x=>decide (x.key=k)) with
   |some x=>rfl
   |none=>
    simp only
    rw[oH,if_neg a]
theorem Ah{N:Int}:∀{l:List Ac} {m:Bk} {T:Int},Ok T N m->(∀e∈l,0<=e.money/\0<=e.nonce/\e.nonce<=N)->(l.map (·.key)).Nodup->(∀e∈l,cC m e.key=pz)->Ok (T+eU l) N (gq m l)/\(gq m l).length<=m.length+l.length
 |[],m,T,h,_,_,_=>by
  simp only[eU,map_nil,sum_nil,Int.add_zero]
  exact⟨h,Nat.le_refl _⟩
 |e::l,m,T,h,d,c,f=>by
  rw[map_cons,nodup_cons] at c
  have i:=d e (by simp)
  have a:=h.put (Int.le_refl N) e.key ⟨e.money,e.nonce⟩ i.1 i.2
  rw[f e (by simp)] at a
  have j:T-pz.money+e.money=T+e.money:=by simp[pz]
  simp only at a
  rw[j] at a
  have g:=Ah a (fun x b=>d x (by simp[b])) c.2 (fun x b=>by
   rw[oH,if_neg (fun k=>c.1 (mem_map.2 ⟨x,b,k.symm⟩))]
   exact f x (by simp[b]))
  have n:=j3 m e.key ⟨e.money,e.nonce⟩
  refine⟨?_,?_⟩
  ·rw[po,<-Int.add_assoc]
   exact g.1
  ·have:=g.2
   show(gq (iN m e.key ⟨e.money,e.nonce⟩) l).length<=_
   simp only[length_cons]
   omega
theorem Ir(N:Int):Ok 0 N []:=⟨by simp,by simp,by simp,by simp,rfl⟩
theorem vU{l:List Ac}{N:Int}(h:jH l=0)(i:∀e∈l,e.nonce<=N):Ok (eU l) N (gq [] l)/\(gq [] l).length<=l.length/\(∀k,cC (gq [] l) k=Vg l k)/\(l.map (·.key)).Nodup/\eU l<=1125899906842624/\l.length<=1024:=by
 unfold jH at h
 split at h
 ·cases h
 ·rename_i o
  obtain⟨g,a,j,f⟩:=nh h
  have c:=Ah (N:=N) (m:=[]) (T:=0) (Ir N) (fun e d=>by
   have b:=g e d
   have n:=i e d
   unfold ql at b
   omega) a (fun e d=>rfl)
  rw[Int.zero_add] at c f
  refine⟨c.1,by simpa using c.2,fun k=>?_,a,f,by omega⟩
  rw[vV a k]
  rfl
end
section
variable{d m:Nat}{x:Operand}{Y:Type}{T:TypeId}{v:Value}
section
variable {P:Program} {S:List Nat×Nat} {w0:World} {ops:List Oper} {G:List (Nat×GD)} {K:Env->List Fact->Prop} {i:Nat} {ord:List Nat} {L:Env} {Γ:List Fact} {ty:TypeId} {pos:String} {af:Array Edge} {g:Option (Nat×Bool)}
variable {κ ν:Type} {enc:κ->Value} {V:ν->Value}
def gM(m:Nat)(enc:κ->Value)(V:ν->Value)(kx:κ):GD:=⟨Nat,0,fun b=> .map (some b),fun b w=>m<=b/\(aF w b enc V []\/∃y,aF w b enc V [(kx,y)])⟩
theorem AE{kx:κ}(x:(gM m enc V kx).X):cH [] ((gM m enc V kx).phi x):=fun w c b h=>⟨h.1,h.2.elim (fun a=>Or.inl (a.az b)) (fun⟨y,a⟩=>Or.inr ⟨y,a.az b⟩)⟩
theorem bG.xd(kx:κ)(a:fc G i=some (gM m enc V kx))(e:m=w0.heap.size)(f:ops[i]?=some ⟨some d,.makeMap T none,ty,pos,af,g⟩)(j:want ops L ⟨some d,.makeMap T none,ty,pos,af,g⟩=some true)
  (h:∀b:Nat,bG P S w0 ops G K ord ((d,.map (some b))::L) ((i,(gM m enc V kx).phi b)::Γ)):bG P S w0 ops G K (i::ord) L Γ:=by
 refine bG.Jw (gM m enc V kx) a f j (by simp[Op.operands]) (fun w c _=>?_) h
 unfold bD
 have:(execOp (bH L) ⟨some d,.makeMap T none,ty,pos,af,g⟩).run P w= .ok (.value (.map (some w.heap.size))) {w with heap:=w.heap.push (.map #[] 0)}:=by
  simp[execOp,Instr.makeMap,newObj,Sem.run,Result.andThen]
 rw[this]
 exact⟨w.heap.size,rfl,⟨by rw[e];exact c.size,Or.inl (aF.made w enc V)⟩,Kp.push w _ rfl⟩
def gX{Y:Type}(y0:Y)(m:Nat)(T:TypeId)(cs:Y->Array Value)(psi:Y->World->Prop):GD:=⟨Nat×Y,(0,y0),fun q=> .pointer (some ⟨q.1,0,none⟩),fun q w=>(m<=q.1/\aG w q.1 (.cells (cs q.2) T))/\psi q.2 w⟩
theorem AA{c:Y}{cs:Y->Array Value}{a:Y->World->Prop}(d:∀y,cH [] (a y))(x:(gX c m T cs a).X):cH [] ((gX c m T cs a).phi x):=fun w e b h=>⟨⟨h.1.1,h.1.2.az b⟩,d _ _ _ b h.2⟩
theorem bG.K3{b:Y}{cs:Y->Array Value}{a:Y->World->Prop}(y:Y)(k:fc G i=some (gX b m T cs a))(n:m=w0.heap.size)(o:ops[i]?=some ⟨some d,.box T x,ty,pos,af,g⟩)(s:want ops L ⟨some d,.box T x,ty,pos,af,g⟩=some true)(l:known L x=true)(t:bH L x=v)(f:v.cells=cs y)
  (r:∀y,cH [] (a y)) (p:∀w,Kp S.1 w0 w->fS ops i Γ w->a y w)
  (h:∀q:Nat×Y,bG P S w0 ops G K ord ((d,.pointer (some ⟨q.1,0,none⟩))::L) ((i,(gX b m T cs a).phi q)::Γ)):bG P S w0 ops G K (i::ord) L Γ:=by
 refine bG.Jw (gX b m T cs a) k o s (by simp[Op.operands,l]) (fun w c j=>?_) h
 unfold bD
 have:(execOp (bH L) ⟨some d,.box T x,ty,pos,af,g⟩).run P w= .ok (.value (.pointer (some ⟨w.heap.size,0,none⟩))) {w with heap:=w.heap.push (.cells v.cells T)}:=by
  simp[execOp,t,Ab,Result.andThen]
 rw[this,f]
 have e:=Kp.push w (.cells (cs y) T) rfl
 exact⟨(w.heap.size,y),rfl,⟨⟨by rw[n];exact c.size,aG.push w _⟩,r _ _ _ e (p w c j)⟩,e⟩
theorem bG.I0{t:TypeId}{a:String}{f:FuncId}[M:Cj P t a f][Fn:bU P f]{args:List Operand}{vs:List Value}{b:Array TypeId}(D:GD)(q:fc G i=some D)
  (s:ops[i]?=some ⟨some d,.call ⟨.invoke x a,args.toArray,b⟩,ty,pos,af,g⟩) (u:want ops L ⟨some d,.call ⟨.invoke x a,args.toArray,b⟩,ty,pos,af,g⟩=some true) (r:(Op.call ⟨.invoke x a,args.toArray,b⟩).operands.toList.all (known L)=true)
  (p:bH L x= .iface t v) (o:bg L args vs) (n:∀w,Kp S.1 w0 w->Calls P f (v::vs).toArray w (fun e c=>∃x,e= .returned (D.val x)/\D.phi x c/\Kp [] w c))
  (h:∀x,bG P S w0 ops G K ord ((d,D.val x)::L) ((i,D.phi x)::Γ)):bG P S w0 ops G K (i::ord) L Γ:=
 bG.Jw D q s u r (fun w m _=>ri (M:=M) (Fn:=Fn) p o ((n w m).mono (fun e c ⟨x,j,k,l⟩=>⟨_,j,x,rfl,k,l⟩))) h
def gN(m:Nat)(enc:κ->Value)(V:ν->Value)(kx:κ)(y0:ν):GD:=⟨Nat×ν,(0,y0),fun _=>undef,fun q w=>m<=q.1/\aF w q.1 enc V [(kx,q.2)]⟩
theorem AD{kx:κ}{a:ν}(x:(gN m enc V kx a).X):cH [] ((gN m enc V kx a).phi x):=fun w c b h=>⟨h.1,h.2.az b⟩
theorem bG.Aw[DecidableEq κ]{b:Nat}{kx:κ}{f vy:ν}{k E:TypeId}[u:Ut P T (.map k E)]{a y:Operand}(I:fc G i=some (gN m enc V kx f))(O:m=w0.heap.size)
  (Q:ops[i]?=some ⟨none,.insert T a x y,ty,pos,af,g⟩) (U:want ops L ⟨none,.insert T a x y,ty,pos,af,g⟩=some true) (M:(known L a&&(known L x&&known L y))=true) (D:Γ.all (fun aa=>kR ops i aa.1)=true) (C:bH L a= .map (some b)) (W:bH L x=enc kx) (Y:bH L y=V vy) (t:da P k enc)
  (A:∀w,fS ops i Γ w->(gM m enc V kx).phi b w)
  (N:∀j,j≠i->∀w d x,Kp [b] w d->(∃o c,aG w b (.map o c))->aF d b enc V [(kx,vy)]->(cu G j).phi x w->(cu G j).phi x d)
  (h:bG P S w0 ops G K ord L ((i,fun w=>m<=b/\aF w b enc V [(kx,vy)])::Γ)):bG P S w0 ops G K (i::ord) L Γ:=by
 refine bG.KO (gN m enc V kx f) (b,vy) I Q U (by simpa[Op.operands] using M) D (fun w h1 z=>?_) h
 obtain⟨q,e⟩:=A w z
 have s:∀{l:List (κ×ν)},aF w b enc V l->ca l kx vy=[(kx,vy)]->bD P (bH L) ⟨none,.insert T a x y,ty,pos,af,g⟩ w (fun ab d=>ab=(gN m enc V kx f).val (b,vy)/\(gN m enc V kx f).phi (b,vy) d/\(∀X,Kp X w0 w->Kp X w0 d)/\∀j y,j≠i->(cu G j).phi y w->(cu G j).phi y d):=fun{l} r H=>by
  obtain⟨Z,v,n,p⟩:=jr (P:=P) (u:=u) r t kx vy
  rw[H] at n
  unfold bD
  have:(execOp (bH L) ⟨none,.insert T a x y,ty,pos,af,g⟩).run P w= .ok .skip {w with heap:=w.heap.setIfInBounds b Z}:=by
   simp only[execOp,C,W,Y,Sem.run_bind,v,Result.andThen,Sem.run_pure]
  rw[this]
  obtain⟨o,c,F,-⟩:=r
  exact⟨rfl,⟨q,n⟩,fun X B=>B.aj p (aW (by rw[<-O];exact q)),fun j y J R=>N j J _ _ y p ⟨o,c,F⟩ n R⟩
 rcases e with e|⟨y,e⟩
 ·exact s e rfl
 ·exact s e (by simp[ca])
end
end
section
variable{k:Dg}{l:List Ac}{b m:Nat}{t:Tl}{w:World}
def cM:List UInt8:=[98,97,105,122,101]
def bF:Dg:=aI (bZ cM).b
def oD(b:Bd)(l:List Ac):Int:=if zJ b≠0 then zJ b else if 1000<b.fork then 2 else jH l
theorem xA:bz (bZ cM).b=0:=by
 unfold bz
 simp[bZ,Bm.b,iI,oW]
theorem rJ:nC (bZ cM).b (aI (bZ cM).b)= .tuple #[dv bF,.int .i64 0]:=by unfold nC;rw[if_pos xA];rfl
theorem xP{b:Bd}(h:zJ b=0):0<=b.fork/\b.fork<=1024:=by
 unfold zJ at h
 split at h
 ·cases h
 ·rename_i g
  have:¬Ca b.fork:=fun h=>g (Or.inl h)
  unfold Ca at this
  omega
def gC(m:Nat)(t:Tl)(mk:Nat->Value):GD:=⟨Nat,0,mk,fun q w=>m<=q/\gp w q t⟩
theorem uJ{mk:Nat->Value}(x:(gC m t mk).X):cH [] ((gC m t mk).phi x):=fun w b a h=>⟨h.1,h.2.az a⟩
theorem wy(h:jH l=0):∀e∈l,0<=e.nonce/\e.nonce<=1099511627776:=fun e a=>by
 unfold jH at h
 split at h
 ·cases h
 ·have:=(nh h).1 e a
  unfold ql at this
  omega
def xK(b:Bd)(vb tb pb:Nat)(m:Value):List Value:=iF b++(.iface 40 (.pointer (some ⟨vb,0,none⟩))::(dc bF++[.pointer (some ⟨tb,0,none⟩),.pointer (some ⟨pb,0,none⟩),m]))
theorem R2(w:World)(vb tb k:Nat)(a b c:Int)(d d1 e f g h i j:UInt8):(Instr.build 127 #[(0,.agg #[.int .i64 a,.int .i64 b,.int .i64 c]),(1,.iface 40 (.pointer (some ⟨vb,0,none⟩))),(2,.agg #[bv d,bv d1,bv e,bv f,bv g,bv h,bv i,bv j]),(3,.pointer (some ⟨tb,0,none⟩)),(4,.pointer (some ⟨k,0,none⟩))]).run prog w=
  .ok (.agg #[.int .i64 a,.int .i64 b,.int .i64 c,.iface 40 (.pointer (some ⟨vb,0,none⟩)),bv d,bv d1,bv e,bv f,bv g,bv h,bv i,bv j,.pointer (some ⟨tb,0,none⟩),.pointer (some ⟨k,0,none⟩),.map none]) w:=by kernel_rfl
theorem VU(b:Bd)(vb tb a:Nat)(w:World):(Instr.build 127 #[(0,yc b),(1,.iface 40 (.pointer (some ⟨vb,0,none⟩))),(2,dv bF),(3,.pointer (some ⟨tb,0,none⟩)),(4,.pointer (some ⟨a,0,none⟩))]).run prog w= .ok (.agg (xK b vb tb a (.map none)).toArray) w:=by
 unfold xK
 generalize bF=d
 obtain⟨l,h⟩:=d
 match l,h with
 |[c,d1,e,f,g,i,j,k],_=>exact R2 w vb tb a b.fork b.leave b.sleep c d1 e f g i j k
def Ll(n:Nat)(w:World)(b:Bd)(vb:Nat)(t:Tl)(l:List Ac)(e:Ending)(w':World):Prop:=
 ∃(c:Cm) (z:Nat) (q:Nm),e= .returned (.tuple #[.pointer (some ⟨c.cb,0,none⟩),.int .i64 0])/\(∀A0:List Nat,(∀x∈A0,x<w.heap.size)->cS w' n (c.tm::c.nm::A0) (eU l) c)/\(c.bd=b/\c.vb=vb/\c.first=bF/\c.tr=Tr.new bF b.fork.toNat/\c.ps=[]/\c.pv= .slice none 0 0)/\c.ns=[(bF,z,q)]/\q.x=bZ cM/\q.f=cC (gq [] l)/\q.t=t/\q.es=[]/\w.heap.size<=c.cb/\w.heap.size<=c.tm/\w.heap.size<=c.nm
abbrev Gc(b:Nat):Value:= .pointer (some ⟨b,0,none⟩)
theorem xp{cs:Nat->Array Value}{T:TypeId}{f:World}{vy:Nat}(d:Kp [b] w f)(g:∃j c,aG w b (.map j c))(l:aF f b (dv (n:=8)) Gc [(k,vy)]):
  (∀x,(gM m (dv (n:=8)) Gc k).phi x w->(gM m (dv (n:=8)) Gc k).phi x f)/\(∀mk x,(gC m t mk).phi x w->(gC m t mk).phi x f)/\(∀x,(gX 0 m T cs (fun q w=>m<=q/\gp w q t)).phi x w->(gX 0 m T cs (fun q w=>m<=q/\gp w q t)).phi x f):=by
 obtain⟨j,c,g⟩:=g
 have i:∀{z:Nat} {cs:Array Value} {T:TypeId},aG w z (.cells cs T)->z∉[b]:=fun o=>bQ (fun e=>by
  subst e
  cases o.uniq g)
 refine⟨fun x h=>⟨h.1,?_⟩,fun _ x h=>⟨h.1,h.2.kp d (i h.2)⟩,fun x h=>⟨⟨h.1.1,h.1.2.kp d (i h.1.2)⟩,h.2.1,h.2.2.kp d (i h.2.2)⟩⟩
 by_cases e:x=b
 ·subst e
  exact Or.inr ⟨vy,l⟩
 ·exact h.2.elim (fun a=>Or.inl (a.kp d (bQ e))) (fun⟨y,a⟩=>Or.inr ⟨y,a.kp d (bQ e)⟩)
theorem DW{z:Nat}{q:Nm}(h:aF w b (dv (n:=8)) Gc [(k,z)]):aF w b (dv (n:=8)) Kx [(k,z,q)]:=by
 obtain⟨a,c,d,e,f⟩:=h
 exact⟨a,c,d,e,f⟩
theorem EM(b:Bd)(vb tb a:Nat)(m:Value):(xK b vb tb a m).toArray.toList=(iF b++(.iface 40 (.pointer (some ⟨vb,0,none⟩))::(dc bF++[.pointer (some ⟨tb,0,none⟩),.pointer (some ⟨a,0,none⟩)])))++([m]++[]):=by simp[xK]
theorem B6(b:Bd)(vb tb a:Nat)(m:Value):(iF b++(.iface 40 (.pointer (some ⟨vb,0,none⟩))::(dc bF++[.pointer (some ⟨tb,0,none⟩),.pointer (some ⟨a,0,none⟩)])))++([m]++[])=xK b vb tb a m:=by simp[xK]
theorem EL(b:Bd)(vb tb a:Nat):(iF b++(Value.iface 40 (Value.pointer (some ⟨vb,0,none⟩))::(dc bF++[Value.pointer (some ⟨tb,0,none⟩),Value.pointer (some ⟨a,0,none⟩)]))).length=14:=by simp[iF,ai]
attribute [local irreducible] CG NG SG aP aM Row aG aF aQ bG aI bz bF jH
theorem B5{n:Nat}(a8:n<=w.heap.size)(b:Bd){vb:Nat}{a:Option Addr}{c0:Nat}(hS:R9 w a l)(hl:l.length<=1000){ta:Nat}(hT:gp w ta t):
  Calls prog 28 #[yc b,.iface 40 (.pointer (some ⟨vb,0,none⟩)),.slice a l.length c0,.iface 74 (.pointer (some ⟨ta,0,none⟩))] w (fun e D=>Kp [] w D/\
   (oD b l≠0/\e= .returned (.tuple #[.pointer none,.int .i64 (oD b l)])\/oD b l=0/\Ll n w b vb t l e D)):=by
 refine pq func28 rfl ntmps28 rfl ?_
 repeat apply ar
 refine SG.box rfl rfl rfl (ag rfl) (fun K w1 a4 bb O=>?_)
 have O:aG w1 K (.cells (iF b).toArray 31):=O
 have J:Row w1 K 0 (iF b):=Row.all O rfl
 repeat (first|apply ar|(apply au;rfl;(first|apply F9|apply aB|apply aE|apply cI)<;>rfl))
 refine bA rfl ?_
 repeat (first|apply ar|(apply au;rfl;apply bf<;>first|rfl|assumption|exact wn))
 refine SG.ret rfl rfl rfl (vs:=[yc b]) (bg.of rfl) (zK b w1) (fun w2 ak=>?_)
 have k2:=a4.trans ak
 clear J
 by_cases R:zJ b=0
 rotate_left
 ·have ez:oD b l=zJ b:=by unfold oD;rw[if_pos R]
  repeat (first|apply ar|refine vr ?_)
  refine bO rfl ?_
  repeat (first|apply ar|refine ww ?_)
  refine dT (Or.inl rfl) results28 (aD.tmp rfl) (aD.tmp rfl) ?_
  exact⟨k2,Or.inl ⟨by rw[ez];exact R,by rw[ez]⟩⟩
 have u:oD b l=if 1000<b.fork then 2 else jH l:=by unfold oD;rw[if_neg (fun aS=>aS R)]
 obtain⟨f0,f1⟩:=xP R
 rw[R]
 repeat (first|apply ar|refine vp ?_)
 refine bA rfl ?_
 repeat apply ar
 refine SG.ret rfl rfl rfl (vs:=[sv cM]) (bg.of rfl) (rI cM (by decide) w2) (fun w3 al=>?_)
 refine SG.alloc rfl rfl rfl (fun ay w4 am af U=>?_)
 refine SG.aN (l:=cR (bZ cM)) rfl rfl (ag rfl) (ag rfl) U (aH _) rfl (dB _) (fun w5 an U=>?_)
 have k5:=(k2.trans al).trans (am.aj an (aW af))
 have av:Row w5 ay 0 (cR (bZ cM)):=Row.all U rfl
 repeat (first|apply ar|(apply au;rfl;apply bf<;>first|rfl|assumption|exact wn))
 have ao:=eP (mj cM 0 w5)
 rw[rJ] at ao
 refine SG.ret rfl rfl rfl (vs:=[eL (bZ cM)]) (bg.of rfl) ao (fun w6 a5=>?_)
 clear av ao
 repeat refine qa7 ?_
 refine SG.alloc rfl rfl rfl (fun ac w7 a6 a1 M=>?_)
 refine SG.aN (l:=dc bF) rfl rfl (ag rfl) (ag rfl) M (ai _) rfl (bj _) (fun w8 a7 M=>?_)
 have Z:=a5.trans (a6.aj a7 (aW a1))
 have k8:=k5.trans Z
 have I:Row w8 ac 0 (dc bF):=Row.all M rfl
 have J:Row w8 K 0 [.int .i64 b.fork]:=Row.of (((O.az ak).az (al.trans (am.aj an (aW af)))).az Z) [] [.int .i64 b.leave,.int .i64 b.sleep] rfl rfl
 repeat (first|apply ar|refine vp ?_)
 refine bA rfl ?_
 repeat (first|apply ar|refine qa3 ?_)
 by_cases hf:1000<b.fork
 ·rw[if_pos hf] at u
  refine SG.ret rfl rfl rfl (vs:=[dv bF,.int .i64 b.fork]) (bg.of rfl) (Ee w8 bF b.fork (Or.inr hf)) (fun w9 A=>?_)
  clear I J
  repeat (first|apply ar|(apply au;rfl;(first|apply aB|apply aE|apply du|apply dd)<;>first|rfl|exact qr))
  refine bO rfl ?_
  repeat (first|apply ar|refine ww ?_)
  refine dT (Or.inl rfl) results28 (aD.tmp rfl) (aD.tmp rfl) ?_
  exact⟨k8.trans A,Or.inl ⟨by rw[u];decide,by rw[u]⟩⟩
 rw[if_neg hf] at u
 have ef:b.fork=((b.fork.toNat:Nat):Int):=by omega
 have aI:=tF w8 bF b.fork.toNat (by omega)
 rw[<-ef] at aI
 refine SG.call rfl rfl rfl (vs:=[dv bF,.int .i64 b.fork]) (bg.of rfl) (aI.mono (fun e w9 p=>?_))
 obtain⟨s,E,rfl,ae,bd,bc,aJ,A⟩:=p
 refine⟨_,rfl,?_⟩
 have k9:=k8.trans A
 clear I J
 repeat (first|apply ar|refine qb5 ?_)
 refine bA rfl ?_
 repeat (first|apply ar|refine qa0 ?_)
 refine SG.call rfl rfl rfl (vs:=[.slice a l.length c0]) (bg.of rfl) ((rU c0 (hS.az k9) (by omega)).mono (fun e bq p=>?_))
 obtain⟨C,p⟩:=p
 have ap:=k9.trans C
 rcases p with⟨hn,rfl⟩|⟨hn,bk,bkm,rfl,hBk,hbk,hbkm⟩
 ·refine⟨_,rfl,?_⟩
  repeat (first|apply ar|(apply au;rfl;(first|apply aB|apply aE|apply du|apply dd)<;>first|rfl|exact qr))
  refine bO rfl ?_
  repeat (first|apply ar|refine ww ?_)
  refine dT (Or.inl rfl) results28 (aD.tmp rfl) (aD.tmp rfl) ?_
  exact⟨ap,Or.inl ⟨by rw[u];exact hn,by rw[u]⟩⟩
 refine⟨_,rfl,?_⟩
 rw[hn] at u
 repeat (first|apply ar|refine qb5 ?_)
 refine bA rfl ?_
 repeat apply ar
 refine SG.call rfl rfl rfl (vs:=[.int .i64 256]) (bg.of rfl) ((wv (by omega) (by omega)).mono (fun e aQ p=>?_))
 obtain⟨H,rfl,be,r,aV⟩:=p
 refine⟨_,rfl,?_⟩
 have aq:=ap.trans r
 repeat (first|apply ar|refine qb5 ?_)
 refine bA rfl ?_
 have I:Row aQ ac 0 (dc bF):=Row.all ((M.az A).az (C.trans r)) rfl
 have J:Row aQ K 0 (iF b):=Row.all ((((O.az ak).az (al.trans (am.aj an (aW af)))).az Z).az ((A.trans C).trans r)) rfl
 repeat (first|apply ar|refine qa5 ?_)
 refine SG.val rfl rfl rfl rfl (aK rfl (VU b vb s H)) ?_
 refine SG.box rfl rfl rfl (ag rfl) (fun cb aa y a2 P=>?_)
 have P:aG aa cb (.cells (xK b vb s H (.map none)).toArray 127):=P
 have aL:=aq.trans y
 clear I J
 have I:Row aa ac 0 (dc bF):=Row.all (((M.az A).az (C.trans r)).az y) rfl
 have av:Row aa ay 0 (cR (bZ cM)):=Row.all ((U.az Z).az (((A.trans C).trans r).trans y)) rfl
 repeat (first|apply ar|refine wt ?_)
 obtain⟨c,X⟩:∃c,c=aa.heap.size:=⟨_,rfl⟩
 refine CG.free mixed 12 [0,2,3,4,7,1,11,5,6,8,9,10] [(1,gM c (dv (n:=8)) Gc bF),(5,gC c t (fun f=> .iface 74 (.pointer (some ⟨f,0,none⟩)))),(6,gC c t (fun f=>FC bk f (.slice none 0 0))),(8,gC c t (fun f=> .agg (Ao bk f (.slice none 0 0) (bZ cM) (.slice none 0 0)).toArray)),(9,gX 0 c 118 (fun f=>(Ao bk f (.slice none 0 0) (bZ cM) (.slice none 0 0)).toArray) (fun f w=>c<=f/\gp w f t)),(10,gN c (dv (n:=8)) Gc bF 0)] (by kernel_rfl) ?_ ?_
 ·intro aP B
  simp only[mem_cons,mem_nil_iff,or_false] at B
  rcases B with rfl|rfl|rfl|rfl|rfl|rfl
  ·exact AE
  ·exact uJ
  ·exact uJ
  ·exact uJ
  ·exact AA (fun a9 w D d h=>⟨h.1,h.2.az d⟩)
  ·exact AD
 repeat (apply xZ;rfl;rfl;(first|apply aB|apply bf)<;>first|rfl|assumption|exact wn|apply ai)
 refine bG.xd bF rfl X rfl rfl (fun i=>?_)
 repeat (apply xZ;rfl;rfl;apply aB<;>rfl)
 refine bG.I0 (t:=74) (v:= .pointer (some ⟨ta,0,none⟩)) (vs:=[]) _ rfl rfl rfl rfl (ag rfl) True.intro (fun W d=>(ir ((hT.az aL).az d)).mono (fun e W' p=>?_)) (fun q5=>?_)
 ·obtain⟨b',he,a0,aX,a3⟩:=p
  exact⟨b',he,⟨by rw[X];exact Nat.le_trans d.size a0,aX⟩,a3⟩
 refine bG.JP (gC c t (fun f=>FC bk f (.slice none 0 0))) q5 rfl rfl rfl rfl (aK rfl (Tn bk q5)) rfl (fun W d j=>j _ (.head _) (by kernel_rfl)) (fun q6=>?_)
 refine bG.JP (gC c t (fun f=> .agg (Ao bk f (.slice none 0 0) (bZ cM) (.slice none 0 0)).toArray)) q6 rfl rfl rfl rfl (aK rfl (Tj bk q6 (bZ cM))) rfl (fun W d j=>j _ (.head _) (by kernel_rfl)) (fun q8=>?_)
 refine bG.K3 (Y:=Nat) q8 rfl X rfl rfl rfl rfl rfl (fun a9 W W' d h=>⟨h.1,h.2.az d⟩) (fun W d j=>j _ (.head _) (by kernel_rfl)) (fun q9=>?_)
 obtain⟨z,S⟩:=q9
 refine bG.Aw (V:=Gc) (vy:=z) (b:=i) rfl X rfl rfl rfl (by kernel_rfl) (ag rfl) (ag rfl) (ag rfl) gJ.key (fun W j=>j _ (.tail _ (.tail _ (.tail _ (.tail _ (.head _))))) (by kernel_rfl)) ?_ ?_
 ·refine pj (q:=fun ax=>∀w D x,Kp [i] w D->(∃es aR,aG w i (.map es aR))->aF D i (dv (n:=8)) Gc [(bF,z)]->ax.phi x w->ax.phi x D) (fun _ _ _ _ _ _ h=>h) (fun aP B aJ W W' x d Q g h=>?_)
  simp only[mem_cons,mem_nil_iff,or_false] at B
  rcases B with rfl|rfl|rfl|rfl|rfl|rfl
  ·exact(xp (t:=t) (cs:=fun _=> #[]) (T:=0) d Q g).1 x h
  ·exact(xp (m:=c) (t:=t) (cs:=fun _=> #[]) (T:=0) d Q g).2.1 _ x h
  ·exact(xp (m:=c) (t:=t) (cs:=fun _=> #[]) (T:=0) d Q g).2.1 _ x h
  ·exact(xp (m:=c) (t:=t) (cs:=fun _=> #[]) (T:=0) d Q g).2.1 _ x h
  ·exact(xp (m:=c) (t:=t) d Q g).2.2 x h
  ·exact absurd rfl aJ
 refine bG.tl (fun ab G j=>?_)
 have F:=j _ (.head _)
 have L:=j _ (.tail _ (.head _))
 simp only at F L
 have F:c<=i/\aF ab i (dv (n:=8)) Gc [(bF,z)]:=F
 have L:(c<=z/\aG ab z (.cells (Ao bk S (.slice none 0 0) (bZ cM) (.slice none 0 0)).toArray 118))/\c<=S/\gp ab S t:=L
 have aM:=aL.trans G
 clear I av
 repeat (apply au;rfl;(first|apply aU|apply bR)<;>rfl)
 refine SG.cp (iF b++(.iface 40 (.pointer (some ⟨vb,0,none⟩))::(dc bF++[.pointer (some ⟨s,0,none⟩),.pointer (some ⟨H,0,none⟩)]))) [.map none] [] rfl rfl (ag rfl) (ag rfl) (P.az G) (EM _ _ _ _ _) rfl rfl (EL _ _ _ _) rfl (fun aw k ad=>?_)
 have ad:aG aw cb (.cells (xK b vb s H (.map (some i))).toArray 127):=by
  rw[<-B6 b vb s H (.map (some i))]
  exact ad
 repeat (first|apply ar|refine ww ?_)
 refine dT (Or.inl rfl) results28 (aD.tmp rfl) (aD.tmp rfl) ?_
 have s1:=aq.size
 have bl:=P.lt
 have ah:w.heap.size<=cb:=Nat.le_trans aq.size a2
 refine⟨aM.aj k (aW ah),Or.inr ⟨u,?_⟩⟩
 have bp:=k8.size
 have bn:=k9.size
 have bo:=ap.size
 have o:dt n [127] [] ab [cb]:=dt.cells (Nat.le_trans a8 ah) (P.az G) (by decide)
 have aO:=((C.trans r).trans y).trans G
 obtain⟨b1,b2,b3,K⟩:=vU (N:=1099511627776) hn (fun e he=>(wy hn e he).2)
 have bi:=ae.map.lt
 have bh:=hBk.map.lt
 have bm:=F.2.lt
 have t1:=((C.trans r).trans y).size
 have t2:=(r.trans y).size
 have t3:=F.1
 have t4:=A.size
 refine⟨⟨cb,s,E,H,i,vb,.slice none 0 0,b,bF,Tr.new bF b.fork.toNat,[],[(bF,z,⟨bk,bkm,S,cC (gq [] l),t,none,0,[],bZ cM,none,0⟩)]⟩,z,⟨bk,bkm,S,cC (gq [] l),t,none,0,[],bZ cM,none,0⟩,rfl,fun A0 aT=>?_,⟨rfl,rfl,rfl,rfl,rfl,rfl⟩,rfl,rfl,rfl,rfl,rfl,ah,by show w.heap.size<=E;omega,by show w.heap.size<=i;omega⟩
 have aY:cO aw s E (Tr.new bF b.fork.toNat):=⟨o.blk k (ae.az aO).blk (by decide),o.yY k (ae.az aO).map not_mem_nil⟩
 have aC:=(aV n (by omega)).az (y.trans G)
 have aA:=hBk.az ((r.trans y).trans G)
 have h0:∀{ba:Type} {T:TypeId},Tg T n aw none ([]:List ba):=Or.inl (fun h=>absurd rfl h)
 refine⟨ad,aY,aC.kp k (o.no aC.blk (by show _∉_;decide)) (fun _ hg=>by cases hg) (o.not (by decide)),DW (o.yY k F.2 not_mem_nil),fun aP B=>?_,.head _,.tail _ (.head _),by show E≠i;omega,by show n<=E;omega,by show n<=i;omega,by show n<=s;omega,by have:=aM.size;have:=k.size;omega⟩
 rw[mem_singleton] at B
 subst B
 refine⟨o.blk k L.1.2 (by decide),⟨gq [] l,⟨o.blk k aA.blk (by decide),o.yY k aA.map not_mem_nil⟩,⟨b1,?_,rfl⟩⟩,fun g=>?_,by show n<=bkm;omega,o.blk k L.2.2 (by decide),Sl.nil,h0,mj _ _ _,Sl.nil,h0,rfl⟩
 ·show _<=1000+400*_
  omega
 ·have g:bkm∈E::i::A0:=g
  rcases mem_cons.1 g with e|g
  ·omega
  rcases mem_cons.1 g with e|g
  ·omega
  ·have:=aT _ g
   omega
end
end Go.Proofs.YtpnjgjddabeapaaGreatDoor
