import Derived.Test.YtpnjgjddabeapaaGreatDoorMp4
namespace Go.Proofs.YtpnjgjddabeapaaGreatDoor
set_option linter.all false
set_option maxHeartbeats 400000000
open List Or Go.Proofs.Tryz
section
variable{a k:Int}{x:Operand}{T T':TypeId}{b:UInt8}
section
variable {P:Program} {S:List Nat} {w0:World} {F:World->Prop} {L:Env} {d:Option Nat} {ty:TypeId} {pos:String} {af:Array Edge} {g:Option (Nat×Bool)}
theorem Fv[u:Ut P T (.int .u8)](i:ro L x=some (bv b))(h:Ar (0<k/\k<256)):aP P S w0 F L ⟨d,.binOp .rem T x (.const (.int .u8 k)) T',ty,pos,af,g⟩ (bv (b%UInt8.ofNat k.toNat)):=fun w _ _=>by
 obtain⟨j,l⟩:=h.h
 have a:k≠0:=by omega
 have c:bH L (.const (.int .u8 k))= .int .u8 k:=rfl
 have f:(UInt8.ofNat k.toNat).toNat=k.toNat:=by
  rw[UInt8.toNat_ofNat']
  exact Nat.mod_eq_of_lt (by omega)
 have e:((b.toNat:Int).tmod k)=((b%UInt8.ofNat k.toNat).toNat:Int):=by
  rw[UInt8.toNat_mod,f,Int.tmod_eq_emod_of_nonneg (by omega),Int.natCast_emod,Int.toNat_of_nonneg (by omega)]
 simp only[execOp,ag i,c,eqGuard,binOp,Op.intDiv,if_neg a,Sem.run_bind,Sem.run_pure,Result.andThen,e];rfl
theorem LB[u:Ut P T (.int .u8)](f:ro L x=some (bv b))(h:Ar (0<=k/\k<256)):aP P S w0 F L ⟨d,.binOp .add T (.const (.int .u8 k)) x T',ty,pos,af,g⟩ (bv (UInt8.ofNat k.toNat+b)):=fun w _ _=>by
 obtain⟨i,j⟩:=h.h
 have a:bH L (.const (.int .u8 k))= .int .u8 k:=rfl
 have c:(UInt8.ofNat k.toNat).toNat=k.toNat:=by
  rw[UInt8.toNat_ofNat']
  exact Nat.mod_eq_of_lt (by omega)
 have e:IntKind.wrap .u8 (k+(b.toNat:Int))=((UInt8.ofNat k.toNat+b).toNat:Int):=by
  rw[UInt8.toNat_add,c]
  simp only[IntKind.wrap,IntKind.signed,IntKind.bits]
  simp
  omega
 simp only[execOp,ag f,a,eqGuard,binOp,Op.intArith,Sem.run_bind,Sem.run_pure,Result.andThen,e];rfl
theorem Ve[u:Ut P T (.int .u16)][u':Ut P T' (.int .i64)](b:ro L x=some (.int .u16 a))(h:Ar (0<=a/\a<65536)):aP P S w0 F L ⟨d,.convert T T' x,ty,pos,af,g⟩ (.int .i64 a):=by
 have e:IntKind.wrap .i64 a=a:=by
  have:=h.h
  simp only[IntKind.wrap,IntKind.signed,IntKind.bits]
  simp
  omega
 have:=xX (P:=P) (S:=S) (w0:=w0) (F:=F) (L:=L) (d:=d) (ty:=ty) (pos:=pos) (af:=af) (g:=g) (u:=u) (u':=u') b
 rw[e] at this
 exact this
theorem Va[u:Ut P T (.int .i64)][u':Ut P T' (.int .u8)](b:ro L x=some (.int .i64 a))(h:Ar (0<=a/\a<256)):aP P S w0 F L ⟨d,.convert T T' x,ty,pos,af,g⟩ (bv (UInt8.ofNat a.toNat)):=by
 have e:IntKind.wrap .u8 a=((UInt8.ofNat a.toNat).toNat:Int):=by
  have:=h.h
  rw[UInt8.toNat_ofNat']
  simp only[IntKind.wrap,IntKind.signed,IntKind.bits]
  simp
  omega
 have:=xX (P:=P) (S:=S) (w0:=w0) (F:=F) (L:=L) (d:=d) (ty:=ty) (pos:=pos) (af:=af) (g:=g) (u:=u) (u':=u') b
 rw[e] at this
 exact this
end
end
section
def d1(b:UInt8):Dg:=⟨[b,0,0,0,0,0,0,0],rfl⟩
theorem E6(b:UInt8)(w:World):(Instr.build 47 #[(0,bv b)]).run prog w= .ok (dv (d1 b)) w:=by kernel_rfl
def uU(f l s:UInt8):Bd:=⟨(f.toNat:Int)%6,(l.toNat:Int)%6,(s.toNat:Int)%6⟩
theorem VV(f l s:Int)(w:World):(Instr.build 31 #[(0,.int .i64 f),(1,.int .i64 l),(2,.int .i64 s)]).run prog w= .ok (yc ⟨f,l,s⟩) w:=by kernel_rfl
theorem Jf(f l s:UInt8):zJ (uU f l s)=0/\0<=(uU f l s).fork/\(uU f l s).fork<6:=by
 have a:=f.toNat_lt
 unfold zJ Ca uU
 refine⟨if_neg ?_,?_,?_⟩<;>simp only<;>omega
def yk(l:List Nat):List Value:=[.int .u16 ((l.getD 0 0:Nat):Int),.int .u16 ((l.getD 1 0:Nat):Int),.int .u16 ((l.getD 2 0:Nat):Int),.int .u16 ((l.getD 3 0:Nat):Int)]
def CX(l:List Nat):Value:= .agg (yk l).toArray
theorem JT(l:List Nat){j:Nat}(h:j<4):(yk l)[j]?=some (.int .u16 ((l.getD j 0:Nat):Int)):=by
 match j,h with
 |0,_=>rfl
 |1,_=>rfl
 |2,_=>rfl
 |3,_=>rfl
def jA(l:List Nat)(n:Nat):List Ac:=(range n).map (fun j=>⟨d1 (UInt8.ofNat (j+1)),((l.getD j 0:Nat):Int),0⟩)
theorem Fi(l:List Nat)(n:Nat):jA l (n+1)=jA l n++[⟨d1 (UInt8.ofNat (n+1)),((l.getD n 0:Nat):Int),0⟩]:=by simp[jA,range_succ]
theorem iz(l:List Nat)(n:Nat):(jA l n).length=n:=by simp[jA]
theorem Le(w:World)(a0 a b c d e f g:UInt8)(x:Int):(Instr.build 59 #[(0,.agg #[bv a0,bv a,bv b,bv c,bv d,bv e,bv f,bv g]),(1,.int .i64 x)]).run prog w= .ok (.agg #[bv a0,bv a,bv b,bv c,bv d,bv e,bv f,bv g,.int .i64 x,.int .i64 0]) w:=by kernel_rfl
theorem R7(d:Dg)(x:Int)(w:World):(Instr.build 59 #[(0,dv d),(1,.int .i64 x)]).run prog w= .ok (FD ⟨d,x,0⟩) w:=by
 obtain⟨l,h⟩:=d
 match l,h with
 |[a,b,c,e,f,g,i,j],_=>exact Le w a b c e f g i j x
theorem U4.lt{l:List Nat}(a:∀x∈l,x<65536)(j:Nat):l.getD j 0<65536:=by
 rw[getD_eq_getElem?_getD]
 cases h:l[j]? with
 |none=>simp
 |some x=>exact a x (mem_of_getElem? h)
attribute [local irreducible] CG NG SG aP aM Row aG aF aQ
theorem xM(f l s:UInt8)(w:World):dq prog 13 #[bv f,bv l,bv s] w (yc (uU f l s)):=by
 refine dG func13 rfl ntmps13 rfl ?_
 repeat apply ar
 refine SG.alloc rfl rfl rfl (fun a j e d c=>?_)
 repeat (first|apply ar|(apply au;rfl;(first|apply Fw|apply Jr|apply aB)<;>first|rfl|exact zc))
 refine SG.val rfl rfl rfl rfl (aK rfl (VV _ _ _)) ?_
 refine SG.aN (l:=iF (uU f l s)) rfl rfl (ag rfl) (ag rfl) c rfl rfl rfl (fun i g b=>?_)
 have h:Row i a 0 (iF (uU f l s)):=Row.all b rfl
 repeat apply ar
 refine aO (Or.inl rfl) results13 (aD.agg rfl rfl h rfl) ?_
 exact⟨rfl,e.aj g (aW d)⟩
theorem mT(w:World)(l:List Nat)(r:∀x∈l,x<65536):kr prog 59 acl 10 29 #[CX l] w (jA l 4):=by
 refine bC func29 rfl ntmps29 rfl ?_
 repeat apply ar
 refine SG.box rfl rfl rfl (ag rfl) (fun e k t D a=>?_)
 have a:aG k e (.cells (yk l).toArray 24):=a
 have z:Row k e 0 (yk l):=Row.all a rfl
 have F:(yk l).length=4:=rfl
 repeat (first|apply ar|(apply au;rfl;(first|apply aB|apply aE|apply bf)<;>first|rfl|assumption|exact wn))
 refine CG.loop (X:=Nat×Value) (fun q=>[(3,q.2),(6,.agg (yk l).toArray),(7,.int .i64 (q.1:Int))])
  (fun q j=>q.1<=4/\Kp [] w j/\j.ownsRow w.heap.size 59 10 q.2 q.1 (bX acl (jA l q.1)))
  (fun q=>4-q.1) (0,.slice none 0 0) ⟨by omega,t,dY⟩ (aS.of rfl) ?_
 rintro⟨i,v⟩ K ⟨s,d,c⟩
 simp only at s c
 refine CG.to [(3,v),(6,.agg (yk l).toArray),(7,.int .i64 (i:Int))] (aS.of rfl) ?_
 clear z
 by_cases f:i<4
 ·have o:(i:Int)<4:=by omega
  have C:=JT l f
  have G:=U4.lt r i
  generalize y:l.getD i 0=x at*
  repeat (first|apply ar|refine ul ?_)
  refine bO rfl ?_
  repeat (first|apply ar|(apply au;rfl;(first|apply Kh|apply Va|apply aB|apply aE|apply dp)<;>first|rfl|exact zc|assumption))
  have n:(UInt8.ofNat ((i:Int)+1).toNat)=UInt8.ofNat (i+1):=by congr 1
  rw[n]
  refine SG.val rfl rfl rfl rfl (aK rfl (E6 _)) ?_
  repeat (apply au;rfl;(first|apply Ve|apply aB)<;>first|rfl|exact zc)
  refine SG.val rfl rfl rfl rfl (aK rfl (R7 _ _)) ?_
  refine SG.buildSlice rfl rfl rfl rfl (RK _) (fun B L b E p=>?_)
  have I:=d.size
  have J:=b.size
  have g:=wo (iz l i).symm (aV c b)
  refine SG.jN (enc:=acl) (xs:=jA l i) (ys:=[⟨d1 (UInt8.ofNat (i+1)),(x:Int),0⟩]) (base:=w.heap.size) rfl rfl rfl (ag rfl) (ag rfl) rfl rfl rfl rfl bh oM g (gy (enc:=acl) (sz:=10) bh p) (by rw[iz];simp only[maxLen,length_singleton];omega) (by rw[iz];show(i+1)*24<=_;omega) (by omega) (fun A M u h H=>?_)
  rw[<-y,<-Fi,iz] at h
  repeat (first|apply ar|refine us ?_)
  refine NG.round (i+1,A) (aS.of rfl) ⟨f,(d.trans b).aj u (ff g (Nat.le_refl _)),h⟩ (by simp only;omega)
 ·have o:¬(i:Int)<4:=by omega
  have m:i=4:=by omega
  subst m
  repeat (first|apply ar|refine un ?_)
  refine bA rfl ?_
  repeat (first|apply ar|refine ww ?_)
  refine aO (Or.inl rfl) results29 (aD.tmp rfl) ?_
  exact⟨v,rfl,by rw[iz];exact c,d⟩
end
section
variable{b:Bd}{l:List Nat}{bw n:Nat}{w:World}
structure Wl where
 c:Cm
 nb:dW
 vN:Value
 pm:Nat
 vs:Value
 ss:List Tm
 vb:Value
 bs:List Bm
def Hq(q:Wl):List Value:=[.pointer (some ⟨q.c.cb,0,none⟩),.pointer (some ⟨q.c.vb,0,none⟩),q.vs,q.vb]
structure dF(w:World)(n:Nat)(tot:Int)(bw:Nat)(q:Wl):Prop where
 blk:aG w bw (.cells (Hq q).toArray 44)
 ch:cS w n [q.c.tm,q.c.nm,q.pm] tot q.c
 nb:dw w n q.c.vb q.pm q.vN q.nb
 sg:w.ownsRow n 52 13 q.vs q.ss.length (bX bV q.ss)
 si:∀x∈q.ss,x.In n w
 bl:w.ownsRow n 50 18 q.vb q.bs.length (bX cR q.bs)
 bi:∀x∈q.bs,x.In n w
 sn:∀p∈q.c.ns,p.2.2.x.xs≠[]->∀b off,p.2.2.x.a=some ⟨b,off,none⟩->b∉aR q.vs
 sb:∀x∈q.bs,x.xs≠[]->∀b off,x.a=some ⟨b,off,none⟩->b∉aR q.vs
 pn:q.pm≠q.c.tm/\q.pm≠q.c.nm
 bn:n<=bw
theorem dF.az{c:World}{tot:Int}{q:Wl}(h:dF w n tot bw q)(a:Kp [] w c):dF c n tot bw q:=
 ⟨h.blk.az a,h.ch.az a,h.nb.az a,aV h.sg a,fun x b=>(h.si x b).az a,aV h.bl a,fun x b=>(h.bi x b).az a,h.sn,h.sb,h.pn,h.bn⟩
theorem cP{q:Wl}(h:aG w bw (.cells (Hq q).toArray 44)):Row w bw 0 [.pointer (some ⟨q.c.cb,0,none⟩)]/\Row w bw 1 [.pointer (some ⟨q.c.vb,0,none⟩)]/\Row w bw 2 [q.vs]/\Row w bw 3 [q.vb]:=
 ⟨Row.of h [] [.pointer (some ⟨q.c.vb,0,none⟩),q.vs,q.vb] rfl rfl,Row.of h [.pointer (some ⟨q.c.cb,0,none⟩)] [q.vs,q.vb] rfl rfl,Row.of h [.pointer (some ⟨q.c.cb,0,none⟩),.pointer (some ⟨q.c.vb,0,none⟩)] [q.vb] rfl rfl,Row.of h [.pointer (some ⟨q.c.cb,0,none⟩),.pointer (some ⟨q.c.vb,0,none⟩),q.vs] [] rfl rfl⟩
theorem Fj(a:∀x∈l,x<65536):jH (jA l 4)=0/\0<=eU (jA l 4)/\eU (jA l 4)<=300000:=by
 have f:=U4.lt a 0
 have g:=U4.lt a 1
 have i:=U4.lt a 2
 have j:=U4.lt a 3
 have e:jA l 4=[⟨d1 1,((l.getD 0 0:Nat):Int),0⟩,⟨d1 2,((l.getD 1 0:Nat):Int),0⟩,⟨d1 3,((l.getD 2 0:Nat):Int),0⟩,⟨d1 4,((l.getD 3 0:Nat):Int),0⟩]:=rfl
 have d:eU (jA l 4)=((l.getD 0 0:Nat):Int)+(((l.getD 1 0:Nat):Int)+(((l.getD 2 0:Nat):Int)+(((l.getD 3 0:Nat):Int)+0))):=by
  rw[e]
  simp[eU]
 have c:∀x∈jA l 4,¬ql x:=fun x b=>by
  rw[e] at b
  simp only[mem_cons,mem_nil_iff,or_false] at b
  unfold ql
  rcases b with rfl|rfl|rfl|rfl<;>simp only<;>omega
 refine⟨?_,by omega,by omega⟩
 unfold jH
 rw[iz,if_neg (by omega)]
 exact wx c (by rw[e];show[d1 1,d1 2,d1 3,d1 4].Nodup;decide) (fun _ _ h=>by cases h) (by omega)
def Kv:Nm:=⟨0,0,0,fun _=>pz,⟨0,zd⟩,none,0,[],il,none,0⟩
def Ry:Cm:=⟨0,0,0,0,0,0,undef,⟨0,0,0⟩,zd,Tr.new zd 0,[],[]⟩
def LL(n:Nat)(b:Bd)(vb pm:Nat)(l:List Ac)(t:Tl):GD:=⟨Cm×Nat×Nm,(Ry,0,Kv),fun x=> .tuple #[.pointer (some ⟨x.1.cb,0,none⟩),.int .i64 0],fun x w=>cS w n [x.1.tm,x.1.nm,pm] (eU l) x.1/\((x.1.bd=b/\x.1.vb=vb/\x.1.first=bF/\x.1.tr=Tr.new bF b.fork.toNat/\x.1.ps=[]/\x.1.pv= .slice none 0 0)/\x.1.ns=[(bF,x.2.1,x.2.2)]/\x.2.2.x=bZ cM/\x.2.2.f=cC (gq [] l)/\x.2.2.t=t/\x.2.2.es=[])/\pm≠x.1.tm/\pm≠x.1.nm⟩
theorem Eu{vb pm:Nat}{l:List Ac}{t:Tl}(x:(LL n b vb pm l t).X):cH [] ((LL n b vb pm l t).phi x):=fun w c a h=>⟨h.1.az a,h.2⟩
structure Fp(b:Bd)(l:List Nat)(q:Wl)(y:Bm):Prop where
 bd:q.c.bd=b
 fst:q.c.first=bF
 tr:q.c.tr=Tr.new bF b.fork.toNat
 ps:q.c.ps=[]
 ns:∃z m,q.c.ns=[(bF,z,m)]/\m.x=bZ cM/\m.f=cC (gq [] (jA l 4))/\m.t=⟨0,zd⟩/\m.es=[]
 nb:q.nb=[]
 ss:q.ss=[]
 bs:q.bs=[y]
 y:y.b=(bZ cM).b
def C9:Tl:=⟨0,zd⟩
theorem KU(w:World):(Instr.build 76 #[]).run prog w= .ok (.agg (Hr C9).toArray) w:=by kernel_rfl
theorem VL(w:World)(cb vb:Nat)(a:Option Addr)(m cc:Nat):(Instr.build 44 #[(0,.pointer (some ⟨cb,0,none⟩)),(1,.pointer (some ⟨vb,0,none⟩)),(3,.slice a m cc)]).run prog w= .ok (.agg #[.pointer (some ⟨cb,0,none⟩),.pointer (some ⟨vb,0,none⟩),.slice none 0 0,.slice a m cc]) w:=by kernel_rfl
theorem R3(w:World)(a0 b d e f g i j k l m o p q r s:UInt8)(h:Int)(a:Option Addr)(n c:Nat):(Instr.buildSlice 42 1 #[(0,.agg #[bv a0,bv b,bv d,bv e,bv f,bv g,bv i,bv j,.int .i64 h,bv k,bv l,bv m,bv o,bv p,bv q,bv r,bv s,.slice a n c])]).run prog w=
  .ok (.slice (some ⟨w.heap.size,0,none⟩) 1 1) {w with heap:=w.heap.push (.cells #[bv a0,bv b,bv d,bv e,bv f,bv g,bv i,bv j,.int .i64 h,bv k,bv l,bv m,bv o,bv p,bv q,bv r,bv s,.slice a n c] 50)}:=by kernel_rfl
theorem R4(y:Bm)(w:World):(Instr.buildSlice 42 1 #[(0,eL y)]).run prog w= .ok (.slice (some ⟨w.heap.size,0,none⟩) 1 1) {w with heap:=w.heap.push (.cells (cR y).toArray 50)}:=by
 obtain⟨⟨v,t⟩,h,⟨x,u⟩,a,c,z⟩:=y
 match v,t,x,u with
 |[b,d,e,f,g,i,j,k],_,[l,m,n,o,p,q,r,s],_=>exact R3 w b d e f g i j k l m n o p q r s h a z.length c
attribute [local irreducible] CG NG SG aP aM Row aG aF aQ bG jH bF
theorem pV(w:World)(hb:zJ b=0)(hf:b.fork<=1000)(U:∀q∈l,q<65536):Calls prog 12 #[yc b,CX l] w (fun e w'=>Kp [] w w'/\∃r aa y,e= .returned (.pointer (some ⟨r,0,none⟩))/\dF w' w.heap.size (eU (jA l 4)) r aa/\Fp b l aa y):=by
 refine bN func12 rfl ntmps12 rfl ?_
 obtain⟨hz,an,ao⟩:=Fj U
 repeat apply ar
 refine SG.box rfl rfl rfl (ag rfl) (fun M w1 af aj E=>?_)
 have E:aG w1 M (.cells (iF b).toArray 31):=E
 refine SG.box rfl rfl rfl (ag rfl) (fun O w2 R ak F=>?_)
 have F:aG w2 O (.cells (yk l).toArray 24):=F
 have k2:=af.trans R
 repeat (first|apply ar|refine wt ?_)
 refine SG.call rfl rfl rfl (vs:=[]) True.intro ((uA w2).mono (fun e L f=>?_))
 obtain⟨k,d,rfl,o,ap,H⟩:=f
 refine⟨_,rfl,?_⟩
 have k3:=k2.trans H
 repeat (first|apply ar|refine qa1 ?_)
 refine bA rfl ?_
 have r2:Row L M 0 (iF b):=Row.all ((E.az R).az H) rfl
 have r3:Row L O 0 (yk l):=Row.all (F.az H) rfl
 have aq:(yk l).length=4:=rfl
 have am:(iF b).length=3:=rfl
 obtain⟨N,P⟩:∃N,N=L.heap.size:=⟨_,rfl⟩
 repeat apply ar
 refine CG.free mixed 13 [0,1,2,3,5,6,7,4,8,9,10,11,12] [(6,gX () N 76 (fun _=>(Hr C9).toArray) (fun _ _=>True)),(4,gS N acl 10 (jA l 4)),(8,LL w.heap.size b k d (jA l 4) C9)] (by kernel_rfl) ?_ ?_
 ·intro aw V
  simp only[mem_cons,mem_nil_iff,or_false] at V
  rcases V with rfl|rfl|rfl
  ·exact AA (fun _ _ _ _ h=>h)
  ·exact AB
  ·exact Eu
 repeat (apply xZ;rfl;rfl;(first|apply vS|apply aB|apply bf)<;>first|rfl|assumption|exact wn)
 refine bG.val rfl rfl rfl rfl (aK rfl KU) ?_
 refine bG.K3 (Y:=Unit) () rfl P rfl rfl rfl rfl rfl (fun _ _ _ _ h=>h) (fun _ _ _=>trivial) (fun q6=>?_)
 repeat (apply xZ;rfl;rfl;apply vS<;>rfl)
 refine bG.mR (jA l 4) rfl rfl rfl rfl (vs:=[CX l]) (bg.of rfl) (Nat.le_of_eq P) (fun W Q _=>(mT W l U).HZ bh) (fun a4 c4=>?_)
 refine bG.xL (vs:=[yc b,.iface 40 (.pointer (some ⟨k,0,none⟩)),.slice a4 (jA l 4).length c4,.iface 74 (.pointer (some ⟨q6.1,0,none⟩))]) (LL w.heap.size b k d (jA l 4) C9) rfl rfl rfl rfl (bg.of rfl) (fun W Q u=>?_) (fun q=>?_)
 ·have h4:=u _ (.head _) (by kernel_rfl)
  have h6:=u _ (.tail _ (.head _)) (by kernel_rfl)
  have s3:=k3.size
  have sW:=Q.size
  refine(B5 (n:=w.heap.size) (by omega) b h4.sl (by rw[iz];omega) h6.1.2).mono (fun e W' f=>?_)
  obtain⟨ah,f⟩:=f
  have ae:oD b (jA l 4)=0:=by
   unfold oD
   rw[if_neg (fun g=>g hb),if_neg (by omega),hz]
  rcases f with⟨g,-⟩|⟨-,c,z,m,he,a,hP,t,i,A,C,v,-,g1,g2⟩
  ·exact absurd ae g
  ·have av:=o.map.lt
   have a:=a [d] (fun q i=>by rw[mem_singleton] at i;omega)
   exact⟨(c,z,m),he,⟨a,⟨hP,t,i,A,C,v⟩,by show d≠c.tm;omega,by show d≠c.nm;omega⟩,ah⟩
 obtain⟨c,z,m⟩:=q
 repeat (apply xZ;rfl;rfl;(first|apply aB|apply aE|apply dd)<;>rfl)
 refine bG.tl (fun w4 B u=>?_)
 have a:=u _ (.head _)
 obtain⟨a,⟨⟨p1,I,p3,J,p5,p6⟩,t,i,A,C,v⟩,X,Z⟩:=a
 simp only at a p1 I p3 J p5 p6 t i A C v X Z
 clear r2 r3
 have k4:=k3.trans B
 have hq:aC c.ns c.tr.tip=some (z,m):=by
  rw[t,J]
  show(if bF=bF then some (z,m) else none)=_
  rw[if_pos rfl]
 repeat (first|apply ar|(apply au;rfl;(first|apply jF|apply aB|apply aE|apply cI|apply du)<;>first|rfl|exact qf))
 refine bA rfl ?_
 repeat (first|apply ar|refine qa0 ?_)
 refine SG.call rfl rfl rfl (vs:=[.pointer (some ⟨c.cb,0,none⟩)]) (bg.of rfl) ((tQ a hq).mono (fun e w5 f=>?_))
 obtain⟨y,hy,rfl,hY,s⟩:=f
 refine⟨_,rfl,?_⟩
 refine SG.buildSlice rfl rfl rfl rfl (R4 y) (fun j w6 S al ab=>?_)
 refine SG.val rfl rfl rfl rfl (aK rfl (fun W=>VL W c.cb k (some ⟨j,0,none⟩) 1 1)) ?_
 refine SG.box rfl rfl rfl (ag rfl) (fun r D T ad G=>?_)
 have G:aG D r (.cells #[.pointer (some ⟨c.cb,0,none⟩),.pointer (some ⟨k,0,none⟩),.slice none 0 0,.slice (some ⟨j,0,none⟩) 1 1] 44):=G
 repeat (first|apply ar|refine wt ?_)
 refine aO (Or.inl rfl) results12 (aD.tmp rfl) ?_
 have k5:=k4.trans s
 have p:=S.trans T
 have k7:=k5.trans p
 have K:=k2.size
 have s5:=k5.size
 have ac:dw D w.heap.size k d (.slice none 0 0) []:=⟨(o.blk.az B).az (s.trans p),c9 (aV o.own (B.trans (s.trans p))) K,(o.map.az B).az (s.trans p),Nat.le_trans K o.bp,Nat.le_trans K o.pp⟩
 have ai:D.ownsRow w.heap.size 50 18 (.slice (some ⟨j,0,none⟩) 1 1) [y].length (bX cR [y]):=by
  have h:=ab.az T
  exact DH aH (l:=[y]) (by rw[ix];exact h) (by omega) rfl (by simp[maxLen])
 refine⟨k7,r,⟨c,[],.slice none 0 0,d,.slice none 0 0,[],.slice (some ⟨j,0,none⟩) 1 1,[y]⟩,y,rfl,?_,⟨p1,p3,J,p5,⟨z,m,t,i,A,C,v⟩,rfl,rfl,rfl,?_⟩⟩
 ·refine⟨?_,a.az (s.trans p),?_,dY,fun q h=>(by cases h),ai,fun q h=>?_,fun _ _ _ _ _ _ h=>(by cases h),fun _ _ _ _ _ _ h=>(by cases h),⟨X,Z⟩,Nat.le_trans s5 (Nat.le_trans S.size ad)⟩
  ·have e:Hq ⟨c,[],.slice none 0 0,d,.slice none 0 0,[],.slice (some ⟨j,0,none⟩) 1 1,[y]⟩=[.pointer (some ⟨c.cb,0,none⟩),.pointer (some ⟨c.vb,0,none⟩),.slice none 0 0,.slice (some ⟨j,0,none⟩) 1 1]:=rfl
   rw[e,I]
   exact G
  ·show dw D w.heap.size c.vb d (.slice none 0 0) []
   rw[I]
   exact ac
  ·rw[mem_singleton] at h
   subst h
   exact(hY.az p).mono (Nat.zero_le _)
 ·rw[hy]
  show m.x.b=_
  rw[i]
end
section
section
variable {P:Program} {n:Nat} {ops:List Oper} {Q:Exit->Act->World->Prop} {S:List Nat×Nat} {w0:World} {L:Env} {G:List (Nat×GD)} {K:Env->List Fact->Prop} {Γ:List Fact} {i:Nat} {ord:List Nat} {ty:TypeId} {pos:String} {af:Array Edge} {g:Option (Nat×Bool)}
theorem bG.ui{m b:Nat}{T:TypeId}{e:TypeInfo}[f:dJ P T e]{a x:Operand}{l:List Value}(E:fc G i=some (gP m T))
  (N:ops[i]?=some ⟨none,.store T a x,ty,pos,af,g⟩) (W:want ops L ⟨none,.store T a x,ty,pos,af,g⟩=some true) (H:(known L a&&known L x)=true) (C:Γ.all (fun p=>kR ops i p.1)=true)
  (R:bH L a= .pointer (some ⟨b,0,none⟩)) (Y:bH L x= .agg l.toArray) (J:l.length=e.size) (hm:w0.heap.size<=m)
  (A:∀w,Kp S.1 w0 w->fS ops i Γ w->(m<=b/\∃c,aG w b (.cells c T)/\c.size=e.size)/\bI l=true)
  (I:∀p∈G,p.1≠i->∀y w o c,m<=b->aG w b (.cells c T)->c.size=e.size->Kp [b] w o->aG o b (.cells l.toArray T)->p.2.phi y w->p.2.phi y o)
  (h:bG P S w0 ops G K ord L ((i,fun w=>m<=b/\aG w b (.cells l.toArray T))::Γ)):bG P S w0 ops G K (i::ord) L Γ:=by
 refine bG.KO (gP m T) (b,l.toArray) E N W (by simpa[Op.operands] using H) C (fun w u z=>?_) h
 obtain⟨⟨r,c,d,t⟩,O⟩:=A w u z
 unfold bD
 have V:(jT c.toList 0 (Value.agg l.toArray).cells.toList)=l:=by
  simp only[Value.cells]
  exact zY (by simp;omega)
 have U:(execOp (bH L) ⟨none,.store T a x,ty,pos,af,g⟩).run P w= .ok .skip {w with heap:=w.heap.setIfInBounds b (.cells l.toArray T)}:=by
  have:=fO (P:=P) (f:=f) (off:=0) (v:= .agg l.toArray) d (by simpa[Value.cells] using J) (by simp[Value.cells];omega) (by simpa[Value.cells] using O)
  rw[V] at this
  simp only[execOp,Y,R,Sem.run_bind,this,Result.andThen,Sem.run_pure]
 rw[U]
 have s:=Kp.set w (o':= .cells l.toArray T) d rfl rfl
 exact⟨rfl,⟨r,d.set _⟩,fun X B=>B.aj s (aW (by omega)),fun j y F k=>pj (q:=fun D=>∀y,D.phi y w->D.phi y _) (fun _ _=>trivial) (fun p k M y Z=>I p k M y w _ c r d t s (d.set _) Z) j F y k⟩
end
section
variable {P:Program} {S:List Nat} {w0:World} {F:World->Prop} {L:Env} {d:Option Nat} {ty:TypeId} {pos:String} {af:Array Edge} {g:Option (Nat×Bool)}
end
end
section
variable{cs:Array Value}{z:Int}{S:List Nat}{xs':List Value}{b base base' bb n n' n0 pm sz':Nat}{t:Tx}{T:TypeId}{v v':Value}{w w':World}{m nb:dW}
structure Ax where
 dO:UInt8
 who:UInt8
 non:Int
 fee:Int
 kind:Int
 ba:Option Addr
 bc:Nat
 body:List UInt8
 bad:Bool
 wh:UInt8
 la:Option Addr
 lc:Nat
 lv:List UInt8
def tX(a:Ax):List Value:=[bv a.dO,bv a.who,.int .i64 a.non,.int .i64 a.fee,.int .i64 a.kind,.slice a.ba a.body.length a.bc,.bool a.bad,bv a.wh,.slice a.la a.lv.length a.lc]
def Jx(a:Ax):Value:= .agg (tX a).toArray
structure Ax.In(a:Ax)(n:Nat)(w:World):Prop where
 b:Bs w a.ba a.bc a.body
 bn:a.body≠[]->∀b off,a.ba=some ⟨b,off,none⟩->b<n
 l:Bs w a.la a.lc a.lv
 ln:a.lv≠[]->∀b off,a.la=some ⟨b,off,none⟩->b<n
 lb:a.body.length<=a.bc
 ll:a.lv.length<=a.lc
 l2:a.lv.length<=10000000
theorem Ax.In.az{a:Ax}(h:a.In n w)(c:Kp [] w w'):a.In n w':=⟨h.b.az c,h.bn,h.l.az c,h.ln,h.lb,h.ll,h.l2⟩
theorem eQ{a:Ax}(h:aG w b (.cells (tX a).toArray T)):Row w b 0 (tX a)/\Row w b 0 [bv a.dO]/\Row w b 1 [bv a.who]/\Row w b 2 [.int .i64 a.non]/\Row w b 3 [.int .i64 a.fee]/\Row w b 4 [.int .i64 a.kind]/\Row w b 5 [.slice a.ba a.body.length a.bc]/\Row w b 6 [.bool a.bad]/\Row w b 7 [bv a.wh]/\Row w b 8 [.slice a.la a.lv.length a.lc]:=by
 have c:Row w b 0 (tX a):=Row.all h rfl
 have p:∀(pre l post:List Value),tX a=pre++(l++post)->Row w b pre.length l:=fun pre l post e=>by
  have:=c.part pre l post e
  rwa [Nat.zero_add] at this
 exact⟨c,p [] [bv a.dO] _ rfl,p [bv a.dO] [bv a.who] _ rfl,p [bv a.dO,bv a.who] [.int .i64 a.non] _ rfl,p [bv a.dO,bv a.who,.int .i64 a.non] [.int .i64 a.fee] _ rfl,p [bv a.dO,bv a.who,.int .i64 a.non,.int .i64 a.fee] [.int .i64 a.kind] _ rfl,p [bv a.dO,bv a.who,.int .i64 a.non,.int .i64 a.fee,.int .i64 a.kind] [.slice a.ba a.body.length a.bc] _ rfl,p [bv a.dO,bv a.who,.int .i64 a.non,.int .i64 a.fee,.int .i64 a.kind,.slice a.ba a.body.length a.bc] [.bool a.bad] _ rfl,p [bv a.dO,bv a.who,.int .i64 a.non,.int .i64 a.fee,.int .i64 a.kind,.slice a.ba a.body.length a.bc,.bool a.bad] [bv a.wh] _ rfl,p [bv a.dO,bv a.who,.int .i64 a.non,.int .i64 a.fee,.int .i64 a.kind,.slice a.ba a.body.length a.bc,.bool a.bad,bv a.wh] [.slice a.la a.lv.length a.lc] [] rfl⟩
def FB(t:Tx)(z:Int)(n0 base bb pm:Nat)(v:Value)(nb:dW):GD:=⟨Tm×Value,(A4,undef),fun x=> .tuple #[eG x.1,.int .i64 z],fun x w=>((x.1.t=t/\(x.1.t.body≠[]->∀b off,x.1.a1=some ⟨b,off,none⟩->b∉aR x.1.s))/\∀g,x.2.ownBlock=some g->v.ownBlock=some g\/n0<=g)/\x.1.In 0 w/\dw w base bb pm x.2 nb/\w.ownsRow n0 5 1 x.1.s x.1.t.sig.length (bX iE x.1.t.sig)⟩
theorem xv(x:(FB t z n0 base bb pm v nb).X):cH [] ((FB t z n0 base bb pm v nb).phi x):=fun w b a h=>⟨h.1,h.2.1.az a,h.2.2.1.az a,aV h.2.2.2 a⟩
theorem xw(a:aG w b (.cells cs 52))(c:Kp [b] w w')(x:(FB t z n0 base bb pm v nb).X)(h:(FB t z n0 base bb pm v nb).phi x w):(FB t z n0 base bb pm v nb).phi x w':=⟨h.1,h.2.1.iD c (rh a (by decide)),h.2.2.1.Fz c a (by decide) (by decide),dM h.2.2.2 c (cF h.2.2.2 (by decide) a)⟩
theorem HK{m k:Nat}(e:∀x∈S,x<m)(f:Kp S w w')(x:(gV m T k).X)(h:(gV m T k).phi x w):(gV m T k).phi x w':=by
 obtain⟨b,a,c,d⟩:=h
 exact⟨b,a,c.kp f (fun g=>by have:=e _ g;omega),d⟩
theorem HL{m:Nat}(a:∀x∈S,x<m)(b:Kp S w w')(x:(gP m T).X)(h:(gP m T).phi x w):(gP m T).phi x w':=⟨h.1,h.2.kp b (fun c=>by have d:=a _ c;have e:m<=x.1:=h.1;omega)⟩
theorem Bs.take{a:Option Addr}{c:Nat}{l:List UInt8}(h:Bs w a c l)(j:Nat):Bs w a c (l.take j):=by
 refine⟨h.sl.take j,Nat.le_trans (length_take_le' j l) h.len,?_,fun f b g e=>h.lt (fun d=>f (by rw[d,take_nil])) b g e⟩
 rcases h.some with⟨rfl,h2⟩|h2|⟨rfl,h2⟩
 ·exact Or.inl ⟨take_nil,h2⟩
 ·exact Or.inr (Or.inl h2)
 ·exact Or.inr (Or.inr ⟨take_nil,h2⟩)
def qm(m m':dW):Prop:=∀t,eJ m t=0->eJ m' t=0
theorem qm.refl(m:dW):qm m m:=fun _ h=>h
theorem so{a b:Type}[DecidableEq a]{k:a}{v:b}:∀{m l:List (a×b)},aC m k=some v->aC (m++l) k=some v
 |(x,y)::m,l,h=>by
  have h:(if x=k then some y else aC m k)=some v:=h
  show(if x=k then some y else aC (m++l) k)=some v
  by_cases e:x=k
  ·rw[if_pos e] at h⊢
   exact h
  ·rw[if_neg e] at h⊢
   exact so h
theorem Di(m:dW)(k d:Dg):qm m (gR m k d):=fun t h=>by
 unfold gR
 cases hk:aC m (k,d) with
 |some _=>exact h
 |none=>
  show eJ (if 65536<=m.length then m else m++[((k,d),m.length)]) t=0
  by_cases b:65536<=m.length
  ·rw[if_pos b];exact h
  ·rw[if_neg b]
   unfold eJ at h⊢
   by_cases c:bu t≠0
   ·rw[if_pos c] at h⊢;exact h
   ·rw[if_neg c] at h⊢
    by_cases a:mZ m t.frm (de t) t.sig=true
    ·rw[if_pos]
     unfold mZ at a⊢
     cases ha:aC m (t.frm,de t) with
     |none=>rw[ha] at a;simp at a
     |some i=>rw[ha] at a;rw[so ha];exact a
    ·rw[if_neg a] at h;cases h
theorem H8(m:dW)(t:Tx)(k:Dg):qm m (jU m t k).2.2:=by
 unfold jU
 by_cases h:bu (kX t k)≠0
 ·rw[if_pos h]
  exact qm.refl m
 ·rw[if_neg h]
  cases gU m k (de (kX t k)) with
  |none=>exact qm.refl m
  |some i=>exact Di _ _ _
def Sb(w:World)(n bb pm:Nat)(v:Value)(m:dW)(e:Ending)(w':World):Prop:=
 ∃(y:Tm) (v':Value) (nb':dW),e= .returned (eG y)/\y.In n w'/\dw w' n bb pm v' nb'/\Kp (bb::pm::aR v) w w'/\(∀g,v'.ownBlock=some g->v.ownBlock=some g\/w.heap.size<=g)/\(nb'.length<=m.length+1/\qm m nb')
theorem RD(w:World)(a b c:Int)(p:Option Addr)(m cc:Nat):(Instr.build 52 #[(1,.int .i64 a),(2,.int .i64 b),(3,.int .i64 c),(4,.slice p m cc)]).run prog w= .ok (.agg (dc zd++[Value.int .i64 a,Value.int .i64 b,Value.int .i64 c,Value.slice p m cc,Value.slice none 0 0]).toArray) w:=by kernel_rfl
theorem dw.Kw(h:dw w base bb pm v m)(c:aG w b (.cells cs T))(d:T≠162)(e:T≠341):b∉bb::pm::aR v:=fun a=>by
 rcases mem_cons.1 a with rfl|a
 ·have:=aG.uniq c h.blk
  simp only[Obj.cells.injEq] at this
  exact d this.2.1
 rcases mem_cons.1 a with rfl|a
 ·exact cJ c h.map rfl
 ·exact cF h.own e c _ (aL a) (mem_singleton.2 rfl)
theorem dw.Qy(h:dw w base bb pm v m):dD base w (bb::pm::aR v):=by
 refine dD.cons h.bp (dD.cells h.blk (by decide)) (dD.cons h.pp (fun b f e=>?_) (dD.own h.own (Nat.le_refl _) (by decide)))
 obtain⟨d,c,a,-⟩:=h.map
 have:=aG.uniq a e
 cases this
theorem Im{sz:Nat}{T':TypeId}{xs:List Value}(h:w.ownsRow base T sz v n xs)(c:w.ownsRow base' T' sz' v' n' xs')(d:T≠T'):∀b,v.ownBlock=some b->b∉aR v':=fun b a e=>by
 rcases h.2 with⟨rfl,_⟩|⟨g,cap,cur,rfl,_,hg,_⟩
 ·cases a
 ·cases a
  exact cF c d hg _ (aL e) (mem_singleton.2 rfl)
theorem dw.Vm(h:dw w base bb pm v m)(b:w.ownsRow base' T sz' v' n' xs')(c:T≠162)(d:T≠341)(a:Kp (aR v') w w'):dw w' base bb pm v m:=
 ⟨h.blk.kp a (fun f=>cF b (fun e=>c e.symm) h.blk _ (aL f) (mem_singleton.2 rfl)),dM h.own a (Im h.own b (fun e=>d e.symm)),h.map.kp a (qw b h.map),h.bp,h.pp⟩
theorem F1(m:dW)(t:Tx)(k:Dg):(jU m t k).2.1.sig.length<=2:=by
 unfold jU
 by_cases h:bu (kX t k)≠0
 ·rw[if_pos h]
  show[].length<=2
  decide
 ·rw[if_neg h]
  cases gU m k (de (kX t k)) with
  |none=>show[].length<=2;decide
  |some i=>show(ja i).length<=2;simp[ja]
theorem A9(m:dW)(k d:Dg):(gR m k d).length<=m.length+1:=by
 unfold gR
 cases aC m (k,d) with
 |some _=>exact Nat.le_succ _
 |none=>
  by_cases h:65536<=m.length
  ·show(if 65536<=m.length then m else _).length<=_
   rw[if_pos h]
   exact Nat.le_succ _
  ·show(if 65536<=m.length then m else _).length<=_
   rw[if_neg h,length_append]
   exact Nat.le_refl _
theorem F2(m:dW)(t:Tx)(k:Dg):(jU m t k).2.2.length<=m.length+1:=by
 unfold jU
 by_cases h:bu (kX t k)≠0
 ·rw[if_pos h]
  exact Nat.le_succ _
 ·rw[if_neg h]
  cases gU m k (de (kX t k)) with
  |none=>exact Nat.le_succ _
  |some i=>exact A9 _ _ _
theorem RN(w:World):(Instr.buildSlice 33 1 #[(0,.int .u8 1)]).run prog w= .ok (.slice (some ⟨w.heap.size,0,none⟩) 1 1) {w with heap:=w.heap.push (.cells #[bv 1] 5)}:=by kernel_rfl
theorem DC(d:Dg)(n:Int):(js d n).length<=100:=by
 have a:=cm (num d)
 have b:=cm (dE n)
 unfold js
 rw[length_append]
 omega
attribute [local irreducible] CG NG SG aP aM Row aG aF aQ bG num dy dH cV cL sF cU bu dX mB eK de js jU
theorem DK{bw:Nat}{tot:Int}{q:Wl}(h:dF w n tot bw q)(hn:n<=w.heap.size)(b1:q.nb.length<=60000){a:Ax}(ha:a.In n w)(bT:a.body.length<=10000000):
  Calls prog 43 #[.pointer (some ⟨bw,0,none⟩),Jx a] w (Sb w n q.c.vb q.pm q.vN q.nb):=by
 refine bN func43 rfl ntmps43 rfl ?_
 repeat apply ar
 refine SG.box rfl rfl rfl (ag rfl) (fun H w1 a7 bJ p=>?_)
 have p:aG w1 H (.cells (tX a).toArray 35):=p
 refine SG.alloc rfl rfl rfl (fun D w2 aw bK v=>?_)
 have k2:=a7.trans aw
 have p:=p.az aw
 have b3:=p.lt
 have s1:=a7.size
 have cd:=aw.size
 obtain⟨-,-,r1,r2,r3,r4,r5,r6,-⟩:=eQ p
 have b0:=ha.lb
 obtain⟨k,A,bU⟩:∃k:Nat,(if(20:Int)<(a.body.length:Int) then(20:Int) else(a.body.length:Int))=(k:Int)/\k<=a.body.length:=by
  by_cases h:(20:Int)<(a.body.length:Int)
  ·exact⟨20,by rw[if_pos h];rfl,by omega⟩
  ·exact⟨a.body.length,by rw[if_neg h],Nat.le_refl _⟩
 repeat apply ar
 refine CG.fA mixed [0,1,2,3,4,5,6,7,8,9,10,11,12,13] [(14,15,5,.tmp 23)] (by kernel_rfl) (by kernel_rfl) ?_
 repeat (apply bW;rfl;rfl;(first|apply Qu|apply aZ|apply aU|apply dg|apply Lv)<;>first|rfl|exact zc|assumption|exact wn)
 refine aM.val rfl rfl rfl (aK rfl (fun W=>RD W a.non a.fee a.kind a.ba k a.bc)) ?_
 refine aM.one (fq.of (by rfl) rfl rfl rfl (ag rfl) (by rfl) (by rfl) (by rfl)) (fun m G ah bL o=>?_)
 obtain⟨d,bb⟩:∃d:Tm,d=⟨⟨zd,a.non,a.fee,a.kind,a.body.take k,[]⟩,a.ba,a.bc,none,0⟩:=⟨_,rfl⟩
 have bk:(a.body.take k).length=k:=by rw[length_take];omega
 have o:aG G m (.cells (bV d).toArray 52):=by
  have e:bV d=dc zd++[Value.int .i64 a.non,Value.int .i64 a.fee,Value.int .i64 a.kind,Value.slice a.ba k a.bc,Value.slice none 0 0]:=by
   rw[bb]
   simp only[bV,Tm.b,Tm.s,bk]
   rfl
  rw[e]
  exact o
 have k3:=k2.trans ah
 have aP:d.In n G:=by
  rw[bb]
  have bt:Tb n G a.ba (a.body.take k):=by
   by_cases h0:a.body.take k=[]
   ·exact Or.inl (fun h=>absurd h0 h)
   ·exact Or.inr (ha.bn (fun h=>h0 (by rw[h,take_nil])))
  exact⟨(ha.b.az k3).take k,Bs.nil,bt,Or.inl (fun h=>absurd rfl h),by show(a.body.take k).length<=_;omega,by show 0<=_;omega⟩
 have p:=p.az ah
 clear r1 r2 r3 r4 r5 r6
 have b4:H<G.heap.size:=p.lt
 have s2:=k2.size
 have s3:=ah.size
 have b6:m<G.heap.size:=o.lt
 refine NG.next ?_
 refine CG.uj (fun L i=>∃f:Tm,aS [(0,.pointer (some ⟨bw,0,none⟩)),(3,.pointer (some ⟨H,0,none⟩)),(4,.pointer (some ⟨D,0,none⟩)),(5,.pointer (some ⟨m,0,none⟩))] L/\aG i m (.cells (bV f).toArray 52)/\f.In n i/\Kp [] w i/\Kp [m] G i) ?_ ?_
 ·obtain⟨-,-,-,-,-,q4,-⟩:=eQ p
  obtain⟨-,-,-,-,-,q5,-⟩:=aX o
  by_cases r:a.kind=0
  rotate_left
  ·repeat (first|apply ar|(apply au;rfl;(first|apply aZ|apply aU|apply fE)<;>first|rfl|assumption|exact qr|exact wn))
   refine bA rfl ?_
   repeat apply ar
   exact NG.cut ⟨d,by(repeat' (first|exact True.intro|exact rfl|refine And.intro ?_ ?_)),o,aP,k3,Kp.refl _ _⟩
  have a5:=aP.b.sl
  repeat (first|apply ar|(apply au;rfl;(first|apply aZ|apply aU|apply fE)<;>first|rfl|assumption|exact qf|exact wn))
  refine bO rfl ?_
  repeat (first|apply ar|(apply au;rfl;(first|apply aE|apply aZ|apply aU|apply dg|apply ij)<;>first|rfl|assumption|exact wn|exact B4))
  refine CG.jK (fun L i=>i=G/\∃z:Int,aS [(0,.pointer (some ⟨bw,0,none⟩)),(3,.pointer (some ⟨H,0,none⟩)),(4,.pointer (some ⟨D,0,none⟩)),(5,.pointer (some ⟨m,0,none⟩)),(6,.int .i64 z)] L) ?_ ?_
  ·by_cases J:1<d.t.body.length
   ·have K:(1:Int)<(d.t.body.length:Int):=by omega
    refine CG.ju rfl (ag rfl) (decide_eq_true K) ?_
    obtain⟨V,o',e',F⟩:=a5 1 _ (getElem?_eq_getElem J)
    have q6:Row G m 11 [.slice (some ⟨V,o',none⟩) d.t.body.length d.c1]:=by rw[<-e'];exact q5
    have F:Row G V (o'+(1:Int).toNat*1) [bv d.t.body[1]]:=F
    clear q5
    repeat (first|apply ar|(apply au;rfl;(first|apply Fw|apply aE|apply aZ|apply aU|apply Du)<;>first|rfl|exact zc|assumption|exact wn))
    exact NG.cut ⟨rfl,_,by(repeat' (first|exact True.intro|exact rfl|refine And.intro ?_ ?_))⟩
   ·have K:¬(1:Int)<(d.t.body.length:Int):=by omega
    refine CG.jv rfl (ag rfl) (decide_eq_false K) ?_
    repeat apply ar
    exact NG.cut ⟨rfl,_,by(repeat' (first|exact True.intro|exact rfl|refine And.intro ?_ ?_))⟩
  rintro L i ⟨rfl,z,M⟩
  refine CG.to _ M ?_
  repeat (first|apply ar|(apply au;rfl;(first|apply aE|apply aZ|apply aU|apply dg|apply ij)<;>first|rfl|assumption|exact wn|exact B4))
  refine CG.jK (fun L bh=>bh=i/\∃y:UInt8,aS [(0,.pointer (some ⟨bw,0,none⟩)),(3,.pointer (some ⟨H,0,none⟩)),(4,.pointer (some ⟨D,0,none⟩)),(5,.pointer (some ⟨m,0,none⟩)),(6,.int .i64 z),(7,bv y)] L) ?_ ?_
  ·by_cases J:0<d.t.body.length
   ·have K:(0:Int)<(d.t.body.length:Int):=by omega
    refine CG.ju rfl (ag rfl) (decide_eq_true K) ?_
    obtain⟨V,o',e',F⟩:=a5 0 _ (getElem?_eq_getElem J)
    have q6:Row i m 11 [.slice (some ⟨V,o',none⟩) d.t.body.length d.c1]:=by rw[<-e'];exact q5
    have F:Row i V (o'+(0:Int).toNat*1) [bv d.t.body[0]]:=F
    clear q5
    repeat (first|apply ar|(apply au;rfl;(first|apply Fv|apply aE|apply aZ|apply aU|apply Du)<;>first|rfl|exact zc|assumption|exact wn))
    exact NG.cut ⟨rfl,_,by(repeat' (first|exact True.intro|exact rfl|refine And.intro ?_ ?_))⟩
   ·have K:¬(0:Int)<(d.t.body.length:Int):=by omega
    refine CG.jv rfl (ag rfl) (decide_eq_false K) ?_
    repeat apply ar
    exact NG.cut ⟨rfl,0,by(repeat' (first|exact True.intro|exact rfl|refine And.intro ?_ ?_))⟩
  rintro L bh ⟨rfl,y,M⟩
  refine CG.to _ M ?_
  repeat (first|apply ar|refine qa0 ?_)
  refine SG.val rfl rfl rfl rfl (aK rfl (E6 _)) ?_
  repeat refine qa0 ?_
  refine SG.call rfl rfl rfl (vs:=[dv (d1 y),.int .i64 z]) (bg.of rfl) ((qY (d1 y) z _).mono (fun e U hh=>?_))
  obtain⟨v3,he,aF,al⟩:=hh
  refine⟨_,he,?_⟩
  clear he q4 q5
  have b9:=DC (d1 y) z
  obtain⟨a3,c3,rfl,br⟩:=Bs.own aF
  have t3:Ty 5 U a3 (js (d1 y) z):=Ty.own aF
  have X:∀C O,a3=some ⟨C,O,none⟩->_<=C:=fY aF
  have o:=o.az al
  repeat (apply au;rfl;apply aU<;>rfl)
  refine SG.cp (dc d.t.frm++[.int .i64 d.t.non,.int .i64 d.t.fee,.int .i64 d.t.kind]) [.slice d.a1 d.t.body.length d.c1] [.slice d.a2 d.t.sig.length d.c2] rfl rfl (ag rfl) (ag rfl) o (by rw[toList_toArray];exact nJ d.t d.a1 d.a2 d.c1 d.c2) rfl rfl (zW d.t) rfl (fun W4 ab o=>?_)
  have o:aG W4 m (.cells (bV ⟨{d.t with body:=js (d1 y) z},a3,c3,d.a2,d.c2⟩).toArray 52):=by rw[nJ];exact o
  repeat apply ar
  have aQ:=(aP.az al).iD ab (dD.cons (Nat.le_trans hn (by omega)) (dD.cells (‹aG U m (.cells (bV d).toArray 52)›:aG U m (.cells (bV d).toArray 52)) (by decide)) dD.nil)
  exact NG.cut ⟨_,by(repeat' (first|exact True.intro|exact rfl|refine And.intro ?_ ?_)),o,⟨br.kp ab (fun C O e=>bQ (by have:=X C O e;omega)),aQ.s,Or.inl (t3.kp ab (fun _ C O e=>bQ (by have:=X C O e;omega))),aQ.t2,by show(js (d1 y) z).length<=_;omega,aQ.l2⟩,(k3.trans al).aj ab (aW (by omega)),al.any.trans ab⟩
 rintro L u ⟨f,M,ap,bd,k5,aY⟩
 refine CG.to [(0,.pointer (some ⟨bw,0,none⟩)),(3,.pointer (some ⟨H,0,none⟩)),(4,.pointer (some ⟨D,0,none⟩)),(5,.pointer (some ⟨m,0,none⟩))] M ?_
 have s5:=aY.size
 have aJ:=h.az k5
 obtain⟨-,T,-,-⟩:=cP aJ.blk
 have an:aG u H (.cells (tX a).toArray 35):=p.kp aY (bQ (by omega))
 obtain⟨-,-,z2,-⟩:=eQ an
 obtain⟨z3,-⟩:=aX ap
 have E:=aJ.nb
 have bE:=E.blk.lt
 have lm:=E.map.lt
 have lo:=cK E.own
 have hS:∀a0∈q.c.vb::q.pm::aR q.vN,a0<u.heap.size:=fun a0 hx=>by
  rcases mem_cons.1 hx with rfl|hx
  ·exact bE
  rcases mem_cons.1 hx with rfl|hx
  ·exact lm
  exact lo a0 (aL hx)
 obtain⟨W,hW⟩:∃W:UInt8,W=1+a.who%4:=⟨_,rfl⟩
 refine CG.seq ?_
 refine CG.Ev mixed (q.c.vb::q.pm::aR q.vN,11) 17 [0,1,2,3,4,5,6,7,8,9,10,11,12,13,14,15,16] [(11,FB (jU q.nb f.t (d1 W)).2.1 (jU q.nb f.t (d1 W)).1 u.heap.size n q.c.vb q.pm q.vN (jU q.nb f.t (d1 W)).2.2),(15,gV u.heap.size 52 13),(16,gP u.heap.size 52)] (by kernel_rfl) ?_ ?_
 ·intro be B
  simp only[mem_cons,mem_nil_iff,or_false] at B
  rcases B with rfl|rfl|rfl
  ·exact xv
  ·exact qB
  ·exact qD
 have bI:=E.Kw ap (by decide) (by decide)
 have bF:=E.Kw an (by decide) (by decide)
 have cb:=E.Kw aJ.blk (by decide) (by decide)
 repeat (apply xZ;rfl;rfl;(first|apply Fv|apply LB|apply aB|apply aZ|apply bf|apply aU|apply bR)<;>first|rfl|exact zc|assumption|apply ay)
 refine bG.val rfl rfl rfl rfl (aK rfl (fun W'=>E6 _ W')) ?_
 rw[show UInt8.ofNat (1:Int).toNat+a.who%UInt8.ofNat (4:Int).toNat=W from hW.symm]
 skip
 refine bG.call rfl rfl rfl rfl (vs:=[.pointer (some ⟨q.c.vb,0,none⟩),dv (d1 W)]) (bg.of rfl) (fun W' _ _=>pM q.c.vb (d1 W) W') ?_
 skip
 refine bG.HQ (vs:=[eG f,.iface 197 (FI q.c.vb (d1 W))]) (FB (jU q.nb f.t (d1 W)).2.1 (jU q.nb f.t (d1 W)).1 u.heap.size n q.c.vb q.pm q.vN (jU q.nb f.t (d1 W)).2.2) rfl rfl rfl rfl rfl (bg.of rfl) (fun W' A _=>(qP (E.az A) (Nat.le_trans hn (Nat.le_trans k5.size A.size)) (by omega) (bd.az A) (d1 W)).mono (fun e W2 hh=>?_)) ?_ (fun y=>?_)
 ·obtain⟨y,R,he,J,h2,h3,h4,h5,h6,h7⟩:=hh
  exact⟨(y,R),he,⟨⟨⟨J,h7⟩,fun g hg=>(h5 g hg).elim Or.inl (fun h=>Or.inr (Nat.le_trans A.size h))⟩,h2,h3,c9 h6 A.size⟩,h4⟩
 ·intro bD hj U W2 y A B
  refine pj (q:=fun a4=>∀y,a4.phi y U->a4.phi y W2) (fun _ _=>trivial) (fun be B aC y hy=>?_) bD hj y B
  simp only[mem_cons,mem_nil_iff,or_false] at B
  rcases B with rfl|rfl|rfl
  ·exact absurd rfl aC
  ·exact HK hS A y hy
  ·exact HL hS A y hy
 repeat (apply xZ;rfl;rfl;(first|apply aB|apply dd)<;>rfl)
 refine bG.uX rfl rfl rfl rfl rfl (Nat.le_refl _) (fun I=>?_)
 refine bG.ui (l:=bV y.1) rfl rfl rfl rfl (by kernel_rfl) (ag rfl) (ag rfl) (ay _) (Nat.le_refl _) (fun W A Z=>⟨Z _ (.head _) (by kernel_rfl),bY _⟩) ?_ ?_
 ·intro be B aC y w i cs g0 g1 g2 X g4 g5
  simp only[mem_cons,not_mem_nil,or_false] at B
  rcases B with rfl|rfl|rfl
  ·exact xw g1 X y g5
  ·exact qC (ay _) X g4 g5
  ·exact absurd rfl aC
 refine bG.tl (fun S Q Z=>?_)
 obtain⟨b8,Y⟩:u.heap.size<=I/\aG S I (.cells (bV y.1).toArray 52):=Z _ (.head _)
 obtain⟨⟨⟨hy,aT⟩,hg⟩,ad,aa,am⟩:((y.1.t=(jU q.nb f.t (d1 W)).2.1/\(y.1.t.body≠[]->∀C O,y.1.a1=some ⟨C,O,none⟩->C∉aR y.1.s))/\∀g,y.2.ownBlock=some g->q.vN.ownBlock=some g\/u.heap.size<=g)/\y.1.In 0 S/\dw S n q.c.vb q.pm y.2 (jU q.nb f.t (d1 W)).2.2/\S.ownsRow u.heap.size 5 1 y.1.s y.1.t.sig.length (bX iE y.1.t.sig):=Z _ (.tail _ (.tail _ (.head _)))
 obtain⟨y,R⟩:=y
 simp only at Y hy aT hg ad aa am
 clear Z T z2 z3
 have s6:=Q.size
 have cc:=k5.size
 have b5:=v.lt
 have v:aG u D (.cells (bV A4).toArray 52):=(v.az ah).kp aY (bQ (by omega))
 have bH:=E.Kw v (by decide) (by decide)
 have v:=v.kp Q bH
 have bo:=ap.kp Q bI
 have bl:=an.kp Q bF
 have a6:∀g,R.ownBlock=some g->q.vN.ownBlock=some g\/w.heap.size<=g:=fun g h=>(hg g h).imp id (fun h=>Nat.le_trans k5.size h)
 obtain⟨z,r⟩:∃z,(jU q.nb f.t (d1 W)).1=z:=⟨_,rfl⟩
 rw[r]
 obtain⟨N,a8⟩:∃N,(jU q.nb f.t (d1 W)).2.2=N:=⟨_,rfl⟩
 have a9:N.length<=q.nb.length+1/\qm q.nb N:=by rw[<-a8];exact⟨F2 _ _ _,H8 _ _ _⟩
 rw[a8] at aa
 have k6:=k5.any.trans Q
 obtain⟨T,-⟩:=aX bo
 have bx:=bd.iD Q E.Qy
 by_cases bC:z=0
 rotate_left
 ·repeat (first|apply ar|refine vr ?_)
  refine bO rfl ?_
  repeat (first|apply ar|refine qa2 ?_)
  refine SG.aN (l:=bV f) rfl rfl (ag rfl) (ag rfl) v (ay _) rfl (bY _) (fun w7 j aq=>?_)
  have F:Row w7 D 0 (bV f):=Row.all aq rfl
  clear T
  repeat apply ar
  refine aO (Or.inl rfl) results43 (aD.agg rfl rfl F (ay _)) ?_
  exact⟨f,R,N,rfl,bx.iD j (dD.cons (by omega) (dD.cells v (by decide)) dD.nil),aa.Fz j v (by decide) (by decide),k6.aj j (aW (by omega)),a6,a9⟩
 subst bC
 clear T
 obtain⟨-,-,-,-,-,-,z6,-⟩:_/\_/\_/\_/\_/\_/\Row S H 6 [.bool a.bad]/\_:=by
  obtain⟨J,h2,h3,h4,h5,h6,h7,h8,h9⟩:=eQ bl
  exact⟨J,h2,h3,h4,h5,h6,h8,h9⟩
 repeat (first|apply ar|refine vp ?_)
 refine bA rfl ?_
 repeat (first|apply ar|(apply au;rfl;(first|apply aZ|apply aU)<;>first|rfl|assumption|exact wn))
 refine CG.jK (fun L i=>∃P:Tm,aS [(4,.pointer (some ⟨D,0,none⟩)),(8,.pointer (some ⟨I,0,none⟩))] L/\aG i I (.cells (bV P).toArray 52)/\P.In n i/\dw i n q.c.vb q.pm R N/\Kp (I::aR y.s) S i) ?_ ?_
 ·cases hbad:a.bad with
  |false=>
   refine bA rfl ?_
   repeat apply ar
   exact NG.cut ⟨y,by(repeat' (first|exact True.intro|exact rfl|refine And.intro ?_ ?_)),Y,ad.mono (Nat.zero_le n),aa,Kp.refl _ _⟩
  |true=>
   refine bO rfl ?_
   obtain⟨-,-,-,-,-,-,z7⟩:=aX Y
   have bZ:y.t.sig.length<=2:=by rw[hy];exact F1 _ _ _
   repeat (first|apply ar|(apply au;rfl;(first|apply aZ|apply aU)<;>first|rfl|assumption|exact wn))
   refine SG.buildSlice rfl rfl rfl rfl RN (fun b7 w7 j bS aq=>?_)
   have s7:=j.size
   have ca:=Y.lt
   have aH:=aV am j
   have ae:=Y.az j
   refine SG.jN (enc:=iE) (xs:=y.t.sig) (ys:=[1]) (base:=u.heap.size) rfl rfl rfl (ag rfl) (ag rfl) rfl rfl rfl rfl gg mq aH (gy (enc:=iE) (sz:=1) (x:=(1:UInt8)) gg aq) (by simp only[maxLen,length_singleton];omega) (by show(y.t.sig.length+1)*1<=_;omega) (by omega) (fun vA wA ac aI b2=>?_)
   have bB:=(ad.az j).b.QG ac aT
   have bu:Tb 0 wA y.a1 y.t.body:=(ad.az j).t1.kp ac aT
   obtain⟨aA,cA,rfl,bs⟩:=Bs.own aI
   have tA:Ty 5 wA aA (y.t.sig++[1]):=Ty.own aI
   have gA:=fY aI
   have n8:I∉aR y.s:=fun hm=>cF aH (by decide) ae _ (aL hm) (mem_singleton.2 rfl)
   have af:=ae.kp ac n8
   have bq:=aa.az j
   clear z7
   repeat (apply au;rfl;apply aU<;>rfl)
   refine SG.cp (dc y.t.frm++[.int .i64 y.t.non,.int .i64 y.t.fee,.int .i64 y.t.kind,.slice y.a1 y.t.body.length y.c1]) [.slice y.a2 y.t.sig.length y.c2] [] rfl rfl (ag rfl) (ag rfl) af (by simp[bV,Tm.b,Tm.s]) rfl rfl (by simp[ai]) rfl (fun wC ak av=>?_)
   have av:aG wC I (.cells (bV ⟨{y.t with sig:=y.t.sig++[1]},y.a1,y.c1,aA,cA⟩).toArray 52):=by
    have e:bV ⟨{y.t with sig:=y.t.sig++[1]},y.a1,y.c1,aA,cA⟩=(dc y.t.frm++[.int .i64 y.t.non,.int .i64 y.t.fee,.int .i64 y.t.kind,.slice y.a1 y.t.body.length y.c1])++([.slice aA (y.t.sig++[1]).length cA]++[]):=by simp[bV,Tm.b,Tm.s]
    rw[e]
    exact av
   repeat apply ar
   obtain⟨bi,bj⟩:=bB.iD bu ak (rh af (by decide))
   obtain⟨c3,c4⟩:=bs.iD (n:=0) (Or.inl tA) ak (rh af (by decide))
   exact NG.cut ⟨_,by(repeat' (first|exact True.intro|exact rfl|refine And.intro ?_ ?_)),av,⟨bi,c3,bj.mono (Nat.zero_le n),c4.mono (Nat.zero_le n),ad.l1,by simp only[length_append,length_singleton];omega⟩,(bq.Vm aH (by decide) (by decide) ac).Fz ak af (by decide) (by decide),(j.any.trans (ac.mono (fun z r=>mem_cons_of_mem _ r))).trans (ak.mono (fun z r=>by rw[mem_singleton] at r;rw[r];exact mem_cons_self))⟩
 rintro L w7 ⟨P,M,ae,bz,bp,j⟩
 refine CG.to _ M ?_
 have ao:=v.kp j (fun hm=>by
  rcases mem_cons.1 hm with h|hm
  ·omega
  ·have:=cj am D (aL hm);omega)
 have T:Row w7 I 0 (bV P):=Row.all ae rfl
 repeat (first|apply ar|refine qa2 ?_)
 refine SG.aN (l:=bV P) rfl rfl (ag rfl) (ag rfl) ao (ay _) rfl (bY _) (fun w8 ax bm=>?_)
 have F:Row w8 D 0 (bV P):=Row.all bm rfl
 clear T
 repeat apply ar
 refine aO (Or.inl rfl) results43 (aD.agg rfl rfl F (ay _)) ?_
 have s7:=j.size
 exact⟨P,R,N,rfl,bz.iD ax (dD.cons (by omega) (dD.cells ao (by decide)) dD.nil),bp.Fz ax ao (by decide) (by decide),(k6.aj j (fun z r=>Or.inr (by
  rcases mem_cons.1 r with rfl|r
  ·omega
  ·have:=cj am z (aL r);omega))).aj ax (aW (by omega)),a6,a9⟩
end
section
variable{ps:List MemPlace}{cs:List Value}{B b0 fuel:Nat}{P:Program}{H α:Type}{e:TypeId}{v:Value}{w:World}
open Go.ChangeShapes Go.WideShapes Go.ChangeAt Go.RowKit
theorem own:ownKnob prog.godebug=none:=by kernel_rfl
theorem laidOut:laidOutB prog=true:=by kernel_rfl
theorem uO:prog.cellsOf 5=1:=by kernel_rfl
theorem IZ:prog.cellsOf 3=1:=by kernel_rfl
theorem IY:prog.cellsOf 4=1:=by kernel_rfl
theorem G2:prog.cellsOf 23=1:=by kernel_rfl
theorem IX:prog.cellsOf 33=1:=by kernel_rfl
theorem G1:prog.cellsOf 22=3:=by kernel_rfl
theorem G0:prog.cellsOf 24=4:=by kernel_rfl
theorem zC:prog.cellsOf 35=9:=by kernel_rfl
theorem HX{n:Int}(h:(Lit.int .u16 n).wf=true):0<=n/\n<65536:=by
 simp[Lit.wf,IntKind.min,IntKind.max,IntKind.signed,IntKind.bits] at h
 omega
theorem gd(l:List α)(a n:Nat):l.drop a=(l.drop a).take n++l.drop (a+n):=by
 rw[<-drop_drop,take_append_drop]
theorem one_le(d:DataW H):1<=Rows.uptoBulk d:=by
 cases d with
 |lit l=>cases l<;>simp[Rows.uptoBulk]
 |nil=>simp[Rows.uptoBulk]
 |ptr d=>simp[Rows.uptoBulk]
 |slice a e=>simp[Rows.uptoBulk]
 |agg c=>simp[Rows.uptoBulk]
 |iface t d=>simp[Rows.uptoBulk]
 |map b=>simp[Rows.uptoBulk]
 |held h=>simp[Rows.uptoBulk]
theorem Aj{d:DataW H}{l:List (DataW H)}(h:d∈l):Rows.uptoBulk d<=Rows.uptoBulkAll l:=by
 induction l with
 |nil=>cases h
 |cons x r a=>
  simp only[Rows.uptoBulkAll]
  cases mem_cons.1 h with
  |inl e=>subst e;omega
  |inr e=>have:=a e;omega
theorem length_le(l:List (DataW H)):l.length<=Rows.uptoBulkAll l:=by
 induction l with
 |nil=>simp[Rows.uptoBulkAll]
 |cons x r a=>have:=one_le x;simp only[Rows.uptoBulkAll,length_cons];omega
structure To{H:Type}(en:TypeId×Value->H)(P:Program)(w:World)(e:TypeId)(a:Option Addr)(n B:Nat):Prop where
 row:∀i,i<n->∃b off cs fuel y,a=some ⟨b,off,none⟩/\Row w b (off+i*P.cellsOf e) cs/\DataW.trod en P w 0 (fun _=>true) true fuel e cs=some y/\Rows.uptoBulk y.1<=B
theorem vM{h:TypeId×Value->H}{t:TypeId}{y:DataW H×List MemPlace}(E:P.underlying t=some (.slice e))(o:0<P.cellsOf e)
  (A:DataW.trod h P w 0 (fun _=>true) true fuel t cs=some y) (l:Rows.uptoBulk y.1<=B):∃a n c,cs=[.slice a n c]/\n<=c/\c<=B/\(n=0/\a=none\/(∃b d,a=some ⟨b,d,none⟩)\/c=0)/\To h P w e a n B:=by
 rcases Go.Deep.open_slice E A with⟨hc,_⟩|⟨a,len,cap,m,n,D,Pl,hc,_,hl,hm,hmm,hx,hall⟩
 ·exact⟨none,0,0,hc,Nat.le_refl _,Nat.zero_le _,Or.inl ⟨rfl,rfl⟩,⟨fun i g=>absurd g (Nat.not_lt_zero _)⟩⟩
 ·subst hc
  have L:m=cap:=by rw[hmm];simp
  rw[hx] at l
  simp only[Rows.uptoBulk] at l
  have F:=length_le ((range len).map D)
  have G:=length_le ((range (m-len)).map fun j=>D (len+j))
  simp only[length_map,length_range] at F G
  have p:∀i,i<m->∃b d cs y,(some a:Option Addr)=some ⟨b,d,none⟩/\Row w b (d+i*P.cellsOf e) cs/\DataW.trod h P w 0 (fun _=>true) true n e cs=some y/\y.1=D i:=fun i g=>by
   obtain⟨J,r,_⟩:=hall 0 (by omega)
   obtain⟨b,d,v,_,_⟩:=nN r o
   have x:a=⟨b,d,none⟩:=by simpa[Addr.add] using v
   subst x
   obtain⟨cs,f,k⟩:=hall i g
   rw[dQ] at f
   obtain⟨I,M,z,C,K⟩:=nN f o
   cases z
   exact⟨b,d,cs,_,rfl,C,k,rfl⟩
  refine⟨some a,len,cap,rfl,hl,by omega,?_,⟨fun i g=>?_⟩⟩
  ·by_cases q:cap=0
   ·exact Or.inr (Or.inr q)
   ·obtain⟨b,d,cs,y,f,-⟩:=p 0 (by omega)
    exact Or.inr (Or.inl ⟨b,d,f⟩)
  ·obtain⟨b,d,cs,y,f,k,s,u⟩:=p i (by omega)
   have:=Aj (mem_map.2 ⟨i,mem_range.2 g,rfl⟩:D i∈(range len).map D)
   exact⟨b,d,cs,_,y,f,k,s,by rw[u];omega⟩
theorem tN{k:TypeId×Value->H}{a:Option Addr}{n:Nat}(enc:α->List Value)(p:α->Prop)(h:To k P w e a n B)
  (u:∀d g y,DataW.trod k P w 0 (fun _=>true) true g e d=some y->Rows.uptoBulk y.1<=B->∃x:α,d=enc x/\p x):∃l:List α,l.length=n/\Sl enc (P.cellsOf e) w a l/\∀x∈l,p x:=by
 have j:∀i:_root_.Fin n,∃x:α,(∃b f,a=some ⟨b,f,none⟩/\Row w b (f+i.1*P.cellsOf e) (enc x))/\p x:=by
  intro i
  obtain⟨b,f,d,g,y,m,o,q,r⟩:=h.row i.1 i.2
  obtain⟨x,rfl,t⟩:=u d g y q r
  exact⟨x,⟨b,f,m,o⟩,t⟩
 refine⟨ofFn (fun i=>Classical.choose (j i)),by simp,fun i x c=>?_,fun x c=>?_⟩
 ·rw[List.getElem?_ofFn] at c
  split at c
  ·rename_i s
   cases c
   exact(Classical.choose_spec (j ⟨i,s⟩)).1
  ·cases c
 ·obtain⟨i,rfl⟩:=mem_ofFn.1 c
  exact(Classical.choose_spec (j i)).2
theorem EV{k:TypeId×Value->H}{y:DataW H×List MemPlace}(q:DataW.trod k prog w 0 (fun _=>true) true fuel 33 cs=some y)(o:Rows.uptoBulk y.1<=B):
  ∃a c l,cs=[.slice a (l:List UInt8).length c]/\Bs w a c l/\(l≠[]->∀b d,a=some ⟨b,d,none⟩->b<w.heap.size)/\l.length<=c/\l.length<=B:=by
 obtain⟨a,n,c,e,i,z,t,p⟩:=vM underlying33 (by rw[uO];omega) q o
 obtain⟨l,m,f,-⟩:=tN (fun u:UInt8=>[bv u]) (fun _=>True) p (fun cs fuel y v _=>by
  obtain⟨u,e⟩:=lJ underlying5 v
  exact⟨u,e,trivial⟩)
 rw[uO] at f
 subst m
 have j:l≠[]->∀b d,a=some ⟨b,d,none⟩->b<w.heap.size:=fun r b d e=>by
  obtain⟨x,A,g,s⟩:=f.at (length_pos_iff.2 r)
  rw[e] at g
  cases g
  exact s.lt
 refine⟨a,c,l,e,⟨f,i,?_,j⟩,j,i,by omega⟩
 rcases t with⟨h,rfl⟩|h|h
 ·exact Or.inl ⟨eq_nil_of_length_eq_zero h,rfl⟩
 ·exact Or.inr (Or.inl h)
 ·exact Or.inr (Or.inr ⟨eq_nil_of_length_eq_zero (by omega),h⟩)
set_option maxRecDepth 100000 in
theorem Ji{enc:TypeId×Value->H}{y:DataW H×List MemPlace}(h:DataW.trod enc prog w 0 (fun _=>true) true fuel 35 cs=some y)(n:Rows.uptoBulk y.1<=1048576):∃x:Ax,cs=tX x/\x.In w.heap.size w/\x.body.length<=10000000:=by
 obtain⟨Z,m,_,P,N,O,a⟩:=DataW.trod_struct underlying35 h
 rw[zC] at N
 rw[P] at n
 match Z,O with
 |[y0,y1,y2,y3,y4,y5,y6,y7,y8],_=>
  simp only[Rows.uptoBulk,Rows.uptoBulkAll,map_cons,map_nil] at n
  have b:DataW.trod enc prog w 0 (fun _=>true) true m 5 ((cs.drop 0).take (prog.cellsOf 5))=some y0:=a 0 _ rfl
  have c:DataW.trod enc prog w 0 (fun _=>true) true m 5 ((cs.drop 1).take (prog.cellsOf 5))=some y1:=a 1 _ rfl
  have d:DataW.trod enc prog w 0 (fun _=>true) true m 3 ((cs.drop 2).take (prog.cellsOf 3))=some y2:=a 2 _ rfl
  have f:DataW.trod enc prog w 0 (fun _=>true) true m 3 ((cs.drop 3).take (prog.cellsOf 3))=some y3:=a 3 _ rfl
  have g:DataW.trod enc prog w 0 (fun _=>true) true m 3 ((cs.drop 4).take (prog.cellsOf 3))=some y4:=a 4 _ rfl
  have i:DataW.trod enc prog w 0 (fun _=>true) true m 33 ((cs.drop 5).take (prog.cellsOf 33))=some y5:=a 5 _ rfl
  have j:DataW.trod enc prog w 0 (fun _=>true) true m 4 ((cs.drop 6).take (prog.cellsOf 4))=some y6:=a 6 _ rfl
  have k:DataW.trod enc prog w 0 (fun _=>true) true m 5 ((cs.drop 7).take (prog.cellsOf 5))=some y7:=a 7 _ rfl
  have l:DataW.trod enc prog w 0 (fun _=>true) true m 33 ((cs.drop 8).take (prog.cellsOf 33))=some y8:=a 8 _ rfl
  rw[uO] at b c k
  rw[IZ] at d f g
  rw[IX] at i l
  rw[IY] at j
  obtain⟨W,z⟩:=lJ underlying5 b
  obtain⟨X,A⟩:=lJ underlying5 c
  obtain⟨Q,C,_,_⟩:=DataW.trod_int underlying3 d
  obtain⟨R,D,_,_⟩:=DataW.trod_int underlying3 f
  obtain⟨S,E,_,_⟩:=DataW.trod_int underlying3 g
  obtain⟨q,u,o,F,s,U,K,k5⟩:=EV (B:=1048576) i (by omega)
  obtain⟨T,G,_⟩:=DataW.trod_bool underlying4 j
  obtain⟨Y,I⟩:=lJ underlying5 k
  obtain⟨r,v,p,J,t,V,L,k8⟩:=EV (B:=1048576) l (by omega)
  refine⟨⟨W,X,Q,R,S,q,u,o,T,Y,r,v,p⟩,?_,⟨s,U,t,V,K,L,by show p.length<=_;omega⟩,by show o.length<=_;omega⟩
  have M:cs.drop (8+1)=[]:=drop_of_length_le (by omega)
  have e:cs=cs.drop 0:=rfl
  rw[e,gd cs 0 1,z,gd cs (0+1) 1,A,gd cs (0+1+1) 1,C,gd cs (0+1+1+1) 1,D,gd cs (0+1+1+1+1) 1,E,gd cs (0+1+1+1+1+1) 1,F,gd cs (0+1+1+1+1+1+1) 1,G,gd cs (0+1+1+1+1+1+1+1) 1,I,gd cs (0+1+1+1+1+1+1+1+1) 1,J,M]
  rfl
set_option maxRecDepth 100000 in
theorem Hk{enc:TypeId×Value->H}{d:DataW H}(r:Value.okWide prog w .any b0 25 v)(h:DataW.Trod enc prog w 0 (fun _=>true) true 25 v d ps)(m:Rows.uptoBulk d<=1048576):
  ∃a c b,v= .slice a (b:List Ax).length c/\Sl tX 9 w a b/\(∀x∈b,x.In w.heap.size w)/\∀x∈b,x.body.length<=10000000:=by
 obtain⟨a,n,c,rfl⟩:=okWide_slice underlying25 r
 obtain⟨j,q⟩:=h
 obtain⟨t,D,u,e,C,A,-,o⟩:=vM (B:=1048576) underlying25 (by rw[zC];omega) q m
 simp only[Value.cells,List.cons.injEq,Value.slice.injEq,and_true] at e
 obtain⟨rfl,rfl,rfl⟩:=e
 obtain⟨l,k,g,i⟩:=tN tX (fun x=>x.In w.heap.size w/\x.body.length<=10000000) o (fun z j y s p=>Ji s p)
 rw[zC] at g
 subst k
 exact⟨a,c,l,rfl,g,fun x f=>(i x f).1,fun x f=>(i x f).2⟩
set_option maxRecDepth 100000 in
theorem Lf{enc:TypeId×Value->H}{d:DataW H}(g:Value.okWide prog w .any b0 22 v)(h:DataW.Trod enc prog w 0 (fun _=>true) true 22 v d ps):∃f l s:UInt8,v= .agg #[bv f,bv l,bv s]:=by
 simp only[Value.okWide,underlying22] at g
 obtain⟨c,rfl,_⟩:=g
 obtain⟨j,i⟩:=h
 obtain⟨⟨x,a⟩,b⟩:=Cd underlying22 underlying5 uO G1 i
 match x,a with
 |[p,q,r],a=>
  refine⟨p,q,r,?_⟩
  have b:c.toList=dc ⟨[p,q,r],a⟩:=by simpa[Value.cells] using b
  have:c.toList=[bv p,bv q,bv r]:=b.trans rfl
  have e:c= #[bv p,bv q,bv r]:=Array.toList_inj.1 (by simpa using this)
  rw[e]
set_option maxRecDepth 100000 in
theorem JS{enc:TypeId×Value->H}{d:DataW H}(B:Value.okWide prog w .any b0 24 v)(h:DataW.Trod enc prog w 0 (fun _=>true) true 24 v d ps):∃l:List Nat,v=CX l/\∀x∈l,x<65536:=by
 simp only[Value.okWide,underlying24] at B
 obtain⟨p,rfl,_⟩:=B
 obtain⟨L,I⟩:=h
 obtain⟨Q,m,_,_,a,J,y⟩:=DataW.trod_array underlying24 I
 rw[G0] at a
 have a:p.toList.length=4:=a
 obtain⟨j,A⟩:∃j,(Value.agg p).cells.toList=j:=⟨_,rfl⟩
 have D:p.toList=j:=A
 rw[D] at a
 rw[A] at y
 match j,a with
 |[b,c,f,g],_=>
  have k:∀i (q:i<4),∃n:Nat,[b,c,f,g][i]?=some (.int .u16 n)/\n<65536:=fun i q=>by
   have h:=y i q
   rw[G2] at h
   rw[getElem?_eq_getElem (by rw[J];exact q)] at h
   obtain⟨z,e,_,K⟩:=DataW.trod_int underlying23 h
   obtain⟨R,S⟩:=HX K
   refine⟨z.toNat,?_,by omega⟩
   have e:([b,c,f,g].drop (i*1)).take 1=[.int .u16 z]:=e
   rw[Nat.mul_one] at e
   have o:(([b,c,f,g].drop i).take 1)[0]?=some (.int .u16 z):=by rw[e];rfl
   rw[getElem?_take,if_pos (by omega),getElem?_drop,Nat.add_zero] at o
   rw[o]
   have:((z.toNat:Nat):Int)=z:=by omega
   rw[this]
  obtain⟨r,E,M⟩:=k 0 (by omega)
  obtain⟨s,F,N⟩:=k 1 (by omega)
  obtain⟨t,o,O⟩:=k 2 (by omega)
  obtain⟨u,G,P⟩:=k 3 (by omega)
  refine⟨[r,s,t,u],?_,fun x C=>?_⟩
  ·obtain rfl:b= .int .u16 r:=Option.some.inj E
   obtain rfl:c= .int .u16 s:=Option.some.inj F
   obtain rfl:f= .int .u16 t:=Option.some.inj o
   obtain rfl:g= .int .u16 u:=Option.some.inj G
   have e:p=(yk [r,s,t,u]).toArray:=Array.toList_inj.1 (by rw[D];rfl)
   rw[e]
   rfl
  ·simp only[mem_cons,mem_nil_iff,or_false] at C
   rcases C with rfl|rfl|rfl|rfl<;>assumption
end
section
open Go.ChangeShapes Go.WideShapes Go.ChangeAt Go.RowKit
def D5:DataW Unit->Array Value
 | .agg l=>(l.map (fun d=>match d with| .lit (.int k n)=>Value.int k n|_=>undef)).toArray
 |_=> #[]
def rB(d:DataW Unit):Obj->Obj
 | .cells _ t frozen=> .cells (D5 d) t frozen
 |o=>o
noncomputable def pf(os:Os):World:=
 {World.holding prog os ⟨#[],#[],[]⟩ with heap:=(((World.holding prog os ⟨#[],#[],[]⟩).heap.modify 1 (rB Rows.laid_internal_strconv_uint64pow10)).modify 2 (rB Rows.laid_math_bits_deBruijn32tab)).modify 3 (rB Rows.laid_math_bits_deBruijn64tab)}
def Hd:Value:= .agg #[.int .u8 0,.int .u8 0,.int .u8 0]
def Hc:Value:= .agg #[.int .u16 0,.int .u16 0,.int .u16 0,.int .u16 0]
end
section
variable{n:Nat}{a:Option Addr}{w:World}
attribute [local irreducible] CG NG SG aP aM Row aG aF aQ aJ
theorem pT{c:Nat}{xs:List Tm}(m:lh w n a xs)(P:xs.length<=1000000):kr prog 47 dc 8 89 #[.slice a xs.length c] w (xs.map (fun b=>aJ b.t)):=by
 refine bC func89 rfl ntmps89 rfl ?_
 have C:=m.sl
 have B:=m.ins
 clear m
 repeat (first|apply ar|refine qb1 ?_)
 refine CG.loop (X:=Nat×Value) (fun q=>[(3,q.2),(6,.slice a xs.length c),(7,.int .i64 (xs.length:Int)),(8,.int .i64 (q.1:Int))])
  (fun q s=>q.1<=xs.length/\Kp [] w s/\s.ownsRow w.heap.size 47 8 q.2 q.1 (bX dc ((xs.map (fun b=>aJ b.t)).take q.1)))
  (fun q=>xs.length-q.1) (0,.slice none 0 0) ⟨Nat.zero_le _,Kp.refl _ _,dY⟩ (aS.of rfl) ?_
 rintro⟨i,v⟩ W ⟨E,d,g⟩
 simp only at E g
 refine CG.to [(3,v),(6,.slice a xs.length c),(7,.int .i64 (xs.length:Int)),(8,.int .i64 (i:Int))] (aS.of rfl) ?_
 by_cases f:i<xs.length
 ·have u:(i:Int)<(xs.length:Int):=by omega
  obtain⟨N,R,rfl,J⟩:=(C.az d).at f
  repeat (first|apply ar|refine ul ?_)
  refine bO rfl ?_
  repeat (first|apply ar|refine ut ?_)
  refine SG.alloc rfl rfl rfl (fun L Y F D y=>?_)
  refine SG.aN (l:=bV xs[i]) rfl rfl (ag rfl) (ag rfl) y (ay _) rfl (bY _) (fun Z G z=>?_)
  have e:=F.aj G (aW D)
  obtain⟨S,-⟩:=aX z
  clear J
  repeat (first|apply ar|refine qb8 ?_)
  refine SG.ret rfl rfl rfl (vs:=[eG xs[i]]) (bg.of rfl) (dV ((B _ (getElem_mem f)).az (d.trans e))) (fun aa H=>?_)
  have e:=e.trans H
  refine SG.buildSlice rfl rfl rfl rfl (B8 _) (fun M w7 p O A=>?_)
  have T:=d.size
  have U:=e.size
  have V:=p.size
  have r:=e.trans p
  have h:=aV g r
  have j:((xs.map (fun b=>aJ b.t)).take i).length=i:=by rw[length_take,length_map];omega
  have h:=wo j.symm h
  refine SG.jN (enc:=dc) (xs:=(xs.map (fun b=>aJ b.t)).take i) (ys:=[aJ xs[i].t]) (base:=w.heap.size) rfl rfl rfl (ag rfl) (ag rfl) rfl rfl rfl rfl ai bj h (gy (enc:=dc) (sz:=8) (x:=aJ xs[i].t) ai A) (by rw[j];simp only[maxLen,length_singleton];omega) (by rw[j];show(i+1)*8<=_;omega) (by omega) (fun K w8 I o Q=>?_)
  rw[<-take_one (fun b:Tm=>aJ b.t) f] at o
  have k:((xs.map (fun b=>aJ b.t)).take (i+1)).length=i+1:=by rw[length_take,length_map];omega
  rw[k] at o
  repeat (first|apply ar|refine us ?_)
  refine NG.round (i+1,K) (aS.of rfl) ⟨f,(d.trans r).aj I (ff h (Nat.le_refl _)),o⟩ (by simp only;omega)
 ·have u:¬(i:Int)<(xs.length:Int):=by omega
  have k:i=xs.length:=by omega
  subst k
  rw[take_of_length_le (by rw[length_map];exact Nat.le_refl _)] at g
  repeat (first|apply ar|refine un ?_)
  refine bA rfl ?_
  repeat (first|apply ar|refine ww ?_)
  refine aO (Or.inl rfl) results89 (aD.tmp rfl) ?_
  exact⟨v,rfl,by rw[length_map];exact g,d⟩
theorem o9{n0 b a:Nat}{m:Bk}{f:Fb}{tot:Int}(u:bS w b a m)(g:iY tot n m f)(z:tot<=1000000000){x:Tm}(R:x.In n0 w)(mk:Dg):
  Calls prog 96 #[.pointer (some ⟨b,0,none⟩),eG x,dv mk] w (fun e D=>∃C,e= .returned (.int .i64 (dC f x.t))/\bS D b a C/\(dC f x.t=0->iY tot (n+4) C (dU f mk x.t))/\Kp [a] w D):=by
 refine dG func96 rfl ntmps96 rfl ?_
 repeat apply ar
 refine SG.box rfl rfl rfl (ag rfl) (fun s N y P d=>?_)
 refine SG.box rfl rfl rfl (ag rfl) (fun j O p Q l=>?_)
 have d:aG N s (.cells (bV x).toArray 52):=d
 have l:aG O j (.cells (dc mk).toArray 47):=l
 obtain⟨-,r,L,-⟩:=aX (d.az p)
 have A:=y.trans p
 have k:dC f x.t=yF m x.t:=by rw[Ko,g.eq]
 have T:=y.size
 have S:=u.map.lt
 repeat (first|apply ar|(apply au;rfl;(first|apply aB|apply aE|apply aZ|apply bf|apply aU)<;>first|rfl|assumption|exact wn|apply ai))
 refine SG.call rfl rfl rfl (vs:=[.pointer (some ⟨b,0,none⟩),dv x.t.frm,.int .i64 x.t.non]) (bg.of rfl) ((tU (u.az A) (g.qh z) x.t.frm x.t.non).mono (fun e E o=>?_))
 obtain⟨rfl,v,q⟩:=o
 refine⟨_,rfl,?_⟩
 have G:=g.use x.t.frm x.t.non
 have I:s∉[a]:=bQ (by omega)
 have J:j∉[a]:=bQ (by omega)
 clear r L
 obtain⟨-,r,-,M,-⟩:=aX ((d.az p).kp q I)
 have K:Row E j 0 (dc mk):=Row.all (l.kp q J) rfl
 have B:Kp [a] w E:=A.any.trans q
 by_cases i:sx m x.t.frm x.t.non=0
 ·rw[i]
  repeat (first|apply ar|refine vp ?_)
  refine bA rfl ?_
  repeat (first|apply ar|refine qb7 ?_)
  refine SG.call rfl rfl rfl (vs:=[.pointer (some ⟨b,0,none⟩),dv x.t.frm,dv mk,.int .i64 x.t.fee]) (bg.of rfl) ((iV v (G.qh z) x.t.frm mk x.t.fee).mono (fun e U o=>?_))
  obtain⟨rfl,F,H⟩:=o
  refine⟨_,rfl,?_⟩
  clear r M K
  repeat (first|apply ar|refine wt ?_)
  refine aO (Or.inl rfl) results96 (aD.tmp rfl) ?_
  have c:yF m x.t=ky (oU m x.t.frm x.t.non) x.t.frm x.t.fee:=by unfold yF;rw[if_neg (fun h=>h i)]
  exact⟨_,by rw[k,c],F,fun _=>g.Ks mk x.t,B.trans H⟩
 ·repeat (first|apply ar|refine vr ?_)
  refine bO rfl ?_
  repeat (first|apply ar|refine ww ?_)
  refine aO (Or.inl rfl) results96 (aD.tmp rfl) ?_
  have c:yF m x.t=sx m x.t.frm x.t.non:=by unfold yF;rw[if_pos i]
  exact⟨_,by rw[k,c],v,fun h=>absurd (by rw[<-c,<-k];exact h) i,B⟩
theorem rp{d:Option Addr}{l m:List Dg}(c c':Nat)(v:Sl dc 8 w a l)(x:Sl dc 8 w d m)(M:l.length<=1000000)(N:m.length<=1000000):dq prog 88 #[.slice a l.length c,.slice d m.length c'] w (.bool (decide (l=m))):=by
 refine bN func88 rfl ntmps88 rfl ?_
 by_cases C:(l.length:Int)=(m.length:Int)
 rotate_left
 ·have e:decide (l=m)=false:=decide_eq_false (fun h=>C (by rw[h]))
  rw[e]
  repeat (first|apply ar|(apply au;rfl;(first|apply aB|apply aE|apply du|apply dg)<;>first|rfl|exact qr))
  refine bO rfl ?_
  repeat (first|apply ar|refine wt ?_)
  refine aO (Or.inl rfl) results88 (aD.tmp rfl) ?_
  exact⟨rfl,Kp.refl _ _⟩
 have D:l.length=m.length:=by omega
 repeat (first|apply ar|(apply au;rfl;(first|apply aB|apply aE|apply du|apply dg)<;>first|rfl|exact qf))
 refine bA rfl ?_
 repeat (first|apply ar|(apply au;rfl;(first|apply aB|apply dg)<;>rfl))
 refine CG.loop (X:=Nat) (fun i=>[(1,.slice d m.length c'),(12,.slice a l.length c),(13,.int .i64 (l.length:Int)),(14,.int .i64 (i:Int))])
  (fun i G=>i<=l.length/\Kp [] w G/\∀j (h:j<l.length) (f:j<m.length),j<i->l[j]=m[j]) (fun i=>l.length-i) 0 ⟨Nat.zero_le _,Kp.refl _ _,fun _ _ _ h=>absurd h (Nat.not_lt_zero _)⟩ (aS.of rfl) ?_
 rintro i Q ⟨L,b,q⟩
 refine CG.to [(1,.slice d m.length c'),(12,.slice a l.length c),(13,.int .i64 (l.length:Int)),(14,.int .i64 (i:Int))] (aS.of rfl) ?_
 by_cases E:i<l.length
 rotate_left
 ·have u:¬(i:Int)<(l.length:Int):=by omega
  have e:decide (l=m)=true:=decide_eq_true (ext_getElem D (fun j h f=>q j h f (by omega)))
  rw[e]
  repeat (first|apply ar|refine un ?_)
  refine bA rfl ?_
  repeat (first|apply ar|refine wt ?_)
  refine aO (Or.inl rfl) results88 (aD.tmp rfl) ?_
  exact⟨rfl,b⟩
 have u:(i:Int)<(l.length:Int):=by omega
 have F:i<m.length:=by omega
 obtain⟨J,O,rfl,k⟩:=(v.az b).at E
 repeat (first|apply ar|refine ul ?_)
 refine bO rfl ?_
 repeat (first|apply ar|(apply au;rfl;(first|apply aB|apply bf|apply fa)<;>first|rfl|exact zc|assumption|exact wn|apply ai))
 refine SG.alloc rfl rfl rfl (fun t R A y n=>?_)
 repeat refine wt ?_
 refine SG.aN (l:=dc l[i]) rfl rfl (ag rfl) (ag rfl) n (ai _) rfl (bj _) (fun H B n=>?_)
 have p:=A.aj B (aW y)
 clear k
 have s:Row H t 0 (dc l[i]):=Row.all n rfl
 obtain⟨K,P,rfl,k⟩:=(x.az (b.trans p)).at F
 repeat apply ar
 by_cases r:l[i]=m[i]
 ·refine CG.fh mixed [0,1,2,3,4,5] [] (by kernel_rfl) ?_
  repeat (apply bW;rfl;rfl;(first|apply aB|apply bf|apply fa|apply Cp)<;>first|rfl|exact zc|assumption|exact qf|exact wn|apply ai)
  refine aM.fin (fun I o _ _=>?_)
  clear s k
  repeat apply ar
  refine bA rfl ?_
  repeat (first|apply ar|refine wz ?_)
  refine NG.round (i+1) (aS.of rfl) ⟨by omega,(b.trans p).trans o,fun j h f z=>?_⟩ (by omega)
  rcases Nat.lt_succ_iff_lt_or_eq.1 z with g|g
  ·exact q j h f g
  ·subst g;exact r
 ·have e:decide (l=m)=false:=decide_eq_false (fun h=>r (by subst h;rfl))
  rw[e]
  refine CG.fh mixed [0,1,2,3,4,5] [] (by kernel_rfl) ?_
  repeat (apply bW;rfl;rfl;(first|apply aB|apply bf|apply fa|apply Cp)<;>first|rfl|exact zc|assumption|exact qr|exact wn|apply ai)
  refine aM.fin (fun I o _ _=>?_)
  clear s k
  repeat apply ar
  refine bO rfl ?_
  repeat (first|apply ar|refine wt ?_)
  refine aO (Or.inl rfl) results88 (aD.tmp rfl) ?_
  exact⟨rfl,(b.trans p).trans o⟩
end
section
variable{w:World}
abbrev gL(z:Nat):Value:= .pointer (some ⟨z,0,none⟩)
def Lp(w:World)(c1 c2 bm:Nat)(n:Nat)(tot:Int)(f:Fb)(t:Tl)(h:Int)(x:Tx)(e:Ending)(w':World):Prop:=
 ∃bk' bm' tb' m',e= .returned (.int .i64 (gu f x))/\aG w' c1 (.cells #[gL bk'] 38)/\aG w' c2 (.cells #[gL tb'] 74)/\bS w' bk' bm' m'/\iY tot (n+2) m' (fV f x)/\gp w' tb' (gI t f h x)/\Kp [c1,c2] w w'/\(bm'=bm\/w.heap.size<=bm')
theorem nq{b z:Nat}{T:TypeId}(h:aG w b (.cells #[gL z] T)):Row w b 0 [gL z]:=Row.of h [] [] rfl rfl
theorem Ky(m:Bk)(a:Dg)(n:Int):ky m a n=wX (cC m) a n:=rfl
attribute [local irreducible] CG NG SG aP aM Row aG aF aQ ky mC aJ
theorem pa{n0 c1 c2 bk B tb n:Nat}{m:Bk}{f:Fb}{t:Tl}{tot:Int}(W:aG w c1 (.cells #[gL bk] 38))(Y:aG w c2 (.cells #[gL tb] 74))(P:c1≠c2)(E:bS w bk B m)(M:iY tot n m f)(ht:tot<=1000000000)(L:gp w tb t)(aQ:t.n<=1000000){x:Tm}(Q:x.In n0 w)(h:Int):
  Calls prog 97 #[gL c1,gL c2,.int .i64 h,eG x] w (Lp w c1 c2 B n tot f t h x.t):=by
 refine pq func97 rfl ntmps97 rfl ?_
 repeat apply ar
 refine SG.box rfl rfl rfl (ag rfl) (fun b7 w1 N a4 q=>?_)
 have q:aG w1 b7 (.cells (bV x).toArray 52):=q
 have r1:=nq (W.az N)
 repeat (first|apply ar|(apply au;rfl;(first|apply aB|apply aE|apply aZ|apply bR)<;>first|rfl|assumption|exact wn))
 refine SG.call rfl rfl rfl (vs:=[gL bk]) (bg.of rfl) ((gn (E.az N)).mono (fun e w2 u=>?_))
 obtain⟨J,C,a,rfl,ac,hp,gk,gm,aq⟩:=u
 refine⟨_,rfl,?_⟩
 have R:=N.trans aq
 have s:=M.perm hp
 clear r1
 have r2:=nq (Y.az R)
 obtain⟨t0,t1⟩:=lZ (L.az R)
 repeat (first|apply ar|refine wt ?_)
 refine CG.tail mixed 12 [0,1,2,3,4,5,6,7,8,9,10,11] (by kernel_rfl) ?_
 repeat (apply bW;rfl;rfl;(first|apply aB|apply aZ|apply bf|apply aU|apply bR)<;>first|rfl|assumption|exact wn|apply ai)
 refine aM.tl (fun w3 av _ _=>?_)
 refine SG.val rfl rfl rfl rfl (aK rfl (fun aw=>Tf aw t)) ?_
 refine SG.box rfl rfl rfl (ag rfl) (fun I w4 aJ a5 F=>?_)
 have F:gp w4 I t:=F
 clear r2 t0 t1
 have S:=av.trans aJ
 have v:=R.trans S
 have q:=(q.az aq).az S
 obtain⟨-,-,-,-,H,-⟩:=aX q
 have s1:=N.size
 have s4:=v.size
 have ba:=S.size
 have s3:=av.size
 have aS:=W.lt
 have aT:=Y.lt
 have a7:=E.map.lt
 have am:=(ac.az S)
 have a8:=ac.map.lt
 have a6:=ac.blk.lt
 have a9:=F.lt
 have D:gu f x.t=oI a h x.t:=by rw[HR,s.eq]
 have X:=W.az v
 have Z:=Y.az v
 by_cases c:x.t.kind=0
 ·have o:oI a h x.t=if dI x.t.body≠0 then dI x.t.body else ky a x.t.frm (fy x.t.body):=by unfold oI;rw[if_pos c]
  have K:lg a h x.t=if dI x.t.body≠0 then a else mC a x.t.frm (gv x.t.body) (fy x.t.body):=by unfold lg;rw[if_pos c]
  have k:gI t f h x.t=t:=by unfold gI;rw[if_pos c]
  rw[c] at H
  have aA:(0:Int)=0:=rfl
  repeat (first|apply ar|(apply au;rfl;(first|apply aE|apply aZ|apply aU|apply fE)<;>first|rfl|assumption|exact qf|exact wn))
  refine bO rfl ?_
  clear H
  obtain⟨aY,-⟩:=aX q
  repeat (first|apply ar|refine qa2 ?_)
  refine SG.call rfl rfl rfl (vs:=[eG x]) (bg.of rfl) ((oZ (Q.az v) c).mono (fun e w5 u=>?_))
  obtain⟨a3,nn,rfl,G,rfl,rfl⟩:=u
  refine⟨_,rfl,?_⟩
  clear aY
  repeat refine qa7 ?_
  refine SG.alloc rfl rfl rfl (fun ax w6 aL aI ab=>?_)
  refine SG.aN (l:=dc (gv x.t.body)) rfl rfl (ag rfl) (ag rfl) ab (ai _) rfl (bj _) (fun w7 aP ab=>?_)
  have r:=G.trans (aL.aj aP (aW aI))
  have q7:Row w7 ax 0 (dc (gv x.t.body)):=Row.all ab rfl
  obtain⟨-,q0,-⟩:=aX (q.az r)
  have U:=v.trans r
  by_cases j:dI x.t.body=0
  ·rw[j]
   rw[if_neg (fun h=>h j)] at o K
   repeat (first|apply ar|(apply au;rfl;(first|apply aB|apply aE|apply fE)<;>first|rfl|exact qf))
   refine bO rfl ?_
   repeat (first|apply ar|(apply au;rfl;(first|apply aB|apply bf|apply aU)<;>first|rfl|assumption|exact wn|apply ai))
   refine SG.call rfl rfl rfl (vs:=[gL J,dv x.t.frm,dv (gv x.t.body),.int .i64 (fy x.t.body)]) (bg.of rfl) ((iV (am.az r) (s.qh ht) x.t.frm (gv x.t.body) (fy x.t.body)).mono (fun e w8 u=>?_))
   obtain⟨rfl,ao,O⟩:=u
   refine⟨_,rfl,?_⟩
   clear q0 q7
   have n8:∀{z:Nat},z≠C->z∉[C]:=fun h=>bQ h
   have ah:=(X.az r).kp O (n8 (by omega))
   have al:=(Z.az r).kp O (n8 (by omega))
   have aF:=(F.az r).kp O (n8 (by omega))
   have V:Kp [] w w8:=U.aj O (aW (by omega))
   have em:ky a x.t.frm (fy x.t.body)=wX f x.t.frm (fy x.t.body):=by rw[Ky,s.eq]
   have p:fV f x.t=Gt f x.t.frm (gv x.t.body) (fy x.t.body):=by unfold fV;rw[if_pos c,if_neg (fun h=>h j)]
   by_cases i:ky a x.t.frm (fy x.t.body)=0
   ·rw[i]
    repeat (first|apply ar|(apply au;rfl;(first|apply aB|apply aE|apply fE)<;>first|rfl|exact qf))
    refine bO rfl ?_
    repeat (first|apply ar|(apply au;rfl;(first|apply aB|apply bR)<;>rfl))
    refine SG.cp [] [gL bk] [] rfl rfl (ag rfl) (ag rfl) ah rfl rfl rfl rfl rfl (fun w9 g ad=>?_)
    repeat (apply au;rfl;apply bR<;>rfl)
    refine SG.cp [] [gL tb] [] rfl rfl (ag rfl) (ag rfl) (al.kp g (bQ (fun e=>P e.symm))) rfl rfl rfl rfl rfl (fun a2 d aa=>?_)
    repeat (first|apply ar|refine ww ?_)
    refine aO (Or.inl rfl) results97 (aD.tmp rfl) ?_
    have A:∀{z:Nat},w.heap.size<=z->z∉[c1]:=fun h=>bQ (by omega)
    have y:∀{z:Nat},w.heap.size<=z->z∉[c2]:=fun h=>bQ (by omega)
    refine⟨J,C,I,_,by rw[D,o,i],ad.kp d (bQ P),aa,⟨(ao.blk.kp g (A (by omega))).kp d (y (by omega)),(ao.map.kp g (A (by omega))).kp d (y (by omega))⟩,by rw[p];exact s.move _ _ _,by rw[k];exact(aF.kp g (A (by omega))).kp d (y (by omega)),(V.any.trans (g.mono (fun z j=>by simp_all))).trans (d.mono (fun z j=>by simp_all)),Or.inr (by omega)⟩
   ·have aR:¬wX f x.t.frm (fy x.t.body)=0:=by rw[<-em];exact i
    repeat (first|apply ar|(apply au;rfl;(first|apply aB|apply aE|apply fE)<;>first|rfl|exact qr))
    refine bA rfl ?_
    repeat (first|apply ar|refine ww ?_)
    refine aO (Or.inl rfl) results97 (aD.tmp rfl) ?_
    exact⟨bk,B,tb,m,by rw[D,o],ah,al,E.az V,by rw[p];unfold Gt;rw[if_neg (fun h=>aR h.1)];exact M.mono (by omega),by rw[k];exact L.az V,V.any,Or.inl rfl⟩
  ·rw[if_pos j] at o K
   have p:fV f x.t=f:=by unfold fV;rw[if_pos c,if_pos j]
   repeat (first|apply ar|(apply au;rfl;(first|apply aB|apply aE|apply fE)<;>first|rfl|exact qr))
   refine bA rfl ?_
   repeat (first|apply ar|(apply au;rfl;(first|apply aB|apply fE)<;>first|rfl|exact qr))
   refine bA rfl ?_
   clear q0 q7
   repeat (first|apply ar|refine ww ?_)
   refine aO (Or.inl rfl) results97 (aD.tmp rfl) ?_
   exact⟨bk,B,tb,m,by rw[D,o],X.az r,Z.az r,E.az U,by rw[p];exact M.mono (by omega),by rw[k];exact L.az U,U.any,Or.inl rfl⟩
 ·clear H
  obtain⟨-,r0,-,-,H,a0,-⟩:=aX q
  have aH:=Q.az v
  have o:oI a h x.t=vJ a x.t.frm x.t.body:=by unfold oI;rw[if_neg c]
  have ae:vJ a x.t.frm x.t.body=FU f x.t.frm x.t.body:=by rw[FV,s.eq]
  have k:gI t f h x.t=if FU f x.t.frm x.t.body=0 then Fs t h x.t.frm x.t.kind x.t.body else t:=by unfold gI;rw[if_neg c]
  have p:fV f x.t=if FU f x.t.frm x.t.body=0 then Qg f x.t.frm x.t.body else f:=by unfold fV;rw[if_neg c]
  repeat (first|apply ar|(apply au;rfl;(first|apply aE|apply aZ|apply aU|apply fE)<;>first|rfl|assumption|exact qr|exact wn))
  refine bA rfl ?_
  repeat (first|apply ar|refine qb7 ?_)
  refine SG.call rfl rfl rfl (vs:=[gL I,.int .i64 h,dv x.t.frm,.int .i64 x.t.kind,.slice x.a1 x.t.body.length x.c1,gL J]) (bg.of rfl) ((sU F am (s.qh ht) aQ aH.b Q.l1 (fun hn z aV e=>by have:=(Q.az R).b.lt hn z aV e;omega) h x.t.kind x.t.frm).mono (fun e w5 u=>?_))
  obtain⟨rfl,aC,an,G⟩:=u
  refine⟨_,rfl,?_⟩
  clear r0 H a0
  have n5:∀{z:Nat},z<w.heap.size->z∉[I,C]:=fun h=>gG (by omega) (by omega)
  have af:=X.kp G (n5 aS)
  have ak:=Z.kp G (n5 aT)
  have T:Kp [] w w5:=v.aj G (kZ (by omega) (by omega))
  by_cases i:vJ a x.t.frm x.t.body=0
  ·rw[if_pos (by rw[<-ae];exact i)] at k p
   rw[i]
   have aA:(0:Int)=0:=rfl
   repeat (first|apply ar|(apply au;rfl;(first|apply aB|apply aE|apply fE)<;>first|rfl|exact qf))
   refine bO rfl ?_
   repeat (first|apply ar|(apply au;rfl;(first|apply aB|apply bR)<;>rfl))
   refine SG.cp [] [gL bk] [] rfl rfl (ag rfl) (ag rfl) af rfl rfl rfl rfl rfl (fun w9 g ad=>?_)
   repeat (apply au;rfl;apply bR<;>rfl)
   refine SG.cp [] [gL tb] [] rfl rfl (ag rfl) (ag rfl) (ak.kp g (bQ (fun e=>P e.symm))) rfl rfl rfl rfl rfl (fun a2 d aa=>?_)
   repeat (first|apply ar|refine ww ?_)
   refine aO (Or.inl rfl) results97 (aD.tmp rfl) ?_
   have A:∀{z:Nat},w.heap.size<=z->z∉[c1]:=fun h=>bQ (by omega)
   have y:∀{z:Nat},w.heap.size<=z->z∉[c2]:=fun h=>bQ (by omega)
   have ap:iY tot (n+2) (lg a h x.t) (fV f x.t):=s.ask h x.t
   have K:lg a h x.t=FX a x.t.frm x.t.body:=by unfold lg;rw[if_neg c,if_pos i]
   rw[K] at ap
   refine⟨J,C,I,_,by rw[D,o,i],ad.kp d (bQ P),aa,⟨(an.blk.kp g (A (by omega))).kp d (y (by omega)),(an.map.kp g (A (by omega))).kp d (y (by omega))⟩,ap,by rw[k];exact(aC.kp g (A (by omega))).kp d (y (by omega)),(T.any.trans (g.mono (fun z j=>by simp_all))).trans (d.mono (fun z j=>by simp_all)),Or.inr (by omega)⟩
  ·rw[if_neg (by rw[<-ae];exact i)] at k p
   repeat (first|apply ar|(apply au;rfl;(first|apply aB|apply aE|apply fE)<;>first|rfl|exact qr))
   refine bA rfl ?_
   repeat (first|apply ar|refine ww ?_)
   refine aO (Or.inl rfl) results97 (aD.tmp rfl) ?_
   exact⟨bk,B,tb,m,by rw[D,o],af,ak,E.az T,by rw[p];exact M.mono (by omega),by rw[k];exact L.az T,T.any,Or.inl rfl⟩
end
section
variable{A:List Nat}{n:Nat}{w:World}
def Vq(d i h:Int):Bool:=decide (0<=i)&&(decide (0<=h)&&decide (i<=h-d))
attribute [local irreducible] CG NG SG aP aM Row aG aF aQ aJ sJ
theorem nv{n0 U:Nat}{x y:Bm}(s:x.In n0 w)(A:y.In U w)(g:x.b=y.b):dq prog 23 #[eL x,eL y] w (.bool true):=by
 refine bN func23 rfl ntmps23 rfl ?_
 have e1:x.par=y.par:=congrArg Bl.par g
 have e2:x.ht=y.ht:=congrArg Bl.ht g
 have e3:x.mkr=y.mkr:=congrArg Bl.mkr g
 have v:x.xs.map (·.t)=y.xs.map (·.t):=congrArg Bl.txs g
 have e5:x.xs.length=y.xs.length:=by have:=congrArg length v;simpa using this
 have e6:(x.xs.length:Int)=(y.xs.length:Int):=by omega
 have ad:=s.len
 repeat apply ar
 refine SG.box rfl rfl rfl (ag rfl) (fun n w1 P ab d=>?_)
 have d:aG w1 n (.cells (cR x).toArray 50):=d
 refine SG.box rfl rfl rfl (ag rfl) (fun o C z ac f=>?_)
 have f:aG C o (.cells (cR y).toArray 50):=f
 have B:=P.trans z
 have d:=d.az z
 obtain⟨-,V,Y,Z,W⟩:=bJ d
 obtain⟨-,q0,q8,q9,m⟩:=bJ f
 repeat (first|apply ar|(apply au;rfl;(first|apply aB|apply aE|apply aZ|apply bf|apply aU|apply cI|apply du|apply Cp|apply dg)<;>first|rfl|assumption|exact qf|exact wn|apply ai))
 refine bA rfl ?_
 repeat (first|apply ar|(apply au;rfl;(first|apply aB|apply aZ|apply aU|apply dg)<;>first|rfl|assumption|exact wn))
 refine CG.loop (X:=Nat) (fun i=>[(2,.pointer (some ⟨n,0,none⟩)),(3,.pointer (some ⟨o,0,none⟩)),(36,.slice x.a x.xs.length x.c),(37,.int .i64 (x.xs.length:Int)),(38,.int .i64 (i:Int))])
  (fun i w'=>i<=x.xs.length/\Kp [] C w') (fun i=>x.xs.length-i) 0 ⟨Nat.zero_le _,Kp.refl _ _⟩ (aS.of rfl) ?_
 clear V Y Z W q0 q8 q9 m
 rintro i w3 ⟨hi,k⟩
 refine CG.to [(2,.pointer (some ⟨n,0,none⟩)),(3,.pointer (some ⟨o,0,none⟩)),(36,.slice x.a x.xs.length x.c),(37,.int .i64 (x.xs.length:Int)),(38,.int .i64 (i:Int))] (aS.of rfl) ?_
 by_cases h:i<x.xs.length
 ·have H:(i:Int)<(x.xs.length:Int):=by omega
  have q:i<y.xs.length:=by omega
  have g2:(i:Int)<(y.xs.length:Int):=by omega
  have j:=B.trans k
  obtain⟨ba,ae,E,T⟩:=(s.tx.sl.az j).at h
  obtain⟨aa,af,F,r⟩:=(A.tx.sl.az j).at q
  have G:sJ x.xs[i].t y.xs[i].t=true:=yl (by
   have I:(x.xs.map (·.t))[i]'(by rw[length_map];exact h)=x.xs[i].t:=getElem_map _
   have J:(y.xs.map (·.t))[i]'(by rw[length_map];exact q)=y.xs[i].t:=getElem_map _
   rw[<-I,<-J]
   simp only[v])
  have M:=(s.tx.ins _ (getElem_mem h)).az j
  have N:=(A.tx.ins _ (getElem_mem q)).az j
  rw[E]
  generalize x.xs[i]=u at*
  generalize y.xs[i]=yt at*
  repeat (first|apply ar|refine ul ?_)
  refine bO rfl ?_
  repeat (first|apply ar|(apply au;rfl;(first|apply aB|apply bf|apply fa)<;>first|rfl|exact zc|assumption|exact wn|apply ay))
  refine SG.alloc rfl rfl rfl (fun D w5 Q O K=>?_)
  repeat refine wt ?_
  refine SG.aN (l:=bV u) rfl rfl (ag rfl) (ag rfl) K (ay _) rfl (bY _) (fun w6 R L=>?_)
  have e:=Q.aj R (aW O)
  have r6:Row w6 D 0 (bV u):=Row.all L rfl
  have r:=r.az e
  obtain⟨-,-,-,-,m⟩:=bJ (f.az (k.trans e))
  rw[F] at m
  clear T
  repeat apply ar
  refine CG.tail mixed 6 [0,1,2,3,4,5] (by kernel_rfl) ?_
  repeat (apply bW;rfl;rfl;(first|apply aB|apply aZ|apply bf|apply aU|apply fa)<;>first|rfl|exact zc|assumption|exact wn|apply ay)
  refine aM.tl (fun w7 p _ _=>?_)
  refine SG.ret rfl rfl rfl (vs:=[eG u,eG yt]) (bg.of rfl) (qQ ((M.az e).az p) ((N.az e).az p)) (fun w8 S=>?_)
  rw[G]
  clear r6 r m
  repeat (first|apply ar|(apply au;rfl;apply ig<;>rfl))
  refine bA rfl ?_
  repeat (first|apply ar|refine wz ?_)
  refine NG.round (i+1) (aS.of rfl) ⟨h,((k.trans e).trans p).trans S⟩ (by omega)
 ·have H:¬(i:Int)<(x.xs.length:Int):=by omega
  repeat (first|apply ar|refine un ?_)
  refine bA rfl ?_
  repeat (first|apply ar|refine wt ?_)
  refine aO (Or.inl rfl) results23 (aD.tmp rfl) ?_
  exact⟨rfl,B.trans k⟩
theorem dt.nb{Ts:List TypeId}{S:List Nat}(h:dt n Ts A w S){b:Nat}{cs:Array Value}{T:TypeId}(a:aG w b (.cells cs T))(c:T∉Ts):b∉S:=h.no a c
def o8(ns:List (Dg×Nat×Nm))(d:Dg):Bl:=((aC ns d).map (fun q=>q.2.x.b)).getD ⟨zd,0,zd,[]⟩
structure Lq(w0 w:World)(ns:List (Dg×Nat×Nm))(l:List Dg)(v:Value)(ys:List Bm):Prop where
 own:w.ownsRow w0.heap.size 50 18 v ys.length (bX cR ys)
 ins:∀y∈ys,y.In 0 w
 eq:ys.map Bm.b=l.map (o8 ns)
 nw:∀y∈ys,∀b off,y.a=some ⟨b,off,none⟩->w0.heap.size<=b
theorem zy{tot:Int}{c:Cm}(h:cS w n A tot c)(wf:c.tr.WF)(hl:(c.tr.line c.tr.tip).length<=100000)(hq:∀ah∈c.tr.line c.tr.tip,∃q,aC c.ns ah=some q):Calls prog 16 #[.pointer (some ⟨c.cb,0,none⟩)] w
  (fun p D=>∃j o,p= .returned j/\Lq w D c.ns (c.tr.line c.tr.tip) j o/\Kp [] w D):=by
 refine bC func16 rfl ntmps16 rfl ?_
 obtain⟨-,-,-,-,r5,-,r7⟩:=cZ h
 repeat (first|apply ar|refine qa1 ?_)
 refine bA rfl ?_
 repeat (first|apply ar|refine wt ?_)
 refine CG.draw mixed [0,1,2,3,4,5,6,7,8,11,9,10] [9] [] [] (fun _=>True) (by kernel_rfl) (by simp) (by simp) trivial (fun _ _ _ _=>trivial) (Or.inl rfl) ?_
 repeat (apply bW;rfl;rfl;(first|apply aB|apply aZ|apply aU|apply bR)<;>first|rfl|assumption|exact wn)
 refine aM.call rfl rfl rfl (vs:=[.pointer (some ⟨c.tb,0,none⟩)]) (bg.of rfl) (fun W d _=>fb (h.tree.az d)) ?_
 repeat (apply bW;rfl;rfl;apply aB<;>rfl)
 refine aM.mR (c.tr.line c.tr.tip) rfl rfl rfl rfl (vs:=[.pointer (some ⟨c.tb,0,none⟩),dv c.tr.tip]) (bg.of rfl) sX (fun W d _=>j4 (h.tree.az d) wf c.tr.tip) (fun R cc=>?_)
 repeat (apply bW;rfl;rfl;apply dg<;>rfl)
 refine aM.fin (fun F O I _=>?_)
 obtain⟨-,ac⟩:=I
 have V:=ac.sl
 clear r5 r7 ac
 obtain⟨g,ae⟩:∃g,g=c.tr.line c.tr.tip:=⟨_,rfl⟩
 rw[<-ae] at hl hq V⊢
 repeat apply ar
 refine CG.loop (X:=Nat×Value×List Bm) (fun q=>[(0,.pointer (some ⟨c.cb,0,none⟩)),(3,q.2.1),(17,.slice R g.length cc),(18,.int .i64 (g.length:Int)),(19,.int .i64 (q.1:Int))])
  (fun q D=>q.1<=g.length/\(Kp [] w D/\F.heap.size<=D.heap.size)/\Sl dc 8 D R g/\q.2.2.length=q.1/\Lq F D c.ns (g.take q.1) q.2.1 q.2.2) (fun q=>g.length-q.1) (0,.slice none 0 0,[]) ⟨Nat.zero_le _,⟨O,Nat.le_refl _⟩,V,rfl,dY,(fun _ h=>absurd h not_mem_nil),rfl,(fun _ h=>absurd h not_mem_nil)⟩ (by rw[ae];(repeat' (first|exact True.intro|exact rfl|refine And.intro ?_ ?_))) ?_
 rintro⟨B,j,o⟩ w4 ⟨hi,⟨k4,aA⟩,ab,ay,r⟩
 simp only at hi ay r
 refine CG.to [(0,.pointer (some ⟨c.cb,0,none⟩)),(3,j),(17,.slice R g.length cc),(18,.int .i64 (g.length:Int)),(19,.int .i64 (B:Int))] (aS.of rfl) ?_
 by_cases J:B<g.length
 ·have H:(B:Int)<(g.length:Int):=by omega
  obtain⟨ba,s,rfl,aw⟩:=ab.at J
  obtain⟨q,af⟩:=hq _ (getElem_mem J)
  repeat (first|apply ar|refine ul ?_)
  refine bO rfl ?_
  repeat (first|apply ar|refine qb4 ?_)
  refine SG.alloc rfl rfl rfl (fun b5 w5 ap ao ak=>?_)
  refine SG.aN (l:=dc g[B]) rfl rfl (ag rfl) (ag rfl) ak (ai _) rfl (bj _) (fun G aq aa=>?_)
  have K:=ap.aj aq (aW ao)
  have k6:=k4.trans K
  have M:=h.az k6
  have q6:Row G b5 0 (dc g[B]):=Row.all aa rfl
  obtain⟨-,-,-,-,-,-,r7⟩:=cZ M
  have hM:=M.map
  have C:=aV r.own K
  have T:=M.yQ af
  obtain⟨-,-,t3,-⟩:=fg T.blk
  have s3:=O.size
  have N:dt n [50] [] G (aR j):=dt.own C (Nat.le_trans h.w0 s3) (by decide)
  have n1:c.cb∉aR j:=N.nb M.blk (by decide)
  have n2:b5∉aR j:=N.nb aa (by decide)
  have n3:q.1∉aR j:=N.nb T.blk (by decide)
  have n4:c.nm∉aR j:=qw C hM
  have s6:F.heap.size<=G.heap.size:=Nat.le_trans aA K.size
  clear aw
  repeat apply ar
  refine CG.dS mixed 13 [0,1,2,3,4,5,6,7,8,9,10,11,12] [10,11,12] (aR j) (fun W=>True/\W.ownsRow F.heap.size 50 18 j o.length (bX cR o)) (by kernel_rfl) ⟨trivial,C⟩ (fun _ _ d h=>⟨trivial,aV h.2 d⟩) ?_
  repeat (apply bW;rfl;rfl;(first|apply aB|apply aZ|apply bf|apply aU|apply bR|apply oQ)<;>first|rfl|assumption|apply ai|apply aH|exact iX (by assumption)|fail)
  refine aM.ES (X:=Bm) (vs:=[eL q.2.x]) (fun y=>eL y) (fun y W=>y.b=q.2.x.b/\y.In 0 W/\∀u s,y.a=some ⟨u,s,none⟩->G.heap.size<=u) (fun _ W=>True/\W.ownsRow F.heap.size 50 18 j o.length (bX cR o)) rfl rfl rfl rfl (bg.of rfl) (fun _ _ _ d h=>⟨h.1,h.2.1.az d,h.2.2⟩) (fun _ _ _ d h=>⟨trivial,aV h.2 d⟩) (fun W d _ U=>(jx (T.x.jq d N (by decide) (by decide))).mono (fun p W' hh=>?_)) (fun y=>?_)
  ·obtain⟨y,hy,he,ax,ad,hn⟩:=hh
   exact⟨y,he,⟨trivial,hy,ax,fun u s p=>Nat.le_trans d.size (hn u s p)⟩,⟨trivial,aV U.2 ad⟩,ad.any⟩
  refine aM.EY (cs:=(cR y).toArray) (E:=50) rfl rfl rfl rfl rfl (fun W=>R4 y W) (fun _ _ d h=>⟨trivial,h.2.1,h.2.2.1.az d,h.2.2.2⟩) (fun _ _ d h=>⟨trivial,aV h.2 d⟩) (fun bn=>?_)
  apply aM.xR (P:=prog) (t:=42) (base:=F.heap.size) (e:=50) (i:=Tryz.t50) (f:=ty.i50) (v:=j) (nn:=o.length) (xs:=bX cR o) (b:=bn) (off:=0) (m:=1) (c:=1) (news:=cR y)
  iterate 4 exact rfl
  iterate 2 exact ag rfl
  iterate 3 exact rfl
  ·exact fun W d I=>Row.all I.2.2 rfl
  ·rw[aH];rfl
  ·exact dB _
  ·simp only[maxLen];omega
  ·show(o.length+1)*48<=_;omega
  ·omega
  ·exact fun _ h=>h
  ·rintro W W' hO d-⟨⟨-,H,L,S⟩,g4,g5⟩
   exact⟨⟨trivial,H,⟨L.tx.kp d (dD.own hO (Nat.zero_le _) (by decide)) (eA.own hO (Nat.zero_le _) (by decide)),L.len⟩,S⟩,g4,g5.kp d (fun Y=>by have:=cK C _ (aL Y);omega)⟩
  ·exact fun _ _ _ h=>trivial
  ·exact fun _ _ _ _ h=>trivial
  intro v7
  refine aM.tl (fun w7 Q I U=>?_)
  obtain⟨⟨⟨-,H,L,S⟩,-⟩,-⟩:=I
  obtain⟨-,Z⟩:=U
  have Z:w7.ownsRow F.heap.size 50 18 v7 (o++[y]).length (bX cR (o++[y])):=by
   rw[dP,ix,length_append]
   exact Z
  have al:dD 0 G (aR j):=dD.own C (Nat.zero_le _) (by decide)
  have an:eA 52 0 G (aR j):=eA.own C (Nat.zero_le _) (by decide)
  have am:Sl dc 8 w7 (some ⟨ba,s,none⟩) g:=(ab.az K).kp Q (fun u s p=>by
   cases p
   obtain⟨b2,o2,e2,av⟩:=V.at J
   cases e2
   have l2:=av.lt
   exact fun Y=>by have:=cj C _ (aL Y);omega)
  repeat (first|apply ar|refine us ?_)
  refine NG.round (B+1,v7,o++[y]) (aS.of rfl) ⟨J,⟨k6.aj Q (fun aF hx=>Or.inr (Nat.le_trans s3 (cj C aF (aL hx)))),Nat.le_trans s6 Q.size⟩,am,by simp only[length_append,length_singleton];omega,Z,fun z k=>?_,?_,fun z k u s p=>?_⟩ (by simp only;omega)
  ·rcases mem_append.1 k with k|k
   ·exact⟨((r.ins z k).tx.az K).kp Q al an,(r.ins z k).len⟩
   ·rw[mem_singleton] at k
    rw[k]
    exact L
  ·show(o++[y]).map Bm.b=(g.take (B+1)).map (o8 c.ns)
   rw[map_append,r.eq,map_take,map_take,take_one (o8 c.ns) J]
   congr 1
   show[y.b]=[o8 c.ns g[B]]
   rw[H]
   unfold o8
   rw[af]
   rfl
  ·rcases mem_append.1 k with k|k
   ·exact r.nw z k u s p
   ·rw[mem_singleton] at k
    rw[k] at p
    exact Nat.le_trans s6 (S u s p)
 ·have H:¬(B:Int)<(g.length:Int):=by omega
  have ei:B=g.length:=by omega
  subst ei
  rw[take_length] at r
  repeat (first|apply ar|refine un ?_)
  refine bA rfl ?_
  repeat (first|apply ar|refine ww ?_)
  refine aO (Or.inl rfl) results16 (aD.tmp rfl) ?_
  exact⟨j,o,rfl,⟨c9 r.own O.size,r.ins,r.eq,fun y hy u s p=>Nat.le_trans O.size (r.nw y hy u s p)⟩,k4⟩
end
section
variable{ws:List Dg}{n:Nat}{w:World}
def D3(ws:List Dg)(lv:List UInt8):List Dg:=if ws.length=0 then[] else lv.map (fun i=>ws.getD (i.toNat%ws.length) zd)
theorem xe(b:List Dg)(a:List UInt8):D3 b (a.take 0)=[]:=by unfold D3;split<;>rfl
theorem om(h:ws.length=0)(l:List UInt8):D3 ws l=[]:=if_pos h
theorem xf{a:List UInt8}{i j:Nat}(h:i<a.length)(b:j=a[i].toNat%ws.length)(c:j<ws.length):D3 ws (a.take (i+1))=D3 ws (a.take i)++[ws[j]]:=by
 unfold D3
 rw[if_neg (by omega),if_neg (by omega),take_succ_eq_append_getElem h,map_append,map_singleton,<-b]
 simp[getD,getElem?_eq_getElem c]
def yX(u:UInt8):UInt8:=UInt8.ofNat (5:Int).toNat+u%UInt8.ofNat (3:Int).toNat
def Sd(q:Wl)(a:Ax)(y:Bm):Prop:=∃x z D p,q.bs[a.wh.toNat%q.bs.length]?=some x/\nC x.b (aI x.b)= .tuple #[dv D,.int .i64 z]/\aC q.c.ns D=some p/\
 y.b=⟨D,p.2.x.ht+1,d1 (yX a.who),rq (d1 (yX a.who)) p.2.f [] (sV (q.c.ps.map Em.en) (D3 ((fU (q.c.ps.map Em.en)).map (fun e=>aJ e.t)) a.lv))⟩
def V3(w:World)(n:Nat)(q:Wl)(a:Ax)(e:Ending)(w':World):Prop:=
 ∃(y:Bm) (ok:Bool),e= .returned (.tuple #[eL y,.bool ok])/\y.In n w'/\Kp [] w w'/\(y.xs≠[]->∀b off,y.a=some ⟨b,off,none⟩->b∉aR q.vs)/\(((a.dO%UInt8.ofNat (Int.toNat 4)).toNat:Int)=1->ok=true->Sd q a y)
theorem Ip(b:Bl)(d:Dg):∃(D:Dg) (z:Int),nC b d= .tuple #[dv D,.int .i64 z]:=by
 unfold nC
 by_cases h:bz b=0
 ·exact⟨d,0,by rw[if_pos h]⟩
 ·exact⟨zd,bz b,by rw[if_neg h]⟩
theorem I6(n:Nat)(w:World):il.In n w:=⟨⟨Sl.nil,Or.inl (fun h=>absurd rfl h),fun _ h=>by cases h⟩,by decide⟩
theorem Bm.In.up{m:Nat}{x:Bm}(h:x.In m w)(a:m<=n):x.In n w:=⟨⟨h.tx.sl,h.tx.tg.imp id (fun g b d e=>Nat.lt_of_lt_of_le (g b d e) a),fun y c=>(h.tx.ins y c).mono a⟩,h.len⟩
theorem Bm.In.wr{b:Nat}{x:Bm}{d:World}{cs:Array Value}(h:x.In n w)(e:Kp [b] w d)(c:n<=b)(a:aG w b (.cells cs 50)):x.In n d:=⟨h.tx.kp e (dD.cons c (dD.cells a (by decide)) dD.nil) (eA.cons c (eA.cells a (by decide)) eA.nil),h.len⟩
attribute [local irreducible] CG NG SG aP aM Row aG aF aQ bG aI bz nC
theorem ye{bw:Nat}{tot:Int}{q:Wl}(h:dF w n tot bw q){bp:Int}(ok:fX q.c bp)(hH:bp<=500)(co:tot<=1000000000)(b6:0<q.bs.length)(cS:q.bs.length<=1000)(ca:∀d∈q.bs,0<=d.ht/\d.ht<=1000)(j6:q.ss.length<=1000){a:Ax}(ha:a.In n w):
  Calls prog 45 #[.pointer (some ⟨bw,0,none⟩),.pointer (some ⟨q.c.cb,0,none⟩),Jx a] w (V3 w n q a):=by
 refine dG func45 rfl ntmps45 rfl ?_
 obtain⟨av,cv,ev,cX,b3⟩:=Sl.own aH h.bl rfl
 obtain⟨ap,hj⟩:∃ap,ap=a.wh.toNat%q.bs.length:=⟨_,rfl⟩
 have a4:ap<q.bs.length:=by rw[hj];exact Nat.mod_lt _ b6
 have cc:(a.wh.toNat:Int)%(q.bs.length:Int)=(ap:Int):=by rw[hj];rfl
 have c8:0<=(a.wh.toNat:Int)/\0<(q.bs.length:Int):=by omega
 obtain⟨cL,ov,rfl,bd⟩:=b3.at a4
 repeat apply ar
 refine SG.box rfl rfl rfl (ag rfl) (fun b5 w1 L cN a0=>?_)
 have a0:aG w1 b5 (.cells (tX a).toArray 35):=a0
 refine SG.alloc rfl rfl rfl (fun r w2 bz b8 a2=>?_)
 have a2:aG w2 r (.cells (cR il).toArray 50):=a2
 have k2:=L.trans bz
 have bq:=a0.az bz
 have h2:=h.az k2
 have Y:w.heap.size<=r:=Nat.le_trans L.size b8
 obtain⟨-,-,-,-,-,-,-,-,r7,-⟩:=eQ bq
 obtain⟨-,-,-,z3⟩:=cP h2.blk
 rw[ev] at z3
 have bd:=bd.az k2
 repeat (first|apply ar|refine wt ?_)
 refine CG.fA mixed [0,1,2,3,4,5,6,7,8,9,10,11,12,13,14] [(15,16,8,.tmp 34)] (by kernel_rfl) (by kernel_rfl) ?_
 repeat (apply bW;rfl;rfl;(first|apply Fw|apply Jr|apply aB|apply aZ|apply aU|apply bR|apply dg)<;>first|rfl|exact zc|assumption|exact wn)
 rw[cc]
 repeat (apply bW;rfl;rfl;(first|apply bf|apply fa)<;>first|rfl|exact zc|assumption|exact wn|apply aH)
 refine aM.one (fq.of (by rfl) rfl rfl rfl (ag rfl) (by exact aH _) (by rfl) (by exact dB _)) (fun I w3 a7 cO af=>?_)
 obtain⟨d,hx⟩:∃d,q.bs[ap]=d:=⟨_,rfl⟩
 have bh:d∈q.bs:=by rw[<-hx];exact getElem_mem a4
 rw[hx] at af
 have af:aG w3 I (.cells (cR d).toArray 50):=af
 have k3:=k2.trans a7
 have bH:=(h.bi d bh).az k3
 clear r7 z3 bd
 obtain⟨D,z,eD⟩:=Ip d.b (aI d.b)
 have bE:=eP bH
 rw[eD] at bE
 have r8:Row w3 I 0 (cR d):=Row.all af rfl
 repeat (first|apply ar|refine qa9 ?_)
 refine SG.ret rfl rfl rfl (vs:=[eL d]) (bg.of rfl) bE (fun w4 ce=>?_)
 clear r8
 repeat refine qa7 ?_
 refine SG.alloc rfl rfl rfl (fun U w5 a8 b9 aF=>?_)
 refine SG.aN (l:=dc D) rfl rfl (ag rfl) (ag rfl) aF (ai _) rfl (bj _) (fun w6 cf aF=>?_)
 have aq:=ce.trans (a8.aj cf (aW b9))
 have k6:=k3.trans aq
 have ax:=bq.az (a7.trans aq)
 have ad:=a2.az (a7.trans aq)
 have bu:=af.az aq
 obtain⟨-,r0,-⟩:=eQ ax
 obtain⟨K,hK⟩:∃K:UInt8,a.dO%UInt8.ofNat (Int.toNat 4)=K:=⟨_,rfl⟩
 repeat (first|apply ar|(apply au;rfl;(first|apply Fv|apply aE|apply aZ|apply aU|apply fE)<;>first|rfl|exact zc|assumption|exact wn|exact B4))
 rw[hK]
 clear r0
 refine CG.to [(0,.pointer (some ⟨bw,0,none⟩)),(1,.pointer (some ⟨q.c.cb,0,none⟩)),(5,.pointer (some ⟨b5,0,none⟩)),(6,.pointer (some ⟨r,0,none⟩)),(7,.bool false),(8,.pointer (some ⟨I,0,none⟩)),(9,.pointer (some ⟨U,0,none⟩)),(42,bv K),(43,.bool (decide ((K.toNat:Int)=1)))] (aS.of rfl) ?_
 by_cases L:(K.toNat:Int)=1
 ·refine CG.ju rfl (ag rfl) (decide_eq_true L) ?_
  have h6:=h.az k6
  repeat (first|apply ar|refine qa0 ?_)
  refine SG.call rfl rfl rfl (vs:=[.pointer (some ⟨q.c.cb,0,none⟩)]) (bg.of rfl) ((mW h6.ch ok.pool).mono (fun e w7 F=>?_))
  obtain⟨v7,he,bF,N⟩:=F
  refine⟨_,he,?_⟩
  clear he
  obtain⟨k,bG⟩:∃k,(fU (q.c.ps.map Em.en)).map (fun e=>aJ e.t)=k:=⟨_,rfl⟩
  rw[bG] at bF
  obtain⟨aw,cw,rfl,cZ,b4⟩:=Sl.own ai bF rfl
  have k7:=k6.trans N
  have br:=ax.az N
  obtain⟨-,-,-,-,-,-,-,-,-,rl⟩:=eQ br
  have an:=ha.l.sl
  have c0:=ha.l2
  obtain⟨B,aX⟩:∃B,a.la=B:=⟨_,rfl⟩
  rw[aX] at rl an
  repeat (first|apply ar|refine qa6 ?_)
  refine CG.loop (X:=Nat×Value×List Dg) (fun g=>[(0,.pointer (some ⟨bw,0,none⟩)),(1,.pointer (some ⟨q.c.cb,0,none⟩)),(5,.pointer (some ⟨b5,0,none⟩)),(6,.pointer (some ⟨r,0,none⟩)),(7,.bool false),(8,.pointer (some ⟨I,0,none⟩)),(9,.pointer (some ⟨U,0,none⟩)),(11,.slice aw k.length cw),(12,g.2.1),(48,.slice B a.lv.length a.lc),(49,.int .i64 (a.lv.length:Int)),(50,.int .i64 (g.1:Int))])
   (fun g s=>g.1<=a.lv.length/\Kp [] w7 s/\s.ownsRow w7.heap.size 47 8 g.2.1 g.2.2.length (bX dc g.2.2)/\g.2.2.length<=g.1/\g.2.2=D3 k (a.lv.take g.1))
   (fun g=>a.lv.length-g.1) (0,.slice none 0 0,[]) ⟨Nat.zero_le _,Kp.refl _ _,⟨rfl,Or.inl ⟨rfl,rfl⟩⟩,Nat.le_refl _,(xe _ _).symm⟩ (aS.of rfl) ?_
  clear rl
  rintro⟨i,aa,R⟩ v ⟨hi,u,aQ,a9,ao⟩
  simp only at hi aQ a9 ao
  refine CG.to [(0,.pointer (some ⟨bw,0,none⟩)),(1,.pointer (some ⟨q.c.cb,0,none⟩)),(5,.pointer (some ⟨b5,0,none⟩)),(6,.pointer (some ⟨r,0,none⟩)),(7,.bool false),(8,.pointer (some ⟨I,0,none⟩)),(9,.pointer (some ⟨U,0,none⟩)),(11,.slice aw k.length cw),(12,aa),(48,.slice B a.lv.length a.lc),(49,.int .i64 (a.lv.length:Int)),(50,.int .i64 (i:Int))] (aS.of rfl) ?_
  by_cases O:i<a.lv.length
  ·have g1:(i:Int)<(a.lv.length:Int):=by omega
   obtain⟨ba,S,rfl,cm⟩:=(an.az (k7.trans u)).at O
   repeat (first|apply ar|refine ul ?_)
   refine bO rfl ?_
   repeat (first|apply ar|(apply au;rfl;(first|apply aB|apply aE|apply aZ|apply fa|apply dg|apply ij)<;>first|rfl|exact zc|assumption|exact wn|exact B4))
   by_cases be:0<k.length
   ·refine CG.ju rfl (ag rfl) (decide_eq_true (by omega:(0:Int)<(k.length:Int))) ?_
    obtain⟨j,V⟩:∃j,j=a.lv[i].toNat%k.length:=⟨_,rfl⟩
    have ak:j<k.length:=by rw[V];exact Nat.mod_lt _ be
    have a5:(a.lv[i].toNat:Int)%(k.length:Int)=(j:Int):=by rw[V];rfl
    have cq:0<=(a.lv[i].toNat:Int)/\0<(k.length:Int):=by omega
    obtain⟨bL,ow,rfl,cn⟩:=(b4.az u).at ak
    repeat (first|apply ar|(apply au;rfl;(first|apply Fw|apply Jr|apply aB|apply dg)<;>first|rfl|exact zc))
    rw[a5]
    repeat refine qb4 ?_
    refine SG.buildSlice rfl rfl rfl rfl (B8 _) (fun cJ w9 am cQ bU=>?_)
    have s8:=u.size
    have s9:=am.size
    have A:=aV aQ am
    refine SG.jN (enc:=dc) (xs:=R) (ys:=[k[j]]) (base:=w7.heap.size) rfl rfl rfl (ag rfl) (ag rfl) rfl rfl rfl rfl ai bj A (gy (enc:=dc) (sz:=8) (x:=k[j]) ai bU) (by simp only[maxLen,length_singleton];omega) (by show(R.length+1)*8<=_;omega) (by omega) (fun v8 di cd ck c5=>?_)
    repeat (first|apply ar|refine us ?_)
    refine NG.round (i+1,v8,R++[k[j]]) (aS.of rfl) ⟨O,(u.trans am).aj cd (ff A (Nat.le_refl _)),ck,by simp only[length_append,length_singleton];omega,by simp only;rw[ao];exact(xf O V ak).symm⟩ (by simp only;omega)
   ·refine CG.jv rfl (ag rfl) (decide_eq_false (by omega:¬(0:Int)<(k.length:Int))) ?_
    repeat (first|apply ar|refine wz ?_)
    refine NG.round (i+1,aa,R) (aS.of rfl) ⟨O,u,aQ,by simp only;omega,by simp only;rw[ao,om (by omega),om (by omega)]⟩ (by simp only;omega)
  ·have g1:¬(i:Int)<(a.lv.length:Int):=by omega
   have Q:=k7.trans u
   have a1:=br.az u
   obtain⟨-,-,bo,-⟩:=eQ a1
   have r9:Row v U 0 (dc D):=Row.all ((aF.az N).az u) rfl
   have aA:=(ad.az N).az u
   obtain⟨al,cl,rfl,cV,b1⟩:=Sl.own ai aQ rfl
   repeat (first|apply ar|refine un ?_)
   refine bA rfl ?_
   repeat (first|apply ar|(apply au;rfl;(first|apply Fv|apply LB|apply aB|apply aZ|apply bf|apply aU)<;>first|rfl|exact zc|assumption|exact wn|apply ai))
   refine SG.val rfl rfl rfl rfl (aK rfl (E6 _)) ?_
   obtain⟨M,hM⟩:∃M:UInt8,UInt8.ofNat (5:Int).toNat+a.who%UInt8.ofNat (3:Int).toNat=M:=⟨_,rfl⟩
   rw[hM]
   repeat refine qa0 ?_
   have h8:=h.az Q
   have bD:Calls prog 36 #[.pointer (some ⟨q.c.cb,0,none⟩),dv D,dv (d1 M),.slice al R.length cl] v (fun e s=>∃(y:Bm) (z':Int),e= .returned (.tuple #[eL y,.int .i64 z'])/\y.In 0 s/\(∀C S,y.a=some ⟨C,S,none⟩->v.heap.size<=C)/\(z'=0->∃p,aC q.c.ns D=some p/\y.b=⟨D,p.2.x.ht+1,d1 M,rq (d1 M) p.2.f [] (sV (q.c.ps.map Em.en) R)⟩)/\Kp [] v s):=by
    cases hp:aC q.c.ns D with
    |none=>exact(BI h8.ch D (d1 M) hp _).mono (fun e s F=>⟨il,24,F.1,I6 _ _,(fun _ _ e=>by cases e),(fun e=>absurd e (by decide)),F.2⟩)
    |some p=>
     obtain⟨n1,n2,n3⟩:=ok.nd D p hp
     exact(tC h8.ch co ok.pool D (d1 M) hp ⟨n1,by omega⟩ (by omega) b1 (by omega)).mono (fun e s F=>by
      obtain⟨y,e1,e5,e2,e3,e4⟩:=F
      exact⟨y,0,e1,e2,e3,fun _=>⟨p,rfl,e5⟩,e4⟩)
   refine SG.call rfl rfl rfl (vs:=[.pointer (some ⟨q.c.cb,0,none⟩),dv D,dv (d1 M),.slice al R.length cl]) (bg.of rfl) (bD.mono (fun e w9 F=>?_))
   obtain⟨y,z',he,P,cx,cy,am⟩:=F
   refine⟨_,he,?_⟩
   clear he bo r9 bD
   repeat refine qa7 ?_
   refine SG.alloc rfl rfl rfl (fun bK wA G bx aY=>?_)
   refine SG.aN (l:=cR y) rfl rfl (ag rfl) (ag rfl) aY (aH _) rfl (dB _) (fun wB bC aY=>?_)
   have bm:=am.trans (G.aj bC (aW bx))
   have bt:=aA.az bm
   have cD:Row wB bK 0 (cR y):=Row.all aY rfl
   repeat (first|apply ar|(apply au;rfl;(first|apply aB|apply aE|apply bf|apply fE)<;>first|rfl|assumption|exact wn|apply aH|exact B4))
   refine SG.aN (l:=cR y) rfl rfl (ag rfl) (ag rfl) bt (aH _) rfl (dB _) (fun wC H ah=>?_)
   have hr:Row wC r 0 (cR y):=Row.all ah rfl
   clear cD
   repeat (first|apply ar|refine wt ?_)
   refine dT (Or.inl rfl) results45 (aD.agg rfl rfl hr (aH _)) (aD.tmp rfl) ?_
   have s8:=Q.size
   have s9:=bm.size
   have s5:=a8.size
   have s3:=k3.size
   have kC:Kp [] w wC:=(Q.trans bm).aj H (aW Y)
   exact⟨y,_,rfl,(((P.up (Nat.zero_le n)).az (G.aj bC (aW bx))).wr H (Nat.le_trans h.ch.w0 Y) bt),kC,fun _ C S e W=>by have h1:=cK h.sg C (aL W);have h2:=cx C S e;omega,fun _ hz=>by
    obtain⟨p,hp,cu⟩:=cy (of_decide_eq_true hz)
    refine⟨d,z,D,p,?_,eD,hp,?_⟩
    ·rw[<-hj,getElem?_eq_getElem a4,hx]
    ·have ei:i=a.lv.length:=by omega
     rw[ei,take_length] at ao
     rw[cu,ao,<-hM,<-bG]
     rfl⟩
 refine CG.jv rfl (ag rfl) (decide_eq_false L) ?_
 repeat (first|apply ar|(apply au;rfl;(first|apply aE|apply fE)<;>first|rfl|exact B4))
 refine CG.to [(0,.pointer (some ⟨bw,0,none⟩)),(1,.pointer (some ⟨q.c.cb,0,none⟩)),(5,.pointer (some ⟨b5,0,none⟩)),(6,.pointer (some ⟨r,0,none⟩)),(7,.bool false),(8,.pointer (some ⟨I,0,none⟩)),(9,.pointer (some ⟨U,0,none⟩)),(84,.bool (decide ((K.toNat:Int)=2)))] (aS.of rfl) ?_
 obtain⟨c9,da⟩:=ca d bh
 by_cases bB:(K.toNat:Int)=2
 rotate_left
 ·refine CG.jv rfl (ag rfl) (decide_eq_false bB) ?_
  have r8:Row w6 I 0 (cR d):=Row.all bu rfl
  repeat (first|apply ar|refine qa9 ?_)
  refine SG.aN (l:=cR d) rfl rfl (ag rfl) (ag rfl) ad (aH _) rfl (dB _) (fun wC H ah=>?_)
  have hr:Row wC r 0 (cR d):=Row.all ah rfl
  clear r8
  repeat (first|apply ar|refine wt ?_)
  refine dT (Or.inl rfl) results45 (aD.agg rfl rfl hr (aH _)) (aD.tmp rfl) ?_
  exact⟨d,_,rfl,(bH.az aq).wr H (Nat.le_trans h.ch.w0 Y) ad,k6.aj H (aW Y),h.sb d bh,fun e=>absurd (by rw[hK] at e;exact e) L⟩
 refine CG.ju rfl (ag rfl) (decide_eq_true bB) ?_
 obtain⟨cI,cM,bN,cW,b2⟩:=Sl.own ay h.sg rfl
 have db: -9223372036854775808<=d.ht+1/\d.ht+1<=9223372036854775807:=by omega
 obtain⟨-,-,r8,-,-⟩:=bJ bu
 obtain⟨-,-,bo,-⟩:=eQ ax
 have r9:Row w6 U 0 (dc D):=Row.all aF rfl
 repeat (first|apply ar|(apply au;rfl;(first|apply Fv|apply LB|apply aZ|apply bf|apply aU|apply dp)<;>first|rfl|exact zc|assumption|exact wn|apply ai))
 refine SG.val rfl rfl rfl rfl (aK rfl (E6 _)) ?_
 obtain⟨M,hM⟩:∃M:UInt8,UInt8.ofNat (5:Int).toNat+a.who%UInt8.ofNat (3:Int).toNat=M:=⟨_,rfl⟩
 rw[hM]
 skip
 refine SG.val rfl rfl rfl rfl (aK rfl (RR D (d1 M) (d.ht+1))) ?_
 refine SG.alloc rfl rfl rfl (fun ab w7 N b7 J=>?_)
 refine SG.aN (l:=mS D (d.ht+1) (d1 M) (.slice none 0 0)) rfl rfl (ag rfl) (ag rfl) J (gl _ _ _ _) rfl (oG _ _ _ _ rfl) (fun v u J=>?_)
 have bk:=N.aj u (aW b7)
 have Q:=k6.trans bk
 have a1:=ax.az bk
 have aA:=ad.az bk
 clear r8 r9 bo
 obtain⟨-,-,-,-,-,-,-,-,-,rl⟩:=eQ a1
 have an:=ha.l.sl
 have c1:=ha.ll
 obtain⟨B,aX⟩:∃B,a.la=B:=⟨_,rfl⟩
 rw[aX] at rl an
 obtain⟨m,W,c3,c2⟩:∃m:Nat,(if(10:Int)<(a.lv.length:Int) then(10:Int) else(a.lv.length:Int))=(m:Int)/\m<=a.lv.length/\m<=10:=by
  by_cases h:(10:Int)<(a.lv.length:Int)
  ·exact⟨10,by rw[if_pos h];rfl,by omega,by omega⟩
  ·exact⟨a.lv.length,by rw[if_neg h],Nat.le_refl _,by omega⟩
 repeat (first|apply ar|(apply au;rfl;(first|apply Qu|apply aB|apply aZ|apply aU|apply dg|apply Lv)<;>first|rfl|exact zc|assumption|exact wn))
 refine CG.loop (X:=Nat×Value×List Tm) (fun g=>[(0,.pointer (some ⟨bw,0,none⟩)),(6,.pointer (some ⟨r,0,none⟩)),(17,.pointer (some ⟨ab,0,none⟩)),(102,.slice B m a.lc),(103,.int .i64 (m:Int)),(104,.int .i64 (g.1:Int))])
  (fun g s=>g.1<=m/\Kp [] w s/\(aG s ab (.cells (mS D (d.ht+1) (d1 M) g.2.1).toArray 50)/\aG s r (.cells (cR il).toArray 50)/\v.heap.size<=s.heap.size)/\s.ownsRow v.heap.size 52 13 g.2.1 g.2.2.length (bX bV g.2.2)/\g.2.2.length<=g.1/\∀y∈g.2.2,y∈q.ss)
  (fun g=>m-g.1) (0,.slice none 0 0,[]) ⟨Nat.zero_le _,Q,⟨J,aA,Nat.le_refl _⟩,⟨rfl,Or.inl ⟨rfl,rfl⟩⟩,Nat.le_refl _,fun y P=>by cases P⟩ (aS.of rfl) ?_
 clear rl
 have cA:=J.lt
 have cB:=aA.lt
 have df:=a8.size
 have cE:=k6.size
 have dh:=ad.lt
 have de:=N.size
 rintro⟨i,aa,o⟩ w9 ⟨hi,Z,⟨ac,ae,cG⟩,A,a9,aT⟩
 simp only at hi ac ae A a9 aT
 refine CG.to [(0,.pointer (some ⟨bw,0,none⟩)),(6,.pointer (some ⟨r,0,none⟩)),(17,.pointer (some ⟨ab,0,none⟩)),(102,.slice B m a.lc),(103,.int .i64 (m:Int)),(104,.int .i64 (i:Int))] (aS.of rfl) ?_
 have h9:=h.az Z
 by_cases O:i<m
 ·have g1:(i:Int)<(m:Int):=by omega
  have ci:i<a.lv.length:=by omega
  obtain⟨ba,S,rfl,cm⟩:=(an.az Z).at ci
  obtain⟨-,-,z2,-⟩:=cP h9.blk
  rw[bN] at z2
  repeat (first|apply ar|refine ul ?_)
  refine bO rfl ?_
  repeat (first|apply ar|(apply au;rfl;(first|apply aB|apply aE|apply aZ|apply aU|apply bR|apply fa|apply dg|apply ij)<;>first|rfl|exact zc|assumption|exact wn|exact B4))
  by_cases be:0<q.ss.length
  ·refine CG.ju rfl (ag rfl) (decide_eq_true (by omega:(0:Int)<(q.ss.length:Int))) ?_
   obtain⟨j,V⟩:∃j,j=a.lv[i].toNat%q.ss.length:=⟨_,rfl⟩
   have ak:j<q.ss.length:=by rw[V];exact Nat.mod_lt _ be
   have a5:(a.lv[i].toNat:Int)%(q.ss.length:Int)=(j:Int):=by rw[V];rfl
   have cq:0<=(a.lv[i].toNat:Int)/\0<(q.ss.length:Int):=by omega
   obtain⟨bL,ow,rfl,cn⟩:=(b2.az Z).at ak
   obtain⟨-,-,cH⟩:=gj ac
   refine CG.dS mixed 17 [0,1,2,3,4,5,6,7,8,9,10,11,12,13,14,15,16] [16] [] (fun _=>True) (by kernel_rfl) trivial (fun _ _ _ _=>trivial) ?_
   repeat (apply bW;rfl;rfl;(first|apply Fw|apply Jr|apply aB|apply aZ|apply aU|apply bR|apply dg)<;>first|rfl|exact zc|assumption|exact wn)
   rw[a5]
   repeat (apply bW;rfl;rfl;(first|apply bf|apply fa)<;>first|rfl|exact zc|assumption|exact wn|apply ay)
   refine aM.lP (cs:=(bV q.ss[j]).toArray) (E:=52) rfl rfl rfl rfl rfl (fun bI=>zF _ bI) (by simp) (fun _ _ _ _=>trivial) (fun _ _ _ _=>trivial) (fun bn=>?_)
   refine aM.tl (fun wA G hF _=>?_)
   obtain⟨-,cT,bZ⟩:=hF
   have sA:=G.size
   have bc:=aV A G
   have c4:w.heap.size<=v.heap.size:=Q.size
   have bS:=ac.az G
   clear cH
   refine SG.jN (enc:=bV) (xs:=o) (ys:=[q.ss[j]]) (base:=v.heap.size) rfl rfl rfl (ag rfl) (ag rfl) rfl rfl rfl rfl ay bY bc (gy (enc:=bV) (sz:=13) (x:=q.ss[j]) ay bZ) (by simp only[maxLen,length_singleton];omega) (by show(o.length+1)*80<=_;omega) (by omega) (fun v6 W6 aO bb c7=>?_)
   obtain⟨a6,c6,rfl⟩:=ik bb
   have nA:∀{z:Nat},z<v.heap.size->z∉aR aa:=fun hz W=>by have:=cj bc _ (aL W);omega
   have J:=bS.kp aO (nA cA)
   have bT:=(ae.az G).kp aO (nA cB)
   have cE:=aO.size
   have cz:=(Z.trans G).aj aO (fun z hz=>Or.inr (by have:=cj bc z (aL hz);omega))
   repeat (apply au;rfl;apply aU<;>rfl)
   refine SG.cp (dc D++(.int .i64 (d.ht+1)::dc (d1 M))) [aa] [] rfl rfl (ag rfl) (ag rfl) J (uS _ _ _ _) rfl rfl (uR _ _ _) rfl (fun W7 aP a3=>?_)
   have a3:aG W7 ab (.cells (mS D (d.ht+1) (d1 M) (.slice a6 (o++[q.ss[j]]).length c6)).toArray 50):=by
    have e:=rS D (d1 M) (d.ht+1) (.slice a6 (o++[q.ss[j]]).length c6)
    rw[<-e]
    exact a3
   repeat (first|apply ar|refine wz ?_)
   have cC:r≠ab:=by omega
   refine NG.round (i+1,.slice a6 (o++[q.ss[j]]).length c6,o++[q.ss[j]]) (aS.of rfl) ⟨O,cz.aj aP (aW (by omega)),⟨a3,bT.kp aP (bQ cC),by have:=aP.size;omega⟩,cr bb aP (cF bb (by decide) J),by simp only[length_append,length_singleton];omega,fun y P=>(mem_append.1 P).elim (aT y) (fun e=>by rw[mem_singleton] at e;rw[e];exact getElem_mem ak)⟩ (by simp only;omega)
  ·refine CG.jv rfl (ag rfl) (decide_eq_false (by omega:¬(0:Int)<(q.ss.length:Int))) ?_
   repeat (first|apply ar|refine wz ?_)
   refine NG.round (i+1,aa,o) (aS.of rfl) ⟨O,Z,⟨ac,ae,cG⟩,A,by simp only;omega,aT⟩ (by simp only;omega)
 ·have g1:¬(i:Int)<(m:Int):=by omega
  obtain⟨T,cY,rfl,cU,b0⟩:=Sl.own ay A rfl
  have tY:Ty 52 w9 T o:=Ty.own A
  have gY:=fY A
  obtain⟨u0,-,-⟩:=gj ac
  have e0:mS D (d.ht+1) (d1 M) (.slice T o.length cY)=cR ⟨D,d.ht+1,d1 M,T,cY,o⟩:=rfl
  rw[e0] at u0
  repeat (first|apply ar|refine un ?_)
  refine bA rfl ?_
  repeat (first|apply ar|refine qa9 ?_)
  refine SG.aN (l:=cR ⟨D,d.ht+1,d1 M,T,cY,o⟩) rfl rfl (ag rfl) (ag rfl) ae (aH _) rfl (dB _) (fun wC H ah=>?_)
  have hr:Row wC r 0 (cR ⟨D,d.ht+1,d1 M,T,cY,o⟩):=Row.all ah rfl
  clear u0
  repeat (first|apply ar|refine wt ?_)
  refine dT (Or.inl rfl) results45 (aD.agg rfl rfl hr (aH _)) (aD.tmp rfl) ?_
  have s8:=Q.size
  have ct:Bm.In ⟨D,d.ht+1,d1 M,T,cY,o⟩ n w9:=⟨⟨b0,Or.inl tY,fun y P=>h9.si y (aT y P)⟩,by show o.length<=_;omega⟩
  exact⟨_,_,rfl,ct.wr H (Nat.le_trans h.ch.w0 Y) ae,Z.aj H (aW Y),fun _ C S e W=>by have h1:=cK h.sg C (aL W);have h2:=gY C S e;omega,fun e=>absurd (by rw[hK] at e;exact e) L⟩
end
section
variable{b:Bl}{c:Cm}{H:Int}{ps:List Em}{q:Nm}{pv:Value}{nb:dW}
theorem Dn{nb:dW}{h:Int}{mk:Dg}:∀(l:List Tx) {f:Fb} {t:Tl} {es:List Int},(dR nb h mk f t es l).2.2.1.n<=t.n+l.length
 |[],_,t,_=>Nat.le_refl _
 |x::l,f,t,es=>by
  unfold dR
  by_cases a:eJ nb x≠0
  ·rw[if_pos a];simp only[length_cons];omega
  ·rw[if_neg a]
   by_cases b:dC f x≠0
   ·rw[if_pos b];simp only[length_cons];omega
   ·rw[if_neg b]
    have c:=Dn l (nb:=nb) (h:=h) (mk:=mk) (f:=jJ f mk x) (t:=dot t f h mk x) (es:=kL es f mk x)
    have d:=EF t f h mk x
    simp only[length_cons]
    omega
theorem zP(h:oL nb c b=0):bz b=0/\aC c.ns (aI b)=none/\∃q,aC c.ns b.par=some q/\iU b q.2.x.b=0/\c.tr.addE (aI b) b.par=0:=by
 by_cases a:bz b=0
 ·cases h2:aC c.ns (aI b) with
  |some q=>rw[pH a h2] at h;cases h
  |none=>
   cases h3:aC c.ns b.par with
   |none=>rw[uY a h2 h3] at h;cases h
   |some q=>
    rw[uZ a h2 h3] at h
    split at h
    ·rename_i g;exact absurd h g
    ·rename_i g
     split at h
     ·rename_i d;exact absurd h d
     ·exact⟨a,rfl,q,rfl,Classical.byContradiction g,h⟩
 ·rw[pI a] at h;exact absurd h a
theorem fX.mono{a:Int}(h:fX c H)(i:H<=a):fX c a:=⟨h.wf,h.dep,h.pool,h.has,fun d q f=>by obtain⟨b,g,e⟩:=h.nd d q f;exact⟨b,by omega,e⟩⟩
theorem fX.sub(h:fX c H){t:Tx}(e:ps.map Em.en=lu nb q (c.ps.map Em.en) t):fX {c with pv:=pv,ps:=ps} H:=by
 refine⟨h.wf,h.dep,?_,h.has,h.nd⟩
 show df 256 (ps.map Em.en)
 rw[e]
 unfold lu
 split
 ·exact xU h.pool
 ·exact h.pool
theorem fX.added(h:fX c H)(A:oL nb c b=0){z:Nat}(w:q.x.b=b)(y:∃p,aC c.ns b.par=some p/\dR nb b.ht b.mkr p.2.f p.2.t [] b.txs=(0,q.f,q.t,q.es))
  (u:ps.map Em.en=(if(c.tr.add (aI b) b.par).tip=c.tr.tip then c.ps.map Em.en else Ft (ca c.ns (aI b) (z,q)) (c.tr.add (aI b) b.par) (c.ps.map Em.en) c.tr.tip (c.tr.add (aI b) b.par).tip)):
  fX {c with pv:=pv,ps:=ps,tr:=c.tr.add (aI b) b.par,ns:=ca c.ns (aI b) (z,q)} (H+1):=by
 obtain⟨o,J,p,i,r,s⟩:=zP A
 have K:=zB r
 obtain⟨l,m,-⟩:=oK h.wf (aI b) b.par
 obtain⟨N,j,v⟩:=y
 rw[i] at j
 obtain rfl:=Option.some.inj j
 obtain⟨F,G,I⟩:=h.nd _ _ i
 have D:q.x.ht=b.ht:=by rw[<-w];rfl
 have E:p.2.x.b.ht=p.2.x.ht:=rfl
 refine⟨l,by show(c.tr.add (aI b) b.par).depth<=_;rw[m];exact h.dep,?_,fun d=>?_,fun d k a=>?_⟩
 ·show df 256 (ps.map Em.en)
  rw[u]
  split
  ·exact h.pool
  ·exact oC (lS h.pool _) _
 ·show(c.tr.add (aI b) b.par).has d=(aC (ca c.ns (aI b) (z,q)) d).isSome
  unfold Tr.add
  rw[if_pos s]
  show(aC (ca c.tr.nodes (aI b) _) d).isSome=_
  by_cases e:aI b=d
  ·subst e
   rw[bK,bK]
   simp
  ·have:=h.has d
   unfold Tr.has at this
   rw[bK,bK]
   simp[e,this]
 ·have a:aC (ca c.ns (aI b) (z,q)) d=some k:=a
  rw[bK] at a
  by_cases e:aI b=d
  ·simp[e] at a
   subst a
   have g:=Dn b.txs (nb:=nb) (h:=b.ht) (mk:=b.mkr) (f:=p.2.f) (t:=p.2.t) (es:=[])
   rw[v] at g
   have L:=jE o
   show 0<=q.x.ht/\q.x.ht<=H+1/\(q.t.n:Int)<=64*q.x.ht
   have g:q.t.n<=p.2.t.n+b.txs.length:=g
   omega
  ·simp[e] at a
   obtain⟨B,M,C⟩:=h.nd d k a
   exact⟨B,by omega,C⟩
end
section
variable{c':Cm}{tot:Int}{A S:List Nat}{Ts:List TypeId}{base bb bw n pm:Nat}{v v':Value}{q:Wl}{w w' w1 w2:World}{m nb':dW}
theorem Bm.In.GX{x:Bm}(h:x.In n w)(c:Kp S w w')(f:dt n Ts A w S)(i:5∉Ts)(d:x.xs≠[]->∀b k,x.a=some ⟨b,k,none⟩->b∉S):x.In n w':=by
 refine⟨⟨?_,h.tx.tg.elim (fun g=>Or.inl (g.kp c d)) Or.inr,fun y j=>(h.tx.ins y j).qi c f i⟩,h.len⟩
 by_cases e:x.xs=[]
 ·rw[e];exact Sl.nil
 ·exact h.tx.sl.kp c (d e)
theorem Bm.In.lt{x:Bm}(h:x.In n w)(f:x.xs≠[]){b off:Nat}(e:x.a=some ⟨b,off,none⟩):b<w.heap.size:=by
 have d:0<x.xs.length:=length_pos_iff.2 f
 obtain⟨i,o,c,g⟩:=h.tx.sl.at d
 rw[e] at c
 cases c
 exact g.lt
theorem dw.qi(h:dw w base bb pm v m)(f:n<=base)(b:Kp S w w')(a:dt n Ts A w S)(c:162∉Ts)(d:341∉Ts)(e:pm∉A):dw w' base bb pm v m:=
 ⟨a.blk b h.blk c,dM h.own b (dL h.own (a.not d)),a.yY b h.map e,h.bp,h.pp⟩
theorem dF.GY(h:dF w n tot bw q)(f:Kp S w w')(d:dt n CT [q.c.tm,q.c.nm] w S)(t:cS w' n [q.c.tm,q.c.nm,q.pm] tot c')(e:c'.cb=q.c.cb/\c'.vb=q.c.vb/\c'.tm=q.c.tm/\c'.nm=q.c.nm)
  (v:∀p∈c'.ns,p∈q.c.ns\/∀b j,p.2.2.x.a=some ⟨b,j,none⟩->w.heap.size<=b):dF w' n tot bw {q with c:=c'}:=by
 obtain⟨s,m,o,r⟩:=e
 refine⟨?_,?_,?_,dM h.sg f (dL h.sg (d.not (by decide))),fun l k=>(h.si l k).qi f d (by decide),dM h.bl f (dL h.bl (d.not (by decide))),fun l k=>(h.bi l k).jq f d (by decide) (by decide),fun p y u b j e i=>?_,h.sb,?_,h.bn⟩
 ·have e:Hq {q with c:=c'}=Hq q:=by unfold Hq;rw[s,m]
  rw[e]
  exact d.blk f h.blk (by decide)
 ·show cS w' n [c'.tm,c'.nm,q.pm] tot c'
  rw[o,r]
  exact t
 ·show dw w' n c'.vb q.pm q.vN q.nb
  rw[m]
  exact h.nb.qi (Nat.le_refl _) f d (by decide) (by decide) (fun i=>by
   rcases mem_cons.1 i with e|i
   ·exact h.pn.1 e
   ·exact h.pn.2 (mem_singleton.1 i))
 ·rcases v p y with g|g
  ·exact h.sn p g u b j e i
  ·have z:=cK h.sg b (aL i)
   have A:=g b j e
   omega
 ·show q.pm≠c'.tm/\q.pm≠c'.nm
  rw[o,r]
  exact h.pn
theorem dF.sgn(h:dF w n tot bw q)(b:Kp (q.c.vb::q.pm::aR q.vN) w w')(g:dw w' n q.c.vb q.pm v' nb'):dF w' n tot bw {q with vN:=v',nb:=nb'}:=by
 have a:dt n [162,341] [q.pm] w (q.c.vb::q.pm::aR q.vN):=(dt.cells h.nb.bp h.nb.blk (by decide)).cons ((dt.map h.nb.pp h.nb.map (by simp)).cons (dt.own h.nb.own (Nat.le_refl _) (by decide)))
 exact⟨a.blk b h.blk (by decide),h.ch.Su b a (fun z f=>by rw[mem_singleton] at f;subst f;exact⟨by simp,h.pn.1,h.pn.2⟩) (by decide) (fun p i=>(h.ch.nd p i).x.jq b a (by decide) (by decide)),g,dM h.sg b (dL h.sg (a.not (by decide))),fun e d=>(h.si e d).qi b a (by decide),dM h.bl b (dL h.bl (a.not (by decide))),fun e d=>(h.bi e d).jq b a (by decide) (by decide),h.sn,h.sb,h.pn,h.bn⟩
theorem dF.put(h:dF w n tot bw q){y:Tm}(m:Kp (aR q.vs) w w1)(t:w1.ownsRow n 52 13 v' (q.ss++[y]).length (bX bV (q.ss++[y])))(C:∀g,v'.ownBlock=some g->q.vs.ownBlock=some g\/w.heap.size<=g)(D:y.In n w)(k:Kp [bw] w1 w2)(z:aG w2 bw (.cells (Hq {q with vs:=v',ss:=q.ss++[y]}).toArray 44)):dF w2 n tot bw {q with vs:=v',ss:=q.ss++[y]}:=by
 have l:dt n [52] [] w (aR q.vs):=dt.own h.sg (Nat.le_refl _) (by decide)
 have A:=l.blk m h.blk (by decide)
 have f:dt n [44] [] w1 [bw]:=dt.cells h.bn A (by decide)
 have s:=dM h.bl m (dL h.bl (l.not (by decide)))
 have v:∀{x:Bm},x.In n w->(x.xs≠[]->∀b d,x.a=some ⟨b,d,none⟩->b∉aR q.vs)->x.In n w1:=fun c g=>c.GX m l (by decide) g
 have r:=h.ch.KC m l (by decide) (fun p j=>v (h.ch.nd p j).x (h.sn p j))
 have u:∀{x:Bm},x.In n w->x.xs≠[]->∀b d,x.a=some ⟨b,d,none⟩->b∉aR q.vs->b∉aR v':=fun c i b d e g B=>by
  rcases C b (aL B) with o|o
  ·exact g (gQ o)
  ·have:=c.lt i e;omega
 refine⟨z,r.KC k f (by decide) (fun p j=>(r.nd p j).x.jq k f (by decide) (by decide)),(h.nb.qi (Nat.le_refl _) m l (by decide) (by decide) (by simp)).qi (Nat.le_refl _) k f (by decide) (by decide) (by simp),dM t k (dL t (f.not (by decide))),fun x c=>?_,dM s k (dL s (f.not (by decide))),fun x c=>(v (h.bi x c) (h.sb x c)).jq k f (by decide) (by decide),fun p j i b d e=>u (h.ch.nd p j).x i b d e (h.sn p j i b d e),fun x c i b d e=>u (h.bi x c) i b d e (h.sb x c i b d e),h.pn,h.bn⟩
 have c:x.In n w:=(mem_append.1 c).elim (h.si x) (fun e=>by rw[mem_singleton] at e;rw[e];exact D)
 exact(c.qi m l (by decide)).qi k f (by decide)
theorem dF.Ig(h:dF w n tot bw q){y:Bm}(g:Kp (aR q.vb) w w1)(m:w1.ownsRow n 50 18 v' (q.bs++[y]).length (bX cR (q.bs++[y])))(t:y.In n w)(u:y.xs≠[]->∀b v,y.a=some ⟨b,v,none⟩->b∉aR q.vs)(i:Kp [bw] w1 w2)(r:aG w2 bw (.cells (Hq {q with vb:=v',bs:=q.bs++[y]}).toArray 44)):dF w2 n tot bw {q with vb:=v',bs:=q.bs++[y]}:=by
 have c:dt n [50] [] w (aR q.vb):=dt.own h.bl (Nat.le_refl _) (by decide)
 have s:=c.blk g h.blk (by decide)
 have d:dt n [44] [] w1 [bw]:=dt.cells h.bn s (by decide)
 have o:=dM h.sg g (dL h.sg (c.not (by decide)))
 have l:=h.ch.KC g c (by decide) (fun p k=>(h.ch.nd p k).x.jq g c (by decide) (by decide))
 refine⟨r,l.KC i d (by decide) (fun p k=>(l.nd p k).x.jq i d (by decide) (by decide)),(h.nb.qi (Nat.le_refl _) g c (by decide) (by decide) (by simp)).qi (Nat.le_refl _) i d (by decide) (by decide) (by simp),dM o i (dL o (d.not (by decide))),fun j f=>((h.si j f).qi g c (by decide)).qi i d (by decide),dM m i (dL m (d.not (by decide))),fun j f=>?_,h.sn,fun j f=>(mem_append.1 f).elim (h.sb j) (fun e=>by rw[mem_singleton] at e;rw[e];exact u),h.pn,h.bn⟩
 have f:j.In n w:=(mem_append.1 f).elim (h.bi j) (fun e=>by rw[mem_singleton] at e;rw[e];exact t)
 exact(f.jq g c (by decide) (by decide)).jq i d (by decide) (by decide)
theorem cS.nk{c:Cm}(h:cS w n A tot c):dt n CT [c.tm,c.nm] w (qG c):=
 (dt.cells h.bn h.tree.blk (by decide)).cons ((dt.map h.tn h.tree.map (by simp)).cons ((dt.map h.nn h.map (by simp)).cons h.pool.qi))
def mK(bw:Nat)(q:Wl):List Nat:=bw::q.c.vb::q.pm::(aR q.vN++(qG q.c++(aR q.vs++aR q.vb)))
theorem eN{x:Nat}:x∈mK bw q↔x=bw\/x=q.c.vb\/x=q.pm\/x∈aR q.vN\/x=q.c.tb\/x=q.c.tm\/x=q.c.nm\/x=q.c.pb\/x∈aR q.c.pv\/x∈aR q.vs\/x∈aR q.vb:=by
 unfold mK qG
 simp[or_assoc]
structure xV(w w':World)(bw:Nat)(q q':Wl):Prop where
 kp:Kp (mK bw q) w w'
 sub:∀x∈mK bw q',x∈mK bw q\/w.heap.size<=x
theorem jm{x:Nat}(h:∀g,v'.ownBlock=some g->v.ownBlock=some g\/n<=g)(a:x∈aR v'):x∈aR v\/n<=x:=(h x (aL a)).elim (fun e=>Or.inl (gQ e)) Or.inr
theorem xV.sgn(b:Kp (q.c.vb::q.pm::aR q.vN) w w')(d:∀g,v'.ownBlock=some g->q.vN.ownBlock=some g\/w.heap.size<=g):xV w w' bw q {q with vN:=v',nb:=nb'}:=by
 refine⟨b.mono (fun x a=>?_),fun x a=>?_⟩
 ·rw[eN]
  rcases mem_cons.1 a with h|h
  ·exact Or.inr (Or.inl h)
  ·rcases mem_cons.1 h with h|h
   ·exact Or.inr (Or.inr (Or.inl h))
   ·exact Or.inr (Or.inr (Or.inr (Or.inl h)))
 ·rw[eN] at a⊢
  simp only at a
  by_cases h:x∈aR v'
  ·exact(jm d h).elim (fun g=>Or.inl (Or.inr (Or.inr (Or.inr (Or.inl g))))) Or.inr
  ·simp only[h,false_or] at a
   left
   rcases a with h|h|h|h
   ·exact Or.inl h
   ·exact Or.inr (Or.inl h)
   ·exact Or.inr (Or.inr (Or.inl h))
   ·exact Or.inr (Or.inr (Or.inr (Or.inr h)))
theorem xV.put{s':List Tm}(b:Kp (aR q.vs) w w1)(c:Kp [bw] w1 w2)(d:∀g,v'.ownBlock=some g->q.vs.ownBlock=some g\/w.heap.size<=g):xV w w2 bw q {q with vs:=v',ss:=s'}:=by
 refine⟨(b.mono (fun x a=>?_)).trans (c.mono (fun x a=>?_)),fun x a=>?_⟩
 ·rw[eN];simp[a]
 ·rw[mem_singleton] at a;rw[eN];exact Or.inl a
 ·rw[eN] at a⊢
  simp only at a
  by_cases h:x∈aR v'
  ·exact(jm d h).elim (fun g=>Or.inl (by simp[g])) Or.inr
  ·simp only[h,false_or] at a
   exact Or.inl (by rcases a with h|h|h|h|h|h|h|h|h|h<;>simp[h])
theorem xV.Ig{s':List Bm}(b:Kp (aR q.vb) w w1)(c:Kp [bw] w1 w2)(d:∀g,v'.ownBlock=some g->q.vb.ownBlock=some g\/w.heap.size<=g):xV w w2 bw q {q with vb:=v',bs:=s'}:=by
 refine⟨(b.mono (fun x a=>?_)).trans (c.mono (fun x a=>?_)),fun x a=>?_⟩
 ·rw[eN];simp[a]
 ·rw[mem_singleton] at a;rw[eN];exact Or.inl a
 ·rw[eN] at a⊢
  simp only at a
  by_cases h:x∈aR v'
  ·exact(jm d h).elim (fun g=>Or.inl (by simp[g])) Or.inr
  ·simp only[h,or_false] at a
   exact Or.inl (by rcases a with h|h|h|h|h|h|h|h|h|h<;>simp[h])
theorem xV.GY(l:Kp S w w')(k:∀x∈S,x∈qG q.c)(e:c'.vb=q.c.vb/\c'.tb=q.c.tb/\c'.tm=q.c.tm/\c'.nm=q.c.nm/\c'.pb=q.c.pb)(m:∀g,c'.pv.ownBlock=some g->q.c.pv.ownBlock=some g\/w.heap.size<=g):xV w w' bw q {q with c:=c'}:=by
 obtain⟨b,d,f,i,j⟩:=e
 refine⟨l.mono (fun x a=>?_),fun x a=>?_⟩
 ·have:=k x a
  unfold mK
  simp[this]
 ·rw[eN] at a⊢
  simp only[b,d,f,i,j] at a
  by_cases h:x∈aR c'.pv
  ·exact(jm m h).elim (fun g=>Or.inl (by simp[g])) Or.inr
  ·simp only[h,false_or] at a
   exact Or.inl (by rcases a with h|h|h|h|h|h|h|h|h|h<;>simp[h])
theorem dw.ge(h:dw w n bb pm v m):∀x∈bb::pm::aR v,n<=x:=fun x a=>by
 rcases mem_cons.1 a with rfl|a
 ·exact h.bp
 rcases mem_cons.1 a with rfl|a
 ·exact h.pp
 exact cj h.own x (aL a)
theorem rf{sz:Nat}{T:TypeId}{xs:List Value}(h:w.ownsRow base T sz v n xs):∀x∈aR v,base<=x:=fun x a=>cj h x (aL a)
theorem dF.ge(h:dF w n tot bw q):∀x∈mK bw q,n<=x:=fun x d=>by
 rw[eN] at d
 have b:∀x∈qG q.c,n<=x:=fun x d=>(h.ch.nk x d).1
 unfold qG at b
 simp only[mem_cons] at b
 rcases d with a|a|a|a|a|a|a|a|a|a|a
 ·rw[a];exact h.bn
 ·rw[a];exact h.nb.bp
 ·rw[a];exact h.nb.pp
 ·exact rf h.nb.own x a
 ·exact b x (Or.inl a)
 ·exact b x (Or.inr (Or.inl a))
 ·exact b x (Or.inr (Or.inr (Or.inl a)))
 ·exact b x (Or.inr (Or.inr (Or.inr (Or.inl a))))
 ·exact b x (Or.inr (Or.inr (Or.inr (Or.inr a))))
 ·exact rf h.sg x a
 ·exact rf h.bl x a
structure sP(q:Wl)(H:Int):Prop where
 ch:fX q.c H
 bs:∀x∈q.bs,∃p,aC q.c.ns (aI x.b)=some p/\p.2.x.b=x.b
 ne:0<q.bs.length
 nl:(q.nb.length:Int)<=100+H
 sl:(q.ss.length:Int)<=100+H
 bl:(q.bs.length:Int)<=100+H
theorem sP.ht{H:Int}(h:sP q H){x:Bm}(g:x∈q.bs):0<=x.ht/\x.ht<=H:=by
 obtain⟨p,d,f⟩:=h.bs x g
 obtain⟨a,c,-⟩:=h.ch.nd _ _ d
 have e:p.2.x.ht=x.ht:=by
  have:p.2.x.b.ht=x.b.ht:=by rw[f]
  exact this
 rw[e] at a c
 exact⟨a,c⟩
end
section
theorem zL(a:Ax):(tX a).length=9:=rfl
def Jn(nb:dW)(c c':Cm):Prop:=(c'.bd=c.bd/\c'.first=c.first/\c'.cb=c.cb/\c'.vb=c.vb)/\((c'.tr=c.tr/\c'.ns=c.ns)\/
 ∃b z qn,oL nb c b=0/\c'.tr=c.tr.add (aI b) b.par/\c'.ns=ca c.ns (aI b) (z,qn)/\qn.x.b=b/\∃p,aC c.ns b.par=some p/\dR nb b.ht b.mkr p.2.f p.2.t [] b.txs=(0,qn.f,qn.t,qn.es))
def V2(c c':Cm):Prop:=c'.ps.map Em.en=c.ps.map Em.en/\c'.tr=c.tr/\c'.ns=c.ns
def V6(w:World)(n:Nat)(tot:Int)(bw:Nat)(q:Wl)(H:Int)(e:Ending)(w':World):Prop:=
 ∃(q':Wl) (z:Int),e= .returned (.int .i64 z)/\dF w' n tot bw q'/\sP q' (H+1)/\Jn q.nb q.c q'.c/\(z≠0->V2 q.c q'.c)/\qm q.nb q'.nb/\xV w w' bw q q'
theorem sP.mono{q:Wl}{H a:Int}(h:sP q H)(b:H<=a):sP q a:=⟨h.ch.mono b,h.bs,h.ne,by have:=h.nl;omega,by have:=h.sl;omega,by have:=h.bl;omega⟩
theorem lV{c d:Type}[DecidableEq c]{k:c}{v:d}:∀{m:List (c×d)} {p:c×d},p∈ca m k v->p=(k,v)\/p∈m
 |[],p,h=>by
  simp only[ca,mem_singleton] at h
  exact Or.inl h
 |(a,b)::m,p,h=>by
  simp only[ca] at h
  split at h
  ·rename_i e
   rcases mem_cons.1 h with h|h
   ·exact Or.inl (by rw[h,e])
   ·exact Or.inr (mem_cons_of_mem _ h)
  ·rcases mem_cons.1 h with h|h
   ·exact Or.inr (h▸mem_cons_self)
   ·rcases lV h with h|h
    ·exact Or.inl h
    ·exact Or.inr (mem_cons_of_mem _ h)
def WL(n:Nat)(vs:Value):GD:=⟨Bm×Bool,(il,false),fun x=> .tuple #[eL x.1,.bool x.2],fun x w=>x.1.In n w/\(x.1.xs≠[]->∀b off,x.1.a=some ⟨b,off,none⟩->b∉aR vs)⟩
attribute [local irreducible] CG NG SG aP aM Row aG aF aQ bG aI bz
end
section
variable{i z:Nat}{m:Nm}
def kU(n:Int):Tx:=⟨zd,n,1,0,js (d1 9) 7,[]⟩
def kT(n:Int):Tx:=⟨d1 1,n,1,0,js (d1 9) 7,[]⟩
def kS:Nat->Tx
 |0=>⟨d1 1,0,1,0,js (d1 9) 7,ja 0⟩
 |_=>⟨d1 1,1,1,0,js (d1 9) 7,ja 1⟩
def kN:Nat->dW
 |0=>[]
 |1=>[((d1 1,de (kT 0)),0)]
 |_=>[((d1 1,de (kT 0)),0),((d1 1,de (kT 1)),1)]
def kP:Nat->List En
 |0=>[]
 |1=>[⟨kS 0,0⟩]
 |_=>[⟨kS 0,0⟩,⟨kS 1,0⟩]
def zh:Fb:=cC (gq [] (jA [10,0,0,0] 4))
def FA:Fb:=jJ zh (d1 8) (kS 0)
def HD:Fb:=jJ FA (d1 8) (kS 1)
def Fy:Tl:=⟨0,zd⟩
def kB:Bl:=⟨bF,1,d1 8,[kS 0,kS 1]⟩
theorem It:dI (js (d1 9) 7)=0:=by kernel_rfl
theorem Eg:(js (d1 9) 7).length=2:=by kernel_rfl
theorem HH:(de (kT 0)==de (kT 1))=false:=by kernel_rfl
theorem Iw:(aJ (kS 0)==aJ (kS 1))=false:=by kernel_rfl
theorem GB:(aI kB==bF)=false:=by kernel_rfl
theorem uF{t:Tx}(b:0<=t.non/\t.non<=1)(d:t.fee=1)(c:t.kind=0)(a:t.body=js (d1 9) 7)(e:t.sig.length<=2):bu t=0:=by
 have:FE t:=⟨b.1,by omega,by omega,by omega,by omega,by omega,by rw[a,Eg];decide,by omega⟩
 unfold bu
 rw[if_pos this,if_pos c,a]
 exact It
theorem GA:∀i,bu (kS i)=0
 |0=>uF ⟨by decide,by decide⟩ rfl rfl rfl (by decide)
 |_+1=>uF ⟨show(0:Int)<=1 by decide,show(1:Int)<=1 by decide⟩ rfl rfl rfl (show(ja 1).length<=2 by decide)
theorem QH(a:i<2):bu (kX (kU (i:Int)) (d1 1))=0:=uF ⟨by show 0<=(i:Int);omega,by show(i:Int)<=1;omega⟩ rfl rfl rfl (Nat.zero_le _)
theorem Eh:aC (kN 1) (d1 1,de (kT 1))=none:=by
 have:=HH
 simp only[beq_eq_false_iff_ne,ne_eq] at this
 simp[kN,aC,this]
theorem HF(a:i<2):jU (kN i) (kU (i:Int)) (d1 1)=(0,kS i,kN (i+1)):=by
 unfold jU
 rw[if_neg (fun h=>h (QH a))]
 match i,a with
 |0,_=>rfl
 |1,_=>
  have e:gU (kN 1) (d1 1) (de (kX (kU ((1:Nat):Int)) (d1 1)))=some 1:=by
   show gU (kN 1) (d1 1) (de (kT 1))=some 1
   unfold gU
   rw[Eh]
   rfl
  have b:gR (kN 1) (d1 1) (de (kX (kU ((1:Nat):Int)) (d1 1)))=kN 2:=by
   show gR (kN 1) (d1 1) (de (kT 1))=kN 2
   unfold gR
   rw[Eh]
   rfl
  rw[e,b]
  rfl
theorem Ef:∀{i j:Nat},i<j->j<=2->eJ (kN j) (kS i)=0:=by
 intro i j b c
 have a:=HH
 simp only[beq_eq_false_iff_ne,ne_eq] at a
 unfold eJ
 rw[if_neg (fun h=>h (GA i)),if_pos]
 rcases(by omega:(i=0/\j=1)\/(i=0/\j=2)\/(i=1/\j=2)) with⟨rfl,rfl⟩|⟨rfl,rfl⟩|⟨rfl,rfl⟩
 ·simp[mZ,kN,aC,show de (kS 0)=de (kT 0) from rfl,show(kS 0).frm=d1 1 from rfl,show(kS 0).sig=[0,0] from rfl]
 ·simp[mZ,kN,aC,show de (kS 0)=de (kT 0) from rfl,show(kS 0).frm=d1 1 from rfl,show(kS 0).sig=[0,0] from rfl]
 ·simp[mZ,kN,aC,a,show de (kS 1)=de (kT 1) from rfl,show(kS 1).frm=d1 1 from rfl,show(kS 1).sig=[1,0] from rfl]
theorem HI:∀{i:Nat},i<2->fD 256 (kP i) 0 (kS i)=0:=by
 intro i a
 unfold fD
 rw[if_neg (by decide),if_neg (fun h=>h (GA i))]
 match i,a with
 |0,_=>rfl
 |1,_=>rfl
theorem KL:∀{i:Nat},i<2->Fh (kP i) 0 (kS i)=kP (i+1)
 |0,_=>rfl
 |1,_=>rfl
theorem KH:(zh (d1 1)).nonce=0:=by kernel_rfl
theorem KG(a:i<2)(c:m.x=bZ cM)(d:m.f=zh):gx (kN (i+1)) m (kP i) (kS i)=0/\lu (kN (i+1)) m (kP i) (kS i)=kP (i+1):=by
 have b:gx (kN (i+1)) m (kP i) (kS i)=0:=by
  unfold gx
  rw[if_neg (fun h=>h (Ef (Nat.lt_succ_self i) a)),d,c,if_neg]
  ·exact HI a
  ·have e:(kS i).frm=d1 1:=by
    match i,a with
    |0,_=>rfl
    |1,_=>rfl
   rw[e,KH]
   match i,a with
   |0,_=>decide
   |1,_=>decide
 refine⟨b,?_⟩
 unfold lu
 rw[if_pos b]
 unfold pG
 have e:m.x.ht=0:=by rw[c];rfl
 rw[e,if_pos (HI a)]
 exact KL a
theorem As:bz kB=0:=by
 unfold bz
 rw[if_neg (by decide),if_neg (by decide),if_neg,if_pos]
 ·kernel_rfl
 ·intro h
  apply h
  show iI [kS 0,kS 1] []=0
  unfold iI
  rw[if_neg (fun h=>h (GA 0)),if_neg (by simp)]
  unfold iI
  rw[if_neg (fun h=>h (GA 1)),if_neg]
  ·rfl
  ·intro h
   simp only[mem_singleton,Prod.mk.injEq] at h
   exact absurd h.2 (by decide)
theorem Au:bz (bZ cM).b=0:=by
 unfold bz
 rw[if_neg (by decide),if_neg (by decide),if_neg (fun h=>h rfl)]
 exact if_pos rfl
theorem KI:iU kB (bZ cM).b=0:=by
 unfold iU
 rw[if_neg (fun h=>h As),if_neg]
 rintro(h|h|h)
 ·exact h Au
 ·exact h rfl
 ·exact h rfl
theorem uH:dC zh (kS 0)=0:=by kernel_rfl
theorem uG:dC FA (kS 1)=0:=by kernel_rfl
theorem IA:gu (dU zh (d1 8) (kS 0)) (kS 0)=0:=by kernel_rfl
theorem Iz:gu (dU FA (d1 8) (kS 1)) (kS 1)=21:=by kernel_rfl
theorem HG:dR (kN 2) 1 (d1 8) zh Fy [] [kS 0,kS 1]=(0,HD,Fy,[0,21]):=by
 unfold dR
 rw[if_neg (fun h=>h (Ef (i:=0) (j:=2) (by decide) (by decide))),if_neg (fun h=>h uH)]
 unfold dR
 have a:dot Fy zh 1 (d1 8) (kS 0)=Fy:=by unfold dot gI;rw[if_pos uH];exact if_pos rfl
 have b:kL [] zh (d1 8) (kS 0)=[0]:=by unfold kL;rw[if_pos uH,IA];rfl
 rw[a,b,if_neg (fun h=>h (Ef (i:=1) (j:=2) (by decide) (by decide))),if_neg (fun h=>h uG)]
 unfold dR
 have c:dot Fy FA 1 (d1 8) (kS 1)=Fy:=by unfold dot gI;rw[if_pos uG];exact if_pos rfl
 have d:kL [0] FA (d1 8) (kS 1)=[0,21]:=by unfold kL;rw[if_pos uG,Iz];rfl
 show(0,jJ FA (d1 8) (kS 1),dot Fy FA 1 (d1 8) (kS 1),kL [0] FA (d1 8) (kS 1))=_
 rw[c,d]
 rfl
theorem QM:(HD (d1 1)).money=1:=by kernel_rfl
theorem QL:(HD (d1 8)).money=2:=by kernel_rfl
theorem GF:iW zh (kS 0)=true:=by kernel_rfl
theorem GC:iW FA (kS 1)=true:=by kernel_rfl
theorem QK:rq (d1 8) zh [] [kS 0,kS 1]=[kS 0,kS 1]:=by
 rw[mc (by decide) GF,if_pos uH]
 show rq (d1 8) FA [kS 0] [kS 1]=_
 rw[mc (by decide) GC,if_pos uG]
 rfl
theorem Iu:Ord En.key En.non En.fee (kP 2) [⟨kS 0,0⟩,⟨kS 1,0⟩]:=by
 refine Ord.step [] (⟨kS 0,0⟩:En) [(⟨kS 1,0⟩:En)] _ ⟨fun o b _=>?_,fun e a h=>?_,fun e a=>by cases a⟩ (Ord.step [] (⟨kS 1,0⟩:En) [] _ ⟨fun o b _=>?_,fun e a h=>?_,fun e a=>by cases a⟩ Ord.nil)
 ·simp only[nil_append,mem_cons,mem_nil_iff,or_false] at b
  rcases b with rfl|rfl<;>decide
 ·simp only[nil_append,mem_cons,mem_nil_iff,or_false] at a
  rcases a with rfl|rfl<;>decide
 ·simp only[nil_append,mem_cons,mem_nil_iff,or_false] at b
  rw[b]
  exact Int.le_refl _
 ·simp only[nil_append,mem_cons,mem_nil_iff,or_false] at a
  rw[a]
  exact Int.le_refl _
theorem Iv:fU (kP 2)=[⟨kS 0,0⟩,⟨kS 1,0⟩]:=Iu.eq
theorem QI:sV (kP 2) []=[kS 0,kS 1]:=by
 unfold sV
 rw[Iv]
 rfl
theorem xr:aI kB≠bF:=fun e=>by
 have h:=GB
 rw[e] at h
 simp at h
attribute [local irreducible] aI aJ bF
theorem Ei:(Tr.new bF 0).addE (aI kB) kB.par=0:=by
 have c:(Tr.new bF 0).has (aI kB)=false:=by
  unfold Tr.has
  show(aC [(bF,Cu)] (aI kB)).isSome=false
  rw[show aC [(bF,Cu)] (aI kB)=none from by show(if _ then _ else _)=_;rw[if_neg (fun e=>xr e.symm)];rfl]
  rfl
 have f:(Tr.new bF 0).has kB.par=true:=by
  unfold Tr.has
  show(aC [(bF,Cu)] bF).isSome=true
  rw[show aC [(bF,Cu)] bF=some Cu from if_pos rfl]
  rfl
 unfold Tr.addE
 rw[c,f]
 have d:¬4096<=(Tr.new bF 0).nodes.length:=Nat.not_le.2 (by simp[Tr.new])
 have b:¬(Tr.new bF 0).deep kB.par=true:=?_
 ·rw[if_neg (fun h=>Bool.noConfusion h),if_neg (fun h=>Bool.noConfusion h),if_neg d,if_neg b]
 have a:(Tr.new bF 0).ht (Tr.new bF 0).tip=0:=(o7 bF 0).h0
 unfold Tr.deep
 rw[a]
 exact fun h=>absurd (of_decide_eq_true h) (Nat.not_lt_zero _)
theorem KK{c:Cm}(a:c.ns=[(bF,z,m)])(d:c.tr=Tr.new bF 0)(k:m.x=bZ cM)(g:m.f=zh)(j:m.t=Fy):oL (kN 2) c kB=0:=by
 have l:aC c.ns (aI kB)=none:=by
  rw[a]
  show(if _ then _ else _)=_
  rw[if_neg (fun e=>xr e.symm)]
  rfl
 have n:aC c.ns kB.par=some (z,m):=by rw[a];exact if_pos rfl
 have i:(dR (kN 2) kB.ht kB.mkr m.f m.t [] kB.txs).1=0:=by
  rw[g,j]
  show(dR (kN 2) 1 (d1 8) zh Fy [] [kS 0,kS 1]).1=0
  rw[HG]
 rw[uZ As l n]
 show(if iU kB m.x.b≠0 then _ else _)=_
 rw[k,if_neg (fun h=>h KI),if_neg (fun h=>h i),d]
 exact Ei
theorem KE:(Tr.new bF 0).add (aI kB) kB.par=(Tr.new bF 0).put (aI kB) bF:=by
 unfold Tr.add
 exact if_pos Ei
theorem HE:((Tr.new bF 0).put (aI kB) bF).tip=aI kB:=by
 have a:(Tr.new bF 0).ht (Tr.new bF 0).tip=0:=(o7 bF 0).h0
 have b:(Tr.new bF 0).ht bF=0:=(o7 bF 0).h0
 unfold Tr.put
 show(if(Tr.new bF 0).ht (Tr.new bF 0).tip<(Tr.new bF 0).ht bF+1 then aI kB else(Tr.new bF 0).tip)=_
 rw[a,b]
 exact if_pos (Nat.lt_succ_self 0)
theorem zi:((Tr.new bF 0).put (aI kB) bF).line ((Tr.new bF 0).put (aI kB) bF).tip=[bF,aI kB]:=by
 have a:((Tr.new bF 0).put (aI kB) bF).WF:=by rw[<-KE];exact(oK (o7 bF 0) _ _).1
 have b:=a.tip
 rw[HE] at b⊢
 rw[a.Gx b xr,jl]
 show((Tr.new bF 0).put (aI kB) bF).line ((Tr.new bF 0).put (aI kB) bF).first++_=_
 rw[a.yZ]
 rfl
theorem Iy{ns:List (Dg×Nat×Nm)}{g:Nat}{a:Nm}(d:ns=ca [(bF,z,m)] (aI kB) (g,a))(l:m.x=bZ cM)(f:a.x.b=kB)(i:a.es=[0,21]):dz ns (aJ (kS 1)) [bF,aI kB]=some (1,21):=by
 have p:aC ns bF=some (z,m):=by
  rw[d,bK,if_neg xr]
  exact if_pos rfl
 have q:aC ns (aI kB)=some (g,a):=by
  rw[d,bK,if_pos rfl]
 have r:m.iC=[]:=by unfold Nm.iC;rw[l];rfl
 have s:a.iC=[aJ (kS 0),aJ (kS 1)]:=by
  have:a.x.b.txs=kB.txs:=by rw[f]
  have:a.x.xs.map (·.t)=[kS 0,kS 1]:=this
  unfold Nm.iC
  have e:a.x.xs.map (fun c=>aJ c.t)=(a.x.xs.map (·.t)).map aJ:=by rw[map_map];rfl
  rw[e,this]
  rfl
 have j:a.x.ht=1:=by
  have:a.x.b.ht=kB.ht:=by rw[f]
  exact this
 have k:aJ (kS 0)≠aJ (kS 1):=fun e=>by
  have h:=Iw
  rw[e] at h
  simp at h
 have n:gr m.iC (aJ (kS 1))= -1:=by rw[r];rfl
 have o:gr a.iC (aJ (kS 1))=1:=by
  rw[s]
  unfold gr
  have:[aJ (kS 0),aJ (kS 1)].findIdx (fun c=>decide (c=aJ (kS 1)))=1:=by
   simp[findIdx_cons,k]
  rw[this]
  rfl
 unfold dz
 rw[p]
 show(if 0<=gr m.iC (aJ (kS 1)) then _ else _)=_
 rw[n,if_neg (by decide)]
 unfold dz
 rw[q]
 show(if 0<=gr a.iC (aJ (kS 1)) then some (a.x.ht,a.es.getD (gr a.iC (aJ (kS 1))).toNat 0) else _)=_
 rw[o,j,i]
 exact if_pos (by decide)
end
section
variable{y:Bm}{z:Nat}{m:Nm}{q:Wl}{w:World}
theorem RC(w:World)(a b:Int)(p:Option Addr)(m cc:Nat):(Instr.build 52 #[(1,.int .i64 a),(2,.int .i64 b),(4,.slice p m cc)]).run prog w= .ok (.agg (dc zd++[Value.int .i64 a,Value.int .i64 b,Value.int .i64 0,Value.slice p m cc,Value.slice none 0 0]).toArray) w:=by kernel_rfl
theorem R6(w:World):(Instr.build 31 #[]).run prog w= .ok (yc ⟨0,0,0⟩) w:=by kernel_rfl
theorem RB(w:World):(Instr.build 24 #[(0,.int .u16 10)]).run prog w= .ok (CX [10,0,0,0]) w:=by kernel_rfl
theorem KJ:zJ ⟨0,0,0⟩=0:=by kernel_rfl
theorem KF:eU (jA [10,0,0,0] 4)=10:=by kernel_rfl
structure Lr(i:Nat)(q:Wl)(y:Bm)(z:Nat)(m:Nm):Prop where
 tr:q.c.tr=Tr.new bF 0
 ns:q.c.ns=[(bF,z,m)]
 ps:q.c.ps.map Em.en=kP i
 nb:q.nb=kN i
 ss:q.ss.map (·.t)=[kS 0,kS 1].take i
 bs:q.bs=[y]
 yb:y.b=(bZ cM).b
 mx:m.x=bZ cM
 mf:m.f=zh
 mt:m.t=Fy
 ok:fX q.c 0
theorem Lr.tip{i:Nat}(h:Lr i q y z m):aC q.c.ns q.c.tr.tip=some (z,m):=by
 rw[h.ns,h.tr]
 exact if_pos rfl
theorem DB:df 256 []:=GG (by decide)
theorem IB:∀i,(kN i).length<=10
 |0=>by decide
 |1=>show 1<=10 by decide
 |_+2=>show 2<=10 by decide
theorem E0(h:y.b=(bZ cM).b):aI y.b=bF:=by rw[h];rfl
theorem E3{b:Bd}{l:List Nat}(h:Fp b l q y)(o:b.fork<=1000):sP q 0:=by
 obtain⟨z,m,j,g,r,i,p⟩:=h.ns
 have f:∀d,aC q.c.ns d=if bF=d then some (z,m) else none:=fun d=>by
  rw[j]
  rfl
 refine⟨⟨by rw[h.tr];exact o7 _ _,by rw[h.tr];show b.fork.toNat<=1000;omega,by rw[h.ps];exact DB,fun d=>?_,fun d k a=>?_⟩,fun k a=>?_,by rw[h.bs];exact Nat.zero_lt_succ _,by rw[h.nb];decide,by rw[h.ss];decide,by rw[h.bs,length_singleton];decide⟩
 ·rw[f,h.tr]
  show(if bF=d then some Cu else none).isSome=_
  by_cases e:bF=d
  ·rw[if_pos e,if_pos e];rfl
  ·rw[if_neg e,if_neg e];rfl
 ·rw[f] at a
  by_cases e:bF=d
  ·rw[if_pos e] at a
   obtain rfl:=Option.some.inj a
   show 0<=m.x.ht/\m.x.ht<=0/\(m.t.n:Int)<=64*m.x.ht
   rw[g,i]
   exact⟨Int.le_refl _,Int.le_refl _,Int.le_refl _⟩
  ·rw[if_neg e] at a;cases a
 ·rw[h.bs,mem_singleton] at a
  subst a
  refine⟨(z,m),?_,?_⟩
  ·rw[f,E0 h.y,if_pos rfl]
  ·rw[h.y]
   show m.x.b=_
   rw[g]
theorem QF(h:Fp ⟨0,0,0⟩ [10,0,0,0] q y):∃z m,Lr 0 q y z m:=by
 obtain⟨z,m,d,c,a,b,e⟩:=h.ns
 exact⟨z,m,h.tr,d,by rw[h.ps];rfl,h.nb,by rw[h.ss];rfl,h.bs,h.y,c,a,b,(E3 h (by decide)).ch⟩
def LK:GD:=⟨Bm,il,fun x=> .tuple #[eL x,.int .i64 0],fun x w=>x.b=kB/\x.In 0 w⟩
theorem Et(x:LK.X):cH [] (LK.phi x):=fun w b a h=>⟨h.1,h.2.az a⟩
theorem Ix(c:m.x=bZ cM)(a:m.f=zh){l:List En}(b:l=kP 2):(⟨bF,m.x.ht+1,d1 8,rq (d1 8) m.f [] (sV l [])⟩:Bl)=kB:=by
 rw[b,QI,a,QK,c]
 rfl
theorem QJ{a:Nm}(h:Lr 2 q y z m)(e:∃p,aC q.c.ns kB.par=some p/\dR q.nb kB.ht kB.mkr p.2.f p.2.t [] kB.txs=(0,a.f,a.t,a.es)):a.f=HD/\a.es=[0,21]:=by
 obtain⟨p,d,b⟩:=e
 rw[h.ns] at d
 have d:some (z,m)=some p:=by rw[<-d];exact(if_pos rfl).symm
 obtain rfl:=Option.some.inj d
 have b:dR q.nb 1 (d1 8) m.f m.t [] [kS 0,kS 1]=(0,a.f,a.t,a.es):=b
 rw[h.nb,h.mf,h.mt,HG] at b
 simp only[Prod.mk.injEq] at b
 exact⟨b.2.1.symm,b.2.2.2.symm⟩
theorem KD{l:List Tm}(h:l.map (·.t)=[kS 0,kS 1]):∃a b,l=[a,b]/\b.t=kS 1:=by
 have c:l.length=2:=by
  have:=congrArg length h
  rw[length_map] at this
  exact this
 match l,c with
 |[a,b],_=>
  simp only[map_cons,map_nil,List.cons.injEq,and_true] at h
  exact⟨a,b,rfl,h.2⟩
theorem KN{L:Env}{d:Option Nat}{ty:TypeId}{pos:String}{af:Array Edge}{g:Option (Nat×Bool)}{S:List Nat}{F:World->Prop}{x:Operand}{k:Dg}{p:Pu}(a:bH L x=FD (oN k p)):aP prog S w F L ⟨d,.field 59 x 1,ty,pos,af,g⟩ (.int .i64 p.money):=
 eS (dc k) [.int .i64 p.nonce] a rfl (by simp[acl,oN]) (by simp[ai])
attribute [local irreducible] CG NG SG aP aM Row aG aF aQ bG aI bz bF zh HD js aJ jU eJ gx lu oL
theorem xl{n bw:Nat}{tot:Int}(h:dF w n tot bw q){l:List Bm}(g:q.bs=y::l)(i:bz y.b=0):dq prog 52 #[.pointer (some ⟨bw,0,none⟩)] w (dv (aI y.b)):=by
 refine bC func52 rfl ntmps52 rfl ?_
 repeat apply ar
 refine SG.alloc rfl rfl rfl (fun p I j z u=>?_)
 have e:=h.az j
 obtain⟨a,c,ev,L,x⟩:=Sl.own aH e.bl rfl
 have F:0<q.bs.length:=by rw[g];exact Nat.zero_lt_succ _
 obtain⟨s,G,rfl,d⟩:=x.at F
 have t:q.bs[0]=y:=by simp[g]
 rw[t] at d
 have d:Row I s (G+(0:Int).toNat*18) (cR y):=d
 obtain⟨-,-,-,o⟩:=cP e.blk
 rw[ev] at o
 repeat (first|apply ar|(apply au;rfl;(first|apply bR|apply aB|apply aZ|apply bf|apply aU|apply Du)<;>first|rfl|exact zc|assumption|exact wn|apply aH))
 have k:=eP (e.bi y (by rw[g];exact mem_cons_self))
 rw[show nC y.b (aI y.b)= .tuple #[dv (aI y.b),.int .i64 0] from if_pos i] at k
 refine SG.ret rfl rfl rfl (vs:=[eL y]) (bg.of rfl) k (fun M B=>?_)
 clear o d
 repeat refine qa7 ?_
 refine SG.alloc rfl rfl rfl (fun r N C A f=>?_)
 refine SG.aN (l:=dc (aI y.b)) rfl rfl (ag rfl) (ag rfl) f (ai _) rfl (bj _) (fun J D f=>?_)
 have m:=B.trans (C.aj D (aW A))
 have H:Row J r 0 (dc (aI y.b)):=Row.all f rfl
 repeat (first|apply ar|(apply au;rfl;(first|apply aE|apply bf)<;>first|rfl|assumption|exact wn|apply ai))
 refine SG.aN (l:=dc (aI y.b)) rfl rfl (ag rfl) (ag rfl) (u.az m) (ai _) rfl (bj _) (fun K E v=>?_)
 have i:Row K p 0 (dc (aI y.b)):=Row.all v rfl
 clear H
 repeat apply ar
 refine aO (Or.inl rfl) results52 (aD.agg rfl rfl i (ai _)) ?_
 exact⟨rfl,(j.trans m).aj E (aW z)⟩
theorem rD(w:World):dq prog 10 #[] w (.bool true):=by
 refine zt func10 rfl ntmps10 ?_
 repeat (first|apply ar|refine wt ?_)
 refine SG.val rfl rfl rfl rfl (aK rfl R6) ?_
 refine SG.val rfl rfl rfl rfl (aK rfl RB) ?_
 refine SG.call rfl rfl rfl (vs:=[yc ⟨0,0,0⟩,CX [10,0,0,0]]) (bg.of rfl) ((pV w KJ (by decide) (l:=[10,0,0,0]) (by decide)).mono (fun L G I=>?_))
 obtain⟨ap,bw,a,y,rfl,B,hB⟩:=I
 refine⟨_,rfl,?_⟩
 rw[KF] at B
 obtain⟨z,U,g⟩:=QF hB
 repeat (first|apply ar|refine qa1 ?_)
 refine bA rfl ?_
 obtain⟨D,hn⟩:∃D,w.heap.size=D:=⟨_,rfl⟩
 rw[hn] at B
 clear hB
 repeat (first|apply ar|refine qa0 ?_)
 refine CG.loop (X:=Nat×Wl) (fun p=>[(0,.bool false),(1,.pointer (some ⟨bw,0,none⟩)),(15,.int .i64 (p.1:Int))])
  (fun p w'=>p.1<=2/\Kp [] w w'/\dF w' D 10 bw p.2/\Lr p.1 p.2 y z U) (fun p=>2-p.1) (0,a) ⟨Nat.zero_le _,ap,B,g⟩ (aS.of rfl) ?_
 clear g B ap
 rintro⟨o,a⟩ G ⟨hi,ap,B,g⟩
 simp only at hi B g
 refine CG.to [(0,.bool false),(1,.pointer (some ⟨bw,0,none⟩)),(15,.int .i64 (o:Int))] (aS.of rfl) ?_
 by_cases av:o<2
 ·have K:(o:Int)<2:=by omega
  obtain⟨-,z1,-,-⟩:=cP B.blk
  have aa:=B.nb
  have cA:=aa.Kw B.blk (by decide) (by decide)
  have hS:∀O∈a.c.vb::a.pm::aR a.vN,O<G.heap.size:=fun O F=>by
   rcases mem_cons.1 F with rfl|F
   ·exact aa.blk.lt
   rcases mem_cons.1 F with rfl|F
   ·exact aa.map.lt
   exact cK aa.own O (aL F)
  repeat (first|apply ar|refine ul ?_)
  refine bO rfl ?_
  repeat (first|apply ar|refine ww ?_)
  refine CG.Ev mixed (a.c.vb::a.pm::aR a.vN,10) 16 [0,1,4,5,6,7,8,9,2,3,10,11,12,13,14,15] [(2,LI G.heap.size 5 iE 1 (js (d1 9) 7) (fun J=>J)),(10,FB (jU a.nb (kU (o:Int)) (d1 1)).2.1 (jU a.nb (kU (o:Int)) (d1 1)).1 G.heap.size D a.c.vb a.pm a.vN (jU a.nb (kU (o:Int)) (d1 1)).2.2),(14,gV G.heap.size 52 13),(15,gP G.heap.size 52)] (by kernel_rfl) ?_ ?_
  ·intro p C
   simp only[mem_cons,mem_nil_iff,or_false] at C
   rcases C with rfl|rfl|rfl|rfl
   ·exact Er
   ·exact xv
   ·exact qB
   ·exact qD
  have bk:D<=G.heap.size:=B.ch.w0
  have cw:a.nb.length<=10:=by rw[g.nb];exact IB o
  repeat (apply xZ;rfl;rfl;apply aB<;>rfl)
  refine bG.val rfl rfl rfl rfl (aK rfl (fun W=>E6 9 W)) ?_
  repeat (apply xZ;rfl;rfl;(first|apply bR|apply aB|apply aZ|apply aU)<;>first|rfl|assumption)
  refine bG.val rfl rfl rfl rfl (aK rfl (fun W=>E6 1 W)) ?_
  skip
  refine bG.call rfl rfl rfl rfl (vs:=[.pointer (some ⟨a.c.vb,0,none⟩),dv (d1 1)]) (bg.of rfl) (fun W _ _=>pM a.c.vb (d1 1) W) ?_
  refine bG.xL (vs:=[dv (d1 9),.int .i64 7]) (LI G.heap.size 5 iE 1 (js (d1 9) 7) (fun J=>J)) rfl rfl rfl rfl (bg.of rfl) (fun W j u=>(qY (d1 9) 7 W).mono (fun L W' I=>?_)) (fun J=>?_)
  ·obtain⟨J,he,ho,a5⟩:=I
   obtain⟨br,bv,rfl,-⟩:=Bs.own ho
   exact⟨(br,bv),he,c9 ho j.size,a5⟩
  refine bG.val rfl rfl rfl rfl (aK rfl (fun W=>RC W _ _ J.1 _ J.2)) ?_
  refine bG.HQ (vs:=[eG ⟨kU (o:Int),J.1,J.2,none,0⟩,.iface 197 (FI a.c.vb (d1 1))]) (FB (jU a.nb (kU (o:Int)) (d1 1)).2.1 (jU a.nb (kU (o:Int)) (d1 1)).1 G.heap.size D a.c.vb a.pm a.vN (jU a.nb (kU (o:Int)) (d1 1)).2.2) rfl rfl rfl rfl rfl (bg.of rfl) (fun W j u=>?_) ?_ (fun k=>?_)
  ·have ho:W.ownsRow G.heap.size 5 1 (.slice J.1 (js (d1 9) 7).length J.2) (js (d1 9) 7).length (bX iE (js (d1 9) 7)):=u _ (.head _) (by kernel_rfl)
   obtain⟨a',c',L,hB⟩:=Bs.own ho
   simp only[Value.slice.injEq,true_and] at L
   obtain⟨Q,e2⟩:=L
   rw[<-Q,<-e2] at hB
   have F:Tm.In ⟨kU (o:Int),J.1,J.2,none,0⟩ 0 W:=⟨hB,Bs.nil,Or.inl (Ty.own ho),Or.inl (fun h=>absurd rfl h),by show(js (d1 9) 7).length<=_;rw[Eg];decide,by show 0<=_;exact Nat.zero_le _⟩
   refine(qP (aa.az j) (Nat.le_trans bk j.size) (by omega) F (d1 1)).mono (fun L W2 I=>?_)
   obtain⟨y,v',he,B,T,H,r,h5,h6,h7⟩:=I
   exact⟨(y,v'),he,⟨⟨⟨B,h7⟩,fun ad hg=>(h5 ad hg).elim Or.inl (fun h=>Or.inr (Nat.le_trans j.size h))⟩,T,H,c9 h6 j.size⟩,r⟩
  ·intro ci hj W1 W2 y j C
   refine pj (q:=fun a8=>∀y,a8.phi y W1->a8.phi y W2) (fun _ _=>trivial) (fun p C aw y N=>?_) ci hj y C
   simp only[mem_cons,mem_nil_iff,or_false] at C
   rcases C with rfl|rfl|rfl|rfl
   ·exact dM N j (fun am hb hm=>by have B:=cj N am hb;have T:=hS am hm;omega)
   ·exact absurd rfl aw
   ·exact HK hS j y N
   ·exact HL hS j y N
  repeat (apply xZ;rfl;rfl;(first|apply aB|apply dd)<;>rfl)
  refine bG.uX rfl rfl rfl rfl rfl (Nat.le_refl _) (fun b3=>?_)
  refine bG.ui (l:=bV k.1) rfl rfl rfl rfl (by kernel_rfl) (ag rfl) (ag rfl) (ay _) (Nat.le_refl _) (fun W j u=>⟨u _ (.head _) (by kernel_rfl),bY _⟩) ?_ ?_
  ·intro p C aw y w w' bx g0 K g2 g3 g4 g5
   simp only[mem_cons,not_mem_nil,or_false] at C
   rcases C with rfl|rfl|rfl|rfl
   ·exact dM g5 g3 (cF g5 (by decide) K)
   ·exact xw K g3 y g5
   ·exact qC (ay _) g3 g4 g5
   ·exact absurd rfl aw
  refine bG.tl (fun V af u=>?_)
  obtain⟨cy,a2⟩:G.heap.size<=b3/\aG V b3 (.cells (bV k.1).toArray 52):=u _ (.head _)
  obtain⟨⟨⟨N,-⟩,-⟩,ak,aF,-⟩:((k.1.t=(jU a.nb (kU (o:Int)) (d1 1)).2.1/\(k.1.t.body≠[]->∀am a6,k.1.a1=some ⟨am,a6,none⟩->am∉aR k.1.s))/\∀ad,k.2.ownBlock=some ad->a.vN.ownBlock=some ad\/G.heap.size<=ad)/\k.1.In 0 V/\dw V D a.c.vb a.pm k.2 (jU a.nb (kU (o:Int)) (d1 1)).2.2/\V.ownsRow G.heap.size 5 1 k.1.s k.1.t.sig.length (bX iE k.1.t.sig):=u _ (.tail _ (.tail _ (.head _)))
  obtain⟨k,v2⟩:=k
  simp only at a2 N ak aF
  clear u z1
  rw[g.nb,HF av] at N aF
  simp only at N aF
  rw[show(FB (jU a.nb (kU (o:Int)) (d1 1)).2.1 (jU a.nb (kU (o:Int)) (d1 1)).1 G.heap.size D a.c.vb a.pm a.vN (jU a.nb (kU (o:Int)) (d1 1)).2.2).val (k,v2)= .tuple #[eG k,.int .i64 (jU a.nb (kU (o:Int)) (d1 1)).1] from rfl]
  rw[g.nb,HF av]
  have T:=B.sgn af aF
  obtain⟨A,ai⟩:∃A,({a with vN:=v2,nb:=kN (o+1)}:Wl)=A:=⟨_,rfl⟩
  have Q:A.c=a.c:=by rw[<-ai]
  have e2:A.ss=a.ss:=by rw[<-ai]
  have e3:A.bs=a.bs:=by rw[<-ai]
  have e4:A.nb=kN (o+1):=by rw[<-ai]
  have e5:A.vs=a.vs:=by rw[<-ai]
  rw[ai] at T
  obtain⟨Y,-,-,-⟩:=cP T.blk
  have r3:Row V b3 0 (bV k):=Row.all a2 rfl
  repeat (first|apply ar|refine wt ?_)
  refine CG.tail mixed 8 [0,1,2,3,4,5,6,7] (by kernel_rfl) ?_
  repeat (apply bW;rfl;rfl;(first|apply bR|apply aB|apply aZ|apply bf|apply aU|apply du)<;>first|rfl|assumption|exact qf|exact wn|apply ay)
  refine aM.tl (fun w3 ab _ _=>?_)
  have H:=T.az ab
  have hq:aC A.c.ns A.c.tr.tip=some (z,U):=by rw[Q];exact g.tip
  have b4:df 256 (A.c.ps.map Em.en):=by rw[Q];exact g.ok.pool
  have ax:A.c.ps.map Em.en=kP o:=by rw[Q];exact g.ps
  have aY:k.In D w3:=(ak.mono (Nat.zero_le D)).az ab
  obtain⟨k1,k2⟩:=KG av g.mx g.mf
  clear Y r3
  refine SG.call rfl rfl rfl (vs:=[.pointer (some ⟨A.c.cb,0,none⟩),eG k]) (bg.of rfl) ((pL H.ch H.nb b4 aY hq).mono (fun L w4 I=>?_))
  obtain⟨rfl,al,aA,a3,an,ae,-⟩:=I
  have cn:fX A.c 0:=by rw[Q];exact g.ok
  have ac:=cn.sub (pv:=al) an
  rw[ax,e4,N] at an
  rw[ax,e4,N]
  have an:aA.map Em.en=kP (o+1):=by rw[an];exact k2
  have k1:gx (kN (o+1)) (z,U).2 (kP o) (kS o)=0:=k1
  rw[k1]
  refine⟨_,rfl,?_⟩
  have aN:dt D CT [A.c.tm,A.c.nm] w3 (A.c.pb::aR A.c.pv):=H.ch.pool.qi
  have r:=H.GY ae aN a3 ⟨rfl,rfl,rfl,rfl⟩ (fun p C=>Or.inl C)
  have cf:k.In D w4:=aY.qi ae aN (by decide)
  have bC:aG w4 b3 (.cells (bV k).toArray 52):=aN.blk ae (a2.az ab) (by decide)
  obtain⟨d,R⟩:∃d,({A with c:={A.c with pv:=al,ps:=aA}}:Wl)=d:=⟨_,rfl⟩
  have M:d.c={A.c with pv:=al,ps:=aA}:=by rw[<-R]
  have f2:d.ss=a.ss:=by rw[<-R];exact e2
  have f3:d.bs=a.bs:=by rw[<-R];exact e3
  have f4:d.nb=kN (o+1):=by rw[<-R];exact e4
  have f5:d.vs=a.vs:=by rw[<-R];exact e5
  rw[R] at r
  repeat (first|apply ar|(apply au;rfl;(first|apply cI|apply du)<;>first|rfl|exact qf))
  refine bA rfl ?_
  obtain⟨-,-,z2,-⟩:=cP r.blk
  have r5:Row w4 b3 0 (bV k):=Row.all bC rfl
  have bd:∀z∈aR d.vs,z<w4.heap.size:=fun z hz=>cK r.sg z (aL hz)
  have cB:=af.size
  have n3:b3∉aR d.vs:=fun hm=>by
   rw[f5] at hm
   have B:=cK B.sg b3 (aL hm)
   omega
  have nw:bw∉aR d.vs:=fun hm=>cF r.sg (by decide) r.blk bw (aL hm) (mem_singleton.2 rfl)
  have cx:d.ss.length<=10:=by
   rw[f2]
   have:=congrArg length g.ss
   rw[length_map] at this
   rw[this,length_take]
   exact Nat.le_trans (Nat.min_le_left _ _) (by omega)
  have cv:=r.ch.w0
  repeat apply ar
  refine CG.dS mixed 8 [0,1,2,3,4,5,6,7] [6,7] (aR d.vs) (fun W=>W.ownsRow D 52 13 d.vs d.ss.length (bX bV d.ss)) (by kernel_rfl) r.sg (fun _ _ j h=>aV h j) ?_
  repeat (apply bW;rfl;rfl;(first|apply bR|apply aB|apply aZ|apply bf|apply aU)<;>first|rfl|assumption|apply ay)
  refine aM.lP (cs:=(bV k).toArray) (E:=52) rfl rfl rfl rfl rfl (fun W=>zF k W) bd (fun W W' j h=>trivial) (fun _ _ j h=>aV h j) (fun bu=>?_)
  apply aM.mv (P:=prog) (t:=41) (base:=D) (e:=52) (i:=Tryz.t52) (f:=ty.i52) (v:=d.vs) (nn:=d.ss.length) (xs:=bX bV d.ss) (b:=bu) (off:=0) (m:=1) (c:=1) (news:=bV k)
  iterate 4 exact rfl
  iterate 2 exact ag rfl
  iterate 3 exact rfl
  ·exact fun W j u=>Row.all u.2.2 rfl
  ·rw[ay];rfl
  ·exact bY _
  ·simp only[maxLen];omega
  ·show(d.ss.length+1)*80<=_;omega
  ·omega
  ·exact fun _ h=>h
  ·exact fun W W' j u=>⟨trivial,u.2.1,u.2.2.kp j (fun hm=>by have:=bd _ hm;have:=u.2.1;omega)⟩
  intro v7
  refine aM.tl (fun w5 ah u aP=>?_)
  obtain⟨-,cc⟩:=u
  have aP:w5.ownsRow D 52 13 v7 (d.ss++[k]).length (bX bV (d.ss++[k])):=by
   rw[dP,ix,length_append]
   exact aP
  obtain⟨a7,c7,rfl⟩:=ik aP
  have bJ:=r.blk.kp ah nw
  clear z2 r5
  repeat (apply au;rfl;(first|apply bR|apply aU)<;>rfl)
  refine SG.cp [.pointer (some ⟨d.c.cb,0,none⟩),.pointer (some ⟨d.c.vb,0,none⟩)] [d.vs] [d.vb] rfl rfl (ag rfl) (ag rfl) bJ rfl rfl rfl rfl rfl (fun w6 aq bD=>?_)
  have h6:=r.put ah aP cc cf aq bD
  repeat (first|apply ar|refine wz ?_)
  refine NG.round (o+1,{d with vs:= .slice a7 (d.ss++[k]).length c7,ss:=d.ss++[k]}) (aS.of rfl) ⟨av,?_,h6,?_⟩ (by simp only;omega)
  ·have hz:∀z∈a.c.vb::a.pm::aR a.vN,z∈([]:List Nat)\/w.heap.size<=z:=fun O F=>by
    rw[hn]
    rcases mem_cons.1 F with rfl|F
    ·exact Or.inr aa.bp
    rcases mem_cons.1 F with rfl|F
    ·exact Or.inr aa.pp
    exact Or.inr (cj aa.own O (aL F))
   refine(((((ap.aj af hz).trans ab).aj ae (fun O F=>Or.inr (by rw[hn];exact(aN O F).1))).aj ah (fun O F=>Or.inr (by rw[hn];exact cj r.sg O (aL F)))).aj aq (aW (by rw[hn];exact r.bn)))
  ·refine⟨?_,?_,?_,?_,?_,?_,g.yb,g.mx,g.mf,g.mt,?_⟩
   ·show d.c.tr=_
    rw[M]
    show A.c.tr=_
    rw[Q]
    exact g.tr
   ·show d.c.ns=_
    rw[M]
    show A.c.ns=_
    rw[Q]
    exact g.ns
   ·show d.c.ps.map Em.en=_
    rw[M]
    exact an
   ·show d.nb=_
    exact f4
   ·show(d.ss++[k]).map (·.t)=_
    rw[f2,map_append,g.ss]
    show _++[k.t]=_
    rw[N]
    match o,av with
    |0,_=>rfl
    |1,_=>rfl
   ·show d.bs=_
    rw[f3]
    exact g.bs
   ·show fX d.c 0
    rw[M]
    exact ac
 ·have K:¬(o:Int)<2:=by omega
  have e2:o=2:=by omega
  subst e2
  repeat (first|apply ar|refine un ?_)
  refine bA rfl ?_
  obtain⟨Y,-,-,-⟩:=cP B.blk
  have bQ:aI y.b=bF:=E0 g.yb
  have b6:bz y.b=0:=by rw[g.yb];exact Au
  have bl:U.x.ht=0:=by rw[g.mx];rfl
  have b9:U.t.n=0:=by rw[g.mt];rfl
  have bT:=Ix g.mx g.mf g.ps
  have bk:=B.ch.w0
  repeat apply ar
  refine CG.free mixed 13 [0,1,2,3,4,5,6,7,8,9,10,11,12] [(7,LK),(11,gV G.heap.size 50 18),(12,gP G.heap.size 50)] (by kernel_rfl) ?_ ?_
  ·intro p C
   simp only[mem_cons,mem_nil_iff,or_false] at C
   rcases C with rfl|rfl|rfl
   ·exact Et
   ·exact qB
   ·exact qD
  repeat (apply xZ;rfl;rfl;(first|apply bR|apply aB|apply aZ|apply aU)<;>first|rfl|assumption|exact wn)
  refine bG.call rfl rfl rfl rfl (vs:=[.pointer (some ⟨bw,0,none⟩)]) (v:=dv bF) (bg.of rfl) (fun W j _=>by
   have:=xl (B.az j) g.bs b6
   rw[bQ] at this
   exact this) ?_
  refine bG.val rfl rfl rfl rfl (aK rfl (fun W=>E6 8 W)) ?_
  refine bG.xL (vs:=[.pointer (some ⟨a.c.cb,0,none⟩),dv bF,dv (d1 8),.slice none 0 0]) LK rfl rfl rfl rfl (bg.of rfl) (fun W j u=>(tC (B.az j).ch (by decide) g.ok.pool bF (d1 8) (q:=(z,U)) (by rw[g.ns];exact if_pos rfl) ⟨by rw[bl];decide,by rw[bl];decide⟩ (by rw[b9];decide) (a0:=none) (c0:=0) (ls:=[]) Sl.nil (Nat.zero_le _)).mono (fun L W' I=>?_)) (fun S=>?_)
  ·obtain⟨S,he,hb,ak,-,a5⟩:=I
   exact⟨S,he,⟨hb.trans bT,ak⟩,a5⟩
  repeat (apply xZ;rfl;rfl;(first|apply aB|apply dd)<;>rfl)
  refine bG.uX rfl rfl rfl rfl rfl (Nat.le_refl _) (fun b5=>?_)
  refine bG.ui (l:=cR S) rfl rfl rfl rfl (by kernel_rfl) (ag rfl) (ag rfl) (aH _) (Nat.le_refl _) (fun W j u=>⟨u _ (.head _) (by kernel_rfl),dB _⟩) ?_ ?_
  ·intro p C aw y w w' bx g0 K g2 g3 g4 g5
   simp only[mem_cons,not_mem_nil,or_false] at C
   rcases C with rfl|rfl|rfl
   ·exact⟨g5.1,g5.2.wr g3 (Nat.zero_le _) K⟩
   ·exact qC (aH _) g3 g4 g5
   ·exact absurd rfl aw
  refine bG.tl (fun V af u=>?_)
  obtain⟨cz,bb⟩:G.heap.size<=b5/\aG V b5 (.cells (cR S).toArray 50):=u _ (.head _)
  obtain⟨bo,ak⟩:Bm.b S=kB/\Bm.In S 0 V:=u _ (.tail _ (.tail _ (.head _)))
  clear u Y
  have T:=B.az af
  obtain⟨Y,-,-,-⟩:=cP T.blk
  have r5:Row V b5 0 (cR S):=Row.all bb rfl
  repeat (first|apply ar|refine wt ?_)
  refine CG.tail mixed 8 [0,1,2,3,4,5,6,7] (by kernel_rfl) ?_
  repeat (apply bW;rfl;rfl;(first|apply bR|apply aB|apply aZ|apply bf|apply aU|apply du)<;>first|rfl|assumption|exact qf|exact wn|apply aH)
  refine aM.tl (fun w3 ab _ _=>?_)
  have H:=T.az ab
  have l1:=H.ch.tree.map.lt
  have l2:=H.ch.map.lt
  have l3:=H.nb.map.lt
  have aY:Bm.In S D w3:=(Bm.In.up ak (Nat.zero_le D)).az ab
  have a4:oL a.nb a.c (Bm.b S)=0:=by rw[bo,g.nb];exact KK g.ns g.tr g.mx g.mf g.mt
  clear Y r5
  refine SG.call rfl rfl rfl (vs:=[.pointer (some ⟨a.c.cb,0,none⟩),eL S]) (bg.of rfl) ((tT H.ch g.ok (by decide) (by decide) (fun z hz=>by
   simp only[mem_cons,mem_nil_iff,or_false] at hz
   rcases hz with rfl|rfl|rfl
   ·exact l1
   ·exact l2
   ·exact l3) H.nb aY).mono (fun L w4 I=>?_))
  obtain⟨rfl,I⟩:=I
  refine⟨_,rfl,?_⟩
  obtain⟨-,hA⟩:=I.elim (fun ad=>absurd a4 ad.1) id
  obtain⟨al,aA,z2,qn,a3,aQ,hr,ax,ae,-,bi⟩:=hA
  have r:=H.GY ae H.ch.nk a3 ⟨rfl,rfl,rfl,rfl⟩ (fun p C=>(lV C).elim (fun L=>Or.inr (by rw[L];exact bi)) Or.inl)
  have ac:=g.ok.added a4 (pv:=al) aQ hr ax
  rw[a4]
  repeat (first|apply ar|(apply au;rfl;(first|apply cI|apply du)<;>first|rfl|exact qf))
  refine bA rfl ?_
  rw[bo] at hr aQ r ac
  obtain⟨cl,ck⟩:=QJ g hr
  rw[g.ns,g.tr,KE] at r ac
  obtain⟨Z,ao⟩:∃Z,({a.c with pv:=al,ps:=aA,tr:=(Tr.new bF 0).put (aI kB) bF,ns:=ca [(bF,z,U)] (aI kB) (z2,qn)}:Cm)=Z:=⟨_,rfl⟩
  have K:Z.tr=(Tr.new bF 0).put (aI kB) bF:=by rw[<-ao]
  have g2:Z.ns=ca [(bF,z,U)] (aI kB) (z2,qn):=by rw[<-ao]
  have r:dF w4 D 10 bw {a with c:=Z}:=by rw[<-ao];exact r
  have ac:fX Z (0+1):=by rw[<-ao];exact ac
  obtain⟨d,R⟩:∃d,({a with c:=Z}:Wl)=d:=⟨_,rfl⟩
  have M:d.c=Z:=by rw[<-R]
  have f2:d.ss=a.ss:=by rw[<-R]
  rw[R] at r
  obtain⟨xa,xb,aX,ce⟩:=KD (l:=d.ss) (by rw[f2];exact g.ss)
  have b2:aC d.c.ns d.c.tr.tip=some (z2,qn):=by rw[M,K,g2,HE,bK,if_pos rfl]
  have bN:dz d.c.ns (aJ xb.t) (d.c.tr.line d.c.tr.tip)=some (1,21):=by
   rw[M,K,zi,ce]
   exact Iy g2 g.mx aQ ck
  have b0:∀a9∈d.c.tr.line d.c.tr.tip,∃a,aC d.c.ns a9=some a:=fun a9 hd=>by
   rw[M,K,zi] at hd
   rw[M,g2]
   simp only[mem_cons,mem_nil_iff,or_false] at hd
   rcases hd with rfl|rfl
   ·exact⟨(z,U),by rw[bK,if_neg xr];exact if_pos rfl⟩
   ·exact⟨(z2,qn),by rw[bK,if_pos rfl]⟩
  have bZ:(d.c.tr.line d.c.tr.tip).length<=100000:=by
   rw[M,K,zi]
   decide
  have co:d.c.tr.WF:=by rw[M];exact ac.wf
  clear hr aQ ax bi ao K g2 ac bb
  obtain⟨cq,cr,bB,cu,bH⟩:=Sl.own ay r.sg rfl
  have cm:1<d.ss.length:=by rw[aX];exact Nat.lt_succ_self 1
  obtain⟨ba,a6,rfl,aT⟩:=bH.at cm
  have Q:d.ss[1]=xb:=by simp only[aX];rfl
  rw[Q] at aT
  have aT:Row w4 ba (a6+(1:Int).toNat*13) (bV xb):=aT
  have bU:d.ss.length=2:=by rw[aX];rfl
  obtain⟨Y,-,bq,-⟩:=cP r.blk
  rw[bB,bU] at bq
  have cd:xb.In D w4:=r.si xb (by rw[aX];simp)
  repeat apply ar
  refine CG.fA mixed [0,1,2,3,4,5,6,7,8,9,10,11,12,13,14,17] [(15,16,7,.tmp 89)] (by kernel_rfl) (by kernel_rfl) ?_
  repeat (apply bW;rfl;rfl;(first|apply bR|apply aB|apply aZ|apply bf|apply aU|apply Du)<;>first|rfl|exact zc|assumption|exact wn|apply ay)
  refine aM.call rfl rfl rfl (vs:=[eG xb]) (bg.of rfl) (fun W j _=>dV (cd.az j)) ?_
  refine aM.call rfl rfl rfl (v:= .tuple #[.agg (EH (1,21)).toArray,.bool true]) (vs:=[.pointer (some ⟨d.c.cb,0,none⟩),dv (aJ xb.t)]) (bg.of rfl) (fun W j _=>by
   have:=rQ (r.az j).ch co bZ b0 (aJ xb.t)
   rw[bN] at this
   exact this) ?_
  repeat (apply bW;rfl;rfl;(first|apply aB|apply aE|apply dd)<;>rfl)
  refine aM.one (fq.of (by rfl) rfl rfl rfl (ag rfl) (by rfl) (by rfl) (by rfl)) (fun b7 w5 ah ct bE=>?_)
  have h5:=r.az ah
  clear Y bq aT
  obtain⟨Y,-,-,-⟩:=cP h5.blk
  repeat (first|apply ar|(apply au;rfl;(first|apply bR|apply aB|apply aZ|apply aU)<;>first|rfl|assumption|exact wn))
  refine SG.call rfl rfl rfl (vs:=[.pointer (some ⟨d.c.cb,0,none⟩)]) (bg.of rfl) ((p7 h5.ch b2).mono (fun L w6 I=>?_))
  obtain⟨bt,bm,mk,rfl,bh,bI,-,-,aq⟩:=I
  refine⟨_,rfl,?_⟩
  clear Y
  have bc:=bE.az aq
  have r0:Row w6 b7 0 [.int .i64 1]:=Row.of bc [] [.int .i64 21] rfl rfl
  have r1:Row w6 b7 1 [.int .i64 21]:=Row.of bc [.int .i64 1] [] rfl rfl
  have be:cC mk=HD:=bI.eq.trans cl
  have b1:∀{W:World},Kp [] w6 W->dq prog 19 #[.pointer (some ⟨bt,0,none⟩),dv (d1 1)] W (FD (oN (d1 1) (HD (d1 1)))):=fun j=>by
   have:=lR (bh.az j) (d1 1)
   rw[be] at this
   exact this
  have b8:∀{W:World},Kp [] w6 W->dq prog 19 #[.pointer (some ⟨bt,0,none⟩),dv (d1 8)] W (FD (oN (d1 8) (HD (d1 8)))):=fun j=>by
   have:=lR (bh.az j) (d1 8)
   rw[be] at this
   exact this
  repeat (first|apply ar|(apply au;rfl;(first|apply U6|apply aB|apply aE|apply aZ|apply aU|apply cI|apply fE)<;>first|rfl|assumption|exact qf|exact wn))
  refine SG.val rfl rfl rfl rfl (aK rfl (fun W=>E6 1 W)) ?_
  refine SG.ret rfl rfl rfl (vs:=[.pointer (some ⟨bt,0,none⟩),dv (d1 1)]) (bg.of rfl) (b1 (Kp.refl _ _)) (fun w7 bj=>?_)
  refine SG.val rfl rfl rfl rfl (KN rfl) ?_
  rw[QM]
  repeat (apply au;rfl;(first|apply aB|apply cI|apply fE)<;>first|rfl|exact qf)
  refine SG.val rfl rfl rfl rfl (aK rfl (fun W=>E6 8 W)) ?_
  refine SG.ret rfl rfl rfl (vs:=[.pointer (some ⟨bt,0,none⟩),dv (d1 8)]) (bg.of rfl) (b8 bj) (fun w8 bS=>?_)
  refine SG.val rfl rfl rfl rfl (KN rfl) ?_
  rw[QL]
  repeat (first|apply ar|(apply au;rfl;(first|apply aE|apply cI|apply fE)<;>first|rfl|exact qf))
  refine aO (Or.inl rfl) results10 (aD.tmp rfl) ?_
  have bL:dt D CT [a.c.tm,a.c.nm] w3 (qG a.c):=H.ch.nk
  exact⟨rfl,(((((((ap.trans af).trans ab).aj ae (fun O F=>Or.inr (by rw[hn];exact(bL O F).1))).trans ah).trans aq).trans bj).trans bS)⟩
end
section
variable{c:Cm}{d x:Dg}{f0:Fb}{t:Tr}{nb:dW}
structure Hi(nb:dW)(c:Cm)(f0:Fb):Prop where
 ht:∀d q,aC c.ns d=some q->q.2.x.ht=(c.tr.ht d:Int)
 fst:∃q,aC c.ns c.tr.first=some q/\q.2.x.b=(bZ cM).b/\q.2.f=f0/\q.2.t=C9/\q.2.es=[]
 first:c.tr.first=bF
 up:∀d q,aC c.ns d=some q->d≠c.tr.first->aI q.2.x.b=d/\c.tr.par d=q.2.x.b.par/\bz q.2.x.b=0/\∃p,aC c.ns q.2.x.b.par=some p/\iU q.2.x.b p.2.x.b=0/\dR nb q.2.x.b.ht q.2.x.b.mkr p.2.f p.2.t [] q.2.x.b.txs=(0,q.2.f,q.2.t,q.2.es)
theorem tS{t:Tr}(e:t.WF):∀(k:Nat) {x:Dg},t.has x=true->k<=t.ht x->∀d∈t.eF k x,t.has d=true
 |0,x,b,_,d,a=>by
  rw[Tr.eF,mem_singleton] at a
  rw[a]
  exact b
 |k+1,x,b,f,d,a=>by
  have c:=e.anc 1 b (by omega)
  rcases mem_cons.1 a with rfl|a
  ·exact b
  ·exact tS e k c.1 (by have:=c.2;show k<=t.ht (t.anc 1 x);omega) d a
theorem D8(c:t.WF)(b:t.has x=true)(a:d∈t.line x):t.has d=true:=by
 unfold Tr.line at a
 rw[if_pos b,mem_reverse] at a
 exact tS c _ b (Nat.le_refl _) d a
theorem pD{ns:List (Dg×Nat×Nm)}{v:Nat×Nm}(h:aC ns d=none){q:Nat×Nm}(a:aC ns x=some q):aC (ca ns d v) x=some q:=by
 rw[bK,if_neg (fun e=>by rw[e,a] at h;cases h),a]
theorem AU{p:Dg}(h:t.addE x p=0):t.add x p=t.put x p:=if_pos h
theorem Ae{nb nb':dW}(i:qm nb nb'){h:Int}{mk:Dg}:∀(l:List Tx) {f d:Fb} {t g:Tl} {es c:List Int},dR nb h mk f t es l=(0,d,g,c)->dR nb' h mk f t es l=(0,d,g,c)
 |[],f,d,t,g,es,c,a=>a
 |x::l,f,d,t,g,es,c,a=>by
  by_cases b:eJ nb x=0
  ·by_cases e:dC f x=0
   ·rw[l0 b e] at a
    rw[l0 (i x b) e]
    exact Ae i l a
   ·have:=lE (nb:=nb) (h:=h) (mk:=mk) (t:=t) (es:=es) (l:=l) b e
    rw[a] at this
    exact absurd this.symm e
  ·have:=lD (nb:=nb) (h:=h) (mk:=mk) (f:=f) (t:=t) (es:=es) (l:=l) b
   rw[a] at this
   exact absurd this.symm b
theorem Hi.le{nb':dW}(h:Hi nb c f0)(b:qm nb nb'):Hi nb' c f0:=⟨h.ht,h.fst,h.first,fun d q e a=>by
 obtain⟨f,g,i,p,j,k,l⟩:=h.up d q e a
 exact⟨f,g,i,p,j,k,Ae b _ l⟩⟩
theorem Hi.J1{c':Cm}{H:Int}(h:Hi nb c f0)(ok:fX c H)(s:Jn nb c c'):Hi nb c' f0:=by
 obtain⟨-,⟨i,j⟩|⟨k,z,g,I,i,j,v,p,n,G⟩⟩:=s
 ·obtain⟨C,D,E,F⟩:=h
  exact⟨by rw[i,j];exact C,by rw[i,j];exact D,by rw[i];exact E,by rw[i,j];exact F⟩
 obtain⟨B,l,Y,o,r,u⟩:=zP I
 rw[n] at o
 obtain rfl:=Option.some.inj o
 obtain⟨Q,R,S,-⟩:=Fa u
 rw[AU u] at i
 have X:∀{x:Dg} {q:Nat×Nm},aC c.ns x=some q->aI k≠x:=fun a e=>by rw[<-e,l] at a;cases a
 have W:=zB r
 have U:p.2.x.ht=(c.tr.ht k.par:Int):=h.ht _ _ n
 have T:g.x.ht=k.ht:=by rw[<-v];rfl
 have V:p.2.x.b.ht=p.2.x.ht:=rfl
 obtain⟨K,y,A⟩:=h.fst
 have m:c'.tr.first=c.tr.first:=by rw[i];rfl
 refine⟨fun d q a=>?_,⟨K,by rw[m,j];exact pD l y,A⟩,by rw[m];exact h.first,fun d q a w=>?_⟩
 ·rw[j,bK] at a
  rw[i]
  by_cases e:aI k=d
  ·rw[if_pos e] at a
   obtain rfl:=Option.some.inj a
   rw[<-e,gF]
   show g.x.ht=_
   omega
  ·rw[if_neg e] at a
   rw[cT _ e]
   exact h.ht d q a
 ·rw[m] at w
  rw[j,bK] at a
  by_cases e:aI k=d
  ·rw[if_pos e] at a
   obtain rfl:=Option.some.inj a
   show aI g.x.b=d/\c'.tr.par d=g.x.b.par/\bz g.x.b=0/\∃p,aC c'.ns g.x.b.par=some p/\iU g.x.b p.2.x.b=0/\dR nb g.x.b.ht g.x.b.mkr p.2.f p.2.t [] g.x.b.txs=(0,g.f,g.t,g.es)
   rw[v]
   refine⟨e,?_,B,p,by rw[j];exact pD l n,r,G⟩
   rw[i,<-e]
   exact jl _ _ _
  ·rw[if_neg e] at a
   obtain⟨L,M,N,J,O,P⟩:=h.up d q a w
   exact⟨L,by rw[i,jk _ e];exact M,N,J,by rw[j];exact pD l O,P⟩
theorem I9{b:Bd}{l:List Nat}{q:Wl}{y:Bm}(h:Fp b l q y)(nb:dW):Hi nb q.c (cC (gq [] (jA l 4))):=by
 obtain⟨z,m,r,i,o,p,n⟩:=h.ns
 have g:∀d,aC q.c.ns d=if bF=d then some (z,m) else none:=fun d=>by
  rw[r]
  rfl
 have f:q.c.tr.first=bF:=by rw[h.tr];rfl
 refine⟨fun d s a=>?_,⟨(z,m),by rw[f,g,if_pos rfl],by show m.x.b=_;rw[i],o,p,n⟩,f,fun d s a k=>?_⟩
 ·rw[g] at a
  by_cases e:bF=d
  ·rw[if_pos e] at a
   obtain rfl:=Option.some.inj a
   have j:q.c.tr.ht d=0:=by rw[<-e,<-f,h.tr];exact(o7 bF _).h0
   rw[j]
   show m.x.ht=0
   rw[i]
   rfl
  ·rw[if_neg e] at a;cases a
 ·rw[g,if_neg (fun e=>k (by rw[f,e]))] at a
  cases a
end
section
variable{c:Cm}{ps':List Em}{mb n:Nat}{pv':Value}{w w':World}
structure Md where
 bm:Nat
 tb:Nat
 tm:Nat
 pb:Nat
 pv:Value
 bd:Bd
 la:Option Addr
 lc:Nat
 l:List Ac
 tr:Tr
 ps:List Em
 bl:List (Dg×Bm)
def Ss(m:Md):List Value:=iF m.bd++[.slice m.la m.l.length m.lc,.map (some m.bm),.pointer (some ⟨m.tb,0,none⟩),.pointer (some ⟨m.pb,0,none⟩)]
def jc(m:Md):List Nat:=m.tb::m.tm::m.bm::m.pb::aR m.pv
structure eW(w:World)(n mb:Nat)(m:Md):Prop where
 blk:aG w mb (.cells (Ss m).toArray 173)
 mon:R9 w m.la m.l
 map:aF w m.bm (dv (n:=8)) eL m.bl
 ins:∀p∈m.bl,p.2.In n w
 tree:cO w m.tb m.tm m.tr
 pool:Pl w n m.pb m.pv 256 m.ps
 tn:m.tb≠m.tm
 nbt:m.bm≠m.tm
 nt:n<=m.tm/\n<=m.bm/\n<=m.tb
 lo:∀b off,m.la=some ⟨b,off,none⟩->b∉jc m
theorem eW.az{m:Md}(h:eW w n mb m)(a:Kp [] w w'):eW w' n mb m:=⟨h.blk.az a,h.mon.az a,h.map.az a,fun p b=>(h.ins p b).az a,h.tree.az a,h.pool.az a,h.tn,h.nbt,h.nt,h.lo⟩
theorem cX{m:Md}{T:TypeId}(h:aG w mb (.cells (Ss m).toArray T)):Row w mb 0 (iF m.bd)/\Row w mb 3 [.slice m.la m.l.length m.lc]/\Row w mb 4 [.map (some m.bm)]/\Row w mb 5 [.pointer (some ⟨m.tb,0,none⟩)]/\Row w mb 6 [.pointer (some ⟨m.pb,0,none⟩)]:=
 ⟨Row.of h [] [.slice m.la m.l.length m.lc,.map (some m.bm),.pointer (some ⟨m.tb,0,none⟩),.pointer (some ⟨m.pb,0,none⟩)] rfl rfl,Row.of h (iF m.bd) [.map (some m.bm),.pointer (some ⟨m.tb,0,none⟩),.pointer (some ⟨m.pb,0,none⟩)] rfl rfl,Row.of h (iF m.bd++[.slice m.la m.l.length m.lc]) [.pointer (some ⟨m.tb,0,none⟩),.pointer (some ⟨m.pb,0,none⟩)] rfl rfl,Row.of h (iF m.bd++[.slice m.la m.l.length m.lc,.map (some m.bm)]) [.pointer (some ⟨m.pb,0,none⟩)] rfl rfl,Row.of h (iF m.bd++[.slice m.la m.l.length m.lc,.map (some m.bm),.pointer (some ⟨m.tb,0,none⟩)]) [] rfl rfl⟩
structure FG(m:Md)(c:Cm):Prop where
 bd:m.bd=c.bd
 tr:m.tr=c.tr
 ps:m.ps.map Em.en=c.ps.map Em.en
 bl:∀d,(aC m.bl d).map Bm.b=(aC c.ns d).map (fun q=>q.2.x.b)
theorem FG.get{m:Md}(h:FG m c){d:Dg}{q:Nat×Nm}(f:aC c.ns d=some q):∃y,aC m.bl d=some y/\y.b=q.2.x.b:=by
 have:=h.bl d
 rw[f] at this
 obtain⟨y,a,e⟩:=Option.map_eq_some_iff.1 this
 exact⟨y,a,e⟩
structure Ck(m:Md)(c:Cm)(nb:dW)(H:Int):Prop where
 eq:FG m c
 hi:Hi nb c (cC (gq [] m.l))
 ok:fX c H
 hH:H<=500
 lz:jH m.l=0
 ll:0<m.l.length/\m.l.length<=1000
 tot:0<=eU m.l/\eU m.l<=1000000000
theorem Ck.inv{m:Md}{nb:dW}{H:Int}(h:Ck m c nb H):df 256 (m.ps.map Em.en):=by rw[h.eq.ps];exact h.ok.pool
theorem eW.la{m:Md}(h:eW w n mb m)(c:0<m.l.length){b off:Nat}(e:m.la=some ⟨b,off,none⟩):b<w.heap.size:=by
 obtain⟨f,g,a,d⟩:=h.mon.at c
 rw[e] at a
 cases a
 exact d.lt
theorem wZ{m:Md}(c:w.heap.size<=w'.heap.size)(b:∀g,pv'.ownBlock=some g->m.pv.ownBlock=some g\/w.heap.size<=g):∀x∈jc {m with pv:=pv',ps:=ps'},x∈jc m\/w.heap.size<=x:=fun x a=>by
 simp only[jc,mem_cons] at a⊢
 rcases a with e|e|e|e|e
 ·exact Or.inl (by simp[e])
 ·exact Or.inl (by simp[e])
 ·exact Or.inl (by simp[e])
 ·exact Or.inl (by simp[e])
 ·exact(jm b e).imp (fun g=>by simp[g]) id
theorem eW.th{m:Md}(h:eW w n mb m)(k:0<m.l.length)(a:Kp (m.pb::aR m.pv) w w')(i:Pl w' n m.pb pv' 256 ps')(j:∀g,pv'.ownBlock=some g->m.pv.ownBlock=some g\/w.heap.size<=g):eW w' n mb {m with pv:=pv',ps:=ps'}:=by
 have f:dt n CT [] w (m.pb::aR m.pv):=h.pool.qi
 refine⟨f.blk a h.blk (by decide),h.mon.kp a (fun b d e c=>h.lo b d e (by unfold jc;rcases mem_cons.1 c with g|g<;>simp[g])),h.map.kp a (h.pool.Gn h.map),fun p o=>(h.ins p o).jq a f (by decide) (by decide),h.tree.kp a (h.pool.DP h.tree.blk (by decide) (by decide)) (h.pool.Gn h.tree.map),i,h.tn,h.nbt,h.nt,fun b d e c=>?_⟩
 rcases wZ a.size j b c with g|g
 ·exact h.lo b d e g
 ·have:=h.la k e
  omega
end
section
abbrev xW:=List (Dg×(Int×Int))
def x9(h:Int):xW->List Dg->List Int->xW
 |D,x::l,e::es=>x9 h (if(aC D x).isSome then D else ca D x (h,e)) l es
 |D,_,_=>D
def HM(ns:List (Dg×Nat×Nm))(D:xW)(d:Dg):xW:=match aC ns d with
 |some q=>x9 q.2.x.ht D q.2.iC q.2.es
 |none=>D
def AJ(ns:List (Dg×Nat×Nm))(l:List Dg):xW:=l.foldl (HM ns) []
theorem Be{nb:dW}{h:Int}{mk:Dg}{f e:Fb}{t g:Tl}{es d:List Int}{x:Tx}{l:List Tx}(c:dR nb h mk f t es (x::l)=(0,e,g,d)):eJ nb x=0/\dC f x=0/\dR nb h mk (jJ f mk x) (dot t f h mk x) (kL es f mk x) l=(0,e,g,d):=by
 by_cases a:eJ nb x=0
 ·by_cases b:dC f x=0
  ·exact⟨a,b,by rw[<-l0 a b];exact c⟩
  ·exact absurd (by rw[<-lE (es:=es) (t:=t) (l:=l) (h:=h) (mk:=mk) a b,c]) b
 ·exact absurd (by rw[<-lD (es:=es) (t:=t) (f:=f) (l:=l) (h:=h) (mk:=mk) a,c]) a
theorem Ek(x:Dg)(l:List Dg)(d:Dg):gr (x::l) d=if x=d then 0 else if gr l d= -1 then-1 else gr l d+1:=by
 unfold gr
 rw[findIdx_cons]
 by_cases h:x=d
 ·simp[h]
 ·simp only[h,decide_false,cond_false,if_false,length_cons]
  by_cases g:findIdx (fun x=>decide (x=d)) l<l.length
  ·rw[if_pos (by omega),if_pos g,if_neg (by omega)]
   omega
  ·rw[if_neg (by omega),if_neg g,if_pos rfl]
theorem xH(h:Int)(d:Dg):∀(l:List Dg) (es:List Int) (D:xW),es.length=l.length->aC (x9 h D l es) d=(match aC D d with|some v=>some v|none=>if 0<=gr l d then some (h,es.getD (gr l d).toNat 0) else none)
 |[],es,D,a=>by
  have e:es=[]:=eq_nil_of_length_eq_zero a
  subst e
  show aC D d=_
  cases aC D d with
  |some v=>rfl
  |none=>simp[gr]
 |x::l,[],D,a=>by cases a
 |x::l,e::es,D,a=>by
  show aC (x9 h (if(aC D x).isSome then D else ca D x (h,e)) l es) d=_
  rw[xH h d l es _ (by simpa using a),Ek]
  by_cases b:x=d
  ·subst b
   rw[if_pos rfl]
   cases hD:aC D x with
   |some v=>simp[hD]
   |none=>simp[hD,bK]
  ·rw[if_neg b]
   have c:aC (if(aC D x).isSome then D else ca D x (h,e)) d=aC D d:=by
    split
    ·rfl
    ·rw[bK,if_neg b]
   rw[c]
   cases aC D d with
   |some v=>rfl
   |none=>
    simp only
    have i:gr l d= -1\/0<=gr l d:=by unfold gr;split<;>omega
    rcases i with g|g
    ·rw[g];simp
    ·have j:¬gr l d= -1:=by omega
     have f:(gr l d+1).toNat=(gr l d).toNat+1:=by omega
     rw[if_neg j,if_pos g,if_pos (show 0<=gr l d+1 by omega),f]
     rfl
theorem AK(h:Int)(x:Dg)(e:Int):∀(l:List Dg) (es:List Int) (D:xW),es.length=l.length->x9 h D (l++[x]) (es++[e])=if(aC (x9 h D l es) x).isSome then x9 h D l es else ca (x9 h D l es) x (h,e)
 |[],es,D,a=>by
  have c:es=[]:=eq_nil_of_length_eq_zero a
  subst c
  rfl
 |y::l,[],D,a=>by cases a
 |y::l,b::es,D,a=>by
  show x9 h (if(aC D y).isSome then D else ca D y (h,b)) (l++[x]) (es++[e])=_
  exact AK h x e l es _ (by simpa using a)
theorem xG(ns:List (Dg×Nat×Nm))(a:∀d q,aC ns d=some q->q.2.es.length=q.2.iC.length)(d:Dg):∀(l:List Dg) (D:xW),aC (l.foldl (HM ns) D) d=(match aC D d with|some v=>some v|none=>dz ns d l)
 |[],D=>by
  show aC D d=_
  cases aC D d<;>rfl
 |i::l,D=>by
  show aC (l.foldl (HM ns) (HM ns D i)) d=_
  rw[xG ns a d l]
  show _=(match aC D d with|some v=>some v|none=>match aC ns i with
   |some q=>if 0<=gr q.2.iC d then some (q.2.x.ht,q.2.es.getD (gr q.2.iC d).toNat 0) else dz ns d l
   |none=>dz ns d l)
  unfold HM
  cases hq:aC ns i with
  |none=>rfl
  |some q=>
   simp only
   rw[xH _ _ _ _ _ (a i q hq)]
   cases aC D d with
   |some v=>rfl
   |none=>
    simp only
    by_cases g:0<=gr q.2.iC d
    ·rw[if_pos g,if_pos g]
    ·rw[if_neg g,if_neg g]
end
section
variable{b n:Nat}{w:World}
theorem Dq{a off:Nat}{l:List Value}(j:Row w b off l)(i:∃d c,aG w a (.map d c)):b≠a:=fun e=>by
 subst e
 obtain⟨k,T,f,g,-⟩:=j
 obtain⟨d,c,h⟩:=i
 have:=g.symm.trans h
 cases this
theorem sr.Vo{j:Type}{enc:j->List Value}{sz:Nat}{f:World}{a:Option Addr}{c:Nat}{l:List j}(h:sr n enc sz w a c l)(m:Kp [b] w f)(o:∃k c,aG w b (.map k c)):sr n enc sz f a c l:=⟨h.len,h.fr,fun i x p=>by
 obtain⟨g,q,e,d⟩:=h.sl i x p
 exact⟨g,q,e,d.kp m (bQ (Dq d o))⟩⟩
theorem RS(w:World)(f l s:Int)(a:Option Addr)(m c e b d:Nat):(Instr.build 173 #[(0,.agg #[.int .i64 f,.int .i64 l,.int .i64 s]),(1,.slice a m c),(2,.map (some e)),(3,.pointer (some ⟨b,0,none⟩)),(4,.pointer (some ⟨d,0,none⟩))]).run prog w=
  .ok (.agg #[.int .i64 f,.int .i64 l,.int .i64 s,.slice a m c,.map (some e),.pointer (some ⟨b,0,none⟩),.pointer (some ⟨d,0,none⟩)]) w:=by kernel_rfl
theorem VR(b:Bd)(a:Option Addr)(m c f d e:Nat)(w:World):(Instr.build 173 #[(0,yc b),(1,.slice a m c),(2,.map (some f)),(3,.pointer (some ⟨d,0,none⟩)),(4,.pointer (some ⟨e,0,none⟩))]).run prog w=
  .ok (.agg ((iF b++[.slice a m c,.map (some f),.pointer (some ⟨d,0,none⟩),.pointer (some ⟨e,0,none⟩)]:List Value)).toArray) w:=RS w b.fork b.leave b.sleep a m c f d e
structure Lo(w:World)(b:Bd)(l:List Ac)(mb:Nat)(m:Md):Prop where
 bd:m.bd=b
 l:m.l=l
 tr:m.tr=Tr.new bF b.fork.toNat
 ps:m.ps=[]
 bl:m.bl=[(bF,bZ cM)]
 nw:∀x∈mb::jc m,w.heap.size<=x
 la:∀b off,m.la=some ⟨b,off,none⟩->w.heap.size<=b
attribute [local irreducible] CG NG SG aP aM Row aG aF aQ bG aI bz bF jH jA
theorem xc(aV:n<=w.heap.size)(b:Bd)(hz:zJ b=0)(hf:¬1000<b.fork){c:List Nat}(i:∀x∈c,x<65536):
  Calls prog 41 #[yc b,CX c] w (fun e k=>∃r ae,e= .returned (.pointer (some ⟨r,0,none⟩))/\eW k n r ae/\Lo w b (jA c 4) r ae/\Kp [] w k):=by
 refine bN func41 rfl ntmps41 rfl ?_
 obtain⟨f0,f1⟩:=xP hz
 repeat apply ar
 refine SG.box rfl rfl rfl (ag rfl) (fun G w1 ab aL u=>?_)
 refine SG.box rfl rfl rfl (ag rfl) (fun Z w2 E aM M=>?_)
 have u:aG w1 G (.cells (iF b).toArray 31):=u
 have M:aG w2 Z (.cells (yk c).toArray 24):=M
 repeat (first|apply ar|refine wt ?_)
 refine SG.ret rfl rfl rfl (vs:=[sv cM]) (bg.of rfl) (rI cM (by decide) w2) (fun w3 ao=>?_)
 refine SG.alloc rfl rfl rfl (fun b5 w4 ap am v=>?_)
 refine SG.aN (l:=cR (bZ cM)) rfl rfl (ag rfl) (ag rfl) v (aH _) rfl (dB _) (fun w5 aq v=>?_)
 have U:Row w5 b5 0 (cR (bZ cM)):=Row.all v rfl
 repeat (first|apply ar|(apply au;rfl;apply bf<;>first|rfl|assumption|exact wn))
 have S:=eP (mj cM 0 w5)
 rw[rJ] at S
 refine SG.ret rfl rfl rfl (vs:=[eL (bZ cM)]) (bg.of rfl) S (fun w6 av=>?_)
 clear U S
 repeat refine qa7 ?_
 refine SG.alloc rfl rfl rfl (fun b6 w7 aw an y=>?_)
 refine SG.aN (l:=dc bF) rfl rfl (ag rfl) (ag rfl) y (ai _) rfl (bj _) (fun Y ax y=>?_)
 have o:=ao.trans (ap.aj aq (aW am))
 have j:=av.trans (aw.aj ax (aW an))
 have X:Row Y b6 0 (dc bF):=Row.all y rfl
 have T:Row Y G 0 [.int .i64 b.fork]:=Row.of (((u.az E).az o).az j) [] [.int .i64 b.leave,.int .i64 b.sleep] rfl rfl
 repeat (first|apply ar|(apply au;rfl;(first|apply aE|apply aZ|apply bf|apply aU)<;>first|rfl|assumption|exact wn|apply ai))
 have ef:b.fork=((b.fork.toNat:Nat):Int):=by omega
 have ad:=tF Y bF b.fork.toNat (by omega)
 rw[<-ef] at ad
 refine SG.call rfl rfl rfl (vs:=[dv bF,.int .i64 b.fork]) (bg.of rfl) (ad.mono (fun e w9 P=>?_))
 obtain⟨I,H,rfl,A,aS,aQ,R,ac⟩:=P
 refine⟨_,rfl,?_⟩
 clear X T
 repeat (first|apply ar|(apply au;rfl;(first|apply aB|apply aE|apply dd)<;>rfl))
 refine SG.call rfl rfl rfl (vs:=[.int .i64 256]) (bg.of rfl) ((wv (by omega) (by omega)).mono (fun e s P=>?_))
 obtain⟨pb,rfl,aX,Q,aa⟩:=P
 refine⟨_,rfl,?_⟩
 repeat (first|apply ar|(apply au;rfl;(first|apply aB|apply aE|apply cI|apply du|apply dd)<;>first|rfl|exact qf))
 refine bA rfl ?_
 repeat apply ar
 have p:=ac.trans Q
 have ay:=(((ab.trans E).trans o).trans j).trans p
 have T:Row s G 0 (iF b):=Row.all ((((u.az E).az o).az j).az p) rfl
 have r3:Row s Z 0 (yk c):=Row.all (((M.az o).az j).az p) rfl
 have U:Row s b5 0 (cR (bZ cM)):=Row.all ((v.az j).az p) rfl
 have X:Row s b6 0 (dc bF):=Row.all (y.az p) rfl
 have aP:(iF b).length=3:=rfl
 obtain⟨N,O⟩:∃N,N=s.heap.size:=⟨_,rfl⟩
 refine CG.free mixed 10 [0,1,4,5,8,9,3,7,6,2] [(3,gM N (dv (n:=8)) eL bF),(6,gN N (dv (n:=8)) eL bF il),(2,gS N acl 10 (jA c 4))] (by kernel_rfl) ?_ ?_
 ·intro af f
  simp only[mem_cons,mem_nil_iff,or_false] at f
  rcases f with rfl|rfl|rfl
  ·exact AE
  ·exact AD
  ·exact AB
 repeat (apply xZ;rfl;rfl;(first|apply aB|apply bf)<;>first|rfl|assumption|exact wn|apply ai)
 refine bG.xd bF rfl O rfl rfl (fun d=>?_)
 repeat (apply xZ;rfl;rfl;apply aB<;>rfl)
 refine bG.Aw (V:=eL) (vy:=bZ cM) (b:=d) rfl O rfl rfl rfl (by kernel_rfl) (ag rfl) (ag rfl) (ag rfl) gJ.key (fun W z=>z _ (.head _) (by kernel_rfl)) ?_ ?_
 ·refine pj (q:=fun D=>∀w k x,Kp [d] w k->(∃es ak,aG w d (.map es ak))->aF k d (dv (n:=8)) eL [(bF,bZ cM)]->D.phi x w->D.phi x k) (fun _ _ _ _ _ _ h=>h) (fun af f R W W' x B hb i h=>?_)
  simp only[mem_cons,mem_nil_iff,or_false] at f
  rcases f with rfl|rfl|rfl
  ·refine⟨h.1,?_⟩
   by_cases e:x=d
   ·subst e
    exact Or.inr ⟨_,i⟩
   ·exact h.2.elim (fun a=>Or.inl (a.kp B (bQ e))) (fun⟨aI,a⟩=>Or.inr ⟨aI,a.kp B (bQ e)⟩)
  ·exact absurd rfl R
  ·exact sr.Vo h B hb
 skip
 refine bG.mR (jA c 4) rfl rfl rfl rfl (vs:=[CX c]) (bg.of rfl) (Nat.le_of_eq O) (fun W B _=>(mT W c i).HZ bh) (fun t J=>?_)
 skip
 refine bG.tl (fun ah C z=>?_)
 have K:sr N acl 10 ah t J (jA c 4):=z _ (.head _)
 have L:N<=d/\aF ah d (dv (n:=8)) eL [(bF,bZ cM)]:=z _ (.tail _ (.head _))
 clear T r3 U X
 have aJ:(jA c 4).length=4:=iz _ _
 refine SG.val rfl rfl rfl rfl (aK rfl (VR b t (jA c 4).length J d I pb)) ?_
 refine SG.box rfl rfl rfl (ag rfl) (fun r a4 g aT al=>?_)
 have aA:=ay.trans C
 have aC:=aA.trans g
 repeat (first|apply ar|refine wt ?_)
 refine aO (Or.inl rfl) results41 (aD.tmp rfl) ?_
 have s2:=ab.size
 have s3:=E.size
 have s5:=o.size
 have s8:=j.size
 have s9:=ac.size
 have a1:=Q.size
 have a2:=C.size
 have a3:=g.size
 have aY:=A.map.lt
 have l4:=K.fr
 refine⟨r,⟨d,I,H,pb,.slice none 0 0,b,t,J,jA c 4,Tr.new bF b.fork.toNat,[],[(bF,bZ cM)]⟩,rfl,⟨al,K.sl.az g,L.2.az g,fun af f=>?_,A.az ((Q.trans C).trans g),(aa n (by omega)).az (C.trans g),R,by show d≠H;omega,⟨by show n<=H;omega,by show n<=d;omega,by show n<=I;omega⟩,?_⟩,⟨rfl,rfl,rfl,rfl,rfl,?_,fun m F e=>?_⟩,aC⟩
 ·rw[mem_singleton] at f
  rw[f]
  exact mj _ _ _
 ·intro m F e i
  have g1:=l4 m F e
  have g2:m≠d:=fun e'=>by
   obtain⟨b',a0,e2,hr⟩:=K.sl.at (show 0<(jA c 4).length by omega)
   have e:t=some ⟨m,F,none⟩:=e
   rw[e] at e2
   cases e2
   exact Af hr L.2 e'
  simp only[jc,aR,mem_cons] at i
  have:=A.map.lt
  have:=A.blk.lt
  have:=(aa n (by omega)).blk.lt
  rcases i with e|e|e|e|e
  ·omega
  ·omega
  ·exact g2 e
  ·omega
  ·cases e
 ·intro x hx
  simp only[jc,aR,mem_cons] at hx
  rcases hx with e|e|e|e|e|e
  ·omega
  ·omega
  ·omega
  ·have:=L.1;omega
  ·omega
  ·cases e
 ·have:=l4 m F e
  omega
end
section
variable{d:Dg}
def Vt(k:Dg)(l:List Tx):Nat:=l.countP (fun t=>decide (t.frm=k))
def Sc(g:Dg->Int):List Tx->Prop
 |[]=>True
 |x::l=>x.non=g x.frm/\Sc (fun k=>g k+((if x.frm=k then 1 else 0:Nat):Int)) l
def Wr(ns:List (Dg×Nat×Nm))(l:List Dg):List Tx:=l.flatMap (fun d=>(o8 ns d).txs)
theorem Gq{ns:List (Dg×Nat×Nm)}{q:Nat×Nm}(h:aC ns d=some q):o8 ns d=q.2.x.b:=by
 unfold o8
 rw[h]
 rfl
theorem mn{t:Tr}:∀(k:Nat) {x:Dg} {j:Nat},j<=k->(t.eF k x)[j]?=some (t.anc j x)
 |0,x,j,h=>by
  have:j=0:=by omega
  subst this
  rfl
 |k+1,x,j,h=>by
  rw[Tr.kh]
  by_cases e:j<=k
  ·rw[getElem?_append_left (by rw[Tr.cy];omega)]
   exact mn k e
  ·have:j=k+1:=by omega
   subst this
   rw[getElem?_append_right (by rw[Tr.cy];exact Nat.le_refl _),Tr.cy,Nat.sub_self]
   rfl
theorem qy{t:Tr}(c:t.WF){x:Dg}(a:t.has x=true){i:Nat}(f:i<=t.ht x)(h:(t.line x)[i]?=some d):t.has d=true/\t.ht d=i:=by
 unfold Tr.line at h
 rw[if_pos a,getElem?_reverse (by rw[Tr.cy];omega),Tr.cy,mn _ (by omega)] at h
 obtain rfl:=Option.some.inj h
 obtain⟨b,e⟩:=c.anc (t.ht x+1-1-i) a (by omega)
 exact⟨b,by omega⟩
def WM(zs:List Bm)(i:Nat):List Tx:=((zs.take i).map Bm.b).flatMap Bl.txs
end
section
variable{c:Cm}{d x:Dg}{f f0:Fb}{H:Int}{i:Nat}{q:Nat×Nm}{t:Tl}{nb:dW}
abbrev GI(p:Int×Int):Value:= .agg #[.int .i64 p.1,.int .i64 p.2]
theorem VS(w:World)(a b:Int):(Instr.build 179 #[(0,.int .i64 a),(1,.int .i64 b)]).run prog w= .ok (GI (a,b)) w:=by kernel_rfl
def Jy(c:Cm)(f0:Fb)(l:List Dg)(i:Nat)(f:Fb)(t:Tl):Prop:=(i=0/\f=f0/\t=C9)\/∃j d q,i=j+1/\l[j]?=some d/\aC c.ns d=some q/\f=q.2.f/\t=q.2.t
theorem D7{t:Tr}(f:t.WF)(c:t.has x=true){b:Dg}(h:(t.line x)[i]?=some d)(a:(t.line x)[i+1]?=some b):t.par b=d:=by
 have e:=(List.getElem?_eq_some_iff.1 a).1
 rw[Tr.fl c] at e
 unfold Tr.line at h a
 rw[if_pos c,getElem?_reverse (by rw[Tr.cy];omega),Tr.cy,mn _ (by omega)] at h a
 obtain rfl:=Option.some.inj h
 obtain rfl:=Option.some.inj a
 rw[<-Tr.sj]
 congr 1
 omega
theorem xk{t:Tr}(a:t.WF)(e:t.has x=true)(h:(t.line x)[0]?=some d):d=t.first:=by
 obtain⟨b,c⟩:=qy a e (Nat.zero_le _) h
 exact a.oB b c
theorem D6(k:Hi nb c f0)(ok:fX c H)(l:c.tr.has x=true)(v:Jy c f0 (c.tr.line x) i f t)(g:(c.tr.line x)[i]?=some d)(h:aC c.ns d=some q):
  dR nb q.2.x.b.ht q.2.x.b.mkr f t [] q.2.x.b.txs=(0,q.2.f,q.2.t,q.2.es)/\q.2.x.b.txs.length<=64/\Jy c f0 (c.tr.line x) (i+1) q.2.f q.2.t:=by
 refine⟨?_,?_,Or.inr ⟨i,d,q,rfl,g,h,rfl,rfl⟩⟩
 ·rcases v with⟨rfl,rfl,rfl⟩|⟨j,d',q',rfl,hd',hq',rfl,rfl⟩
  ·obtain rfl:=xk ok.wf l g
   obtain⟨A,a,m,o,r,s⟩:=k.fst
   rw[h] at a
   obtain rfl:=Option.some.inj a
   rw[m,o,r,s]
   rfl
  ·have z:=D7 ok.wf l hd' g
   have w:=(List.getElem?_eq_some_iff.1 g).1
   rw[Tr.fl l] at w
   obtain⟨D,u⟩:=qy ok.wf l (by omega) g
   have y:d≠c.tr.first:=fun e=>by rw[e,ok.wf.h0] at u;omega
   obtain⟨-,B,-,p,n,-,C⟩:=k.up d q h y
   rw[<-B,z,hq'] at n
   obtain rfl:=Option.some.inj n
   exact C
 ·by_cases e:d=c.tr.first
  ·subst e
   obtain⟨A,a,m,-⟩:=k.fst
   rw[h] at a
   obtain rfl:=Option.some.inj a
   rw[m]
   exact Nat.zero_le _
  ·exact jE (k.up d q h e).2.2.1
theorem JZ{l:List Dg}(ok:fX c H)(e:H<=500)(h:Jy c f0 l i f t):t.n<=100000:=by
 rcases h with⟨-,-,rfl⟩|⟨j,d,q,-,-,hq,-,rfl⟩
 ·exact Nat.zero_le _
 ·obtain⟨-,a,b⟩:=ok.nd d q hq
  omega
theorem FZ(g:c.tr.WF)(a:c.tr.has x=true)(b:aC c.ns x=some q)(h:Jy c f0 (c.tr.line x) (c.tr.line x).length f t):f=q.2.f/\t=q.2.t:=by
 have l:=Tr.fl a
 rcases h with⟨e,-⟩|⟨j,d,q',e,hd,hq',rfl,rfl⟩
 ·omega
 ·obtain⟨i,k⟩:=qy g a (by omega) hd
  have:d=x:=by
   unfold Tr.line at hd
   rw[if_pos a,getElem?_reverse (by rw[Tr.cy];omega),Tr.cy,mn _ (by omega)] at hd
   obtain rfl:=Option.some.inj hd
   have:c.tr.ht x+1-1-j=0:=by omega
   rw[this]
   rfl
  subst this
  rw[b] at hq'
  obtain rfl:=Option.some.inj hq'
  exact⟨rfl,rfl⟩
structure qd(w0 W:World)(c1 c2 dm b0:Nat)(tot:Int)(bk bm tb N:Nat)(mm:Bk)(f:Fb)(t:Tl)(D:xW):Prop where
 kp:Kp [c1,c2,dm,b0] w0 W
 h1:aG W c1 (.cells #[gL bk] 38)
 h2:aG W c2 (.cells #[gL tb] 74)
 nd:dm≠bm
 nb:bm=b0\/w0.heap.size<=bm
 bk:bS W bk bm mm
 bi:iY tot N mm f
 ap:gp W tb t
 dn:aF W dm (dv (n:=8)) GI D
section
variable {w0 W W':World} {c1 c2 dm b0:Nat} {tot:Int} {bk bm tb N:Nat} {mm:Bk} {f:Fb} {t:Tl} {D:xW}
theorem qd.az(J:qd w0 W c1 c2 dm b0 tot bk bm tb N mm f t D)(a:Kp [] W W'):qd w0 W' c1 c2 dm b0 tot bk bm tb N mm f t D:=⟨J.kp.trans a.any,J.h1.az a,J.h2.az a,J.nd,J.nb,J.bk.az a,J.bi,J.ap.az a,J.dn.az a⟩
theorem qd.Ks(J:qd w0 W c1 c2 dm b0 tot bk bm tb N mm f t D){b:Bk}{d:Fb}{c:Nat}(a:Kp [bm] W W')(i:bS W' bk bm b)(j:iY tot c b d):qd w0 W' c1 c2 dm b0 tot bk bm tb c b d t D:=by
 have no:∀{z:Nat} {cs:Array Value} {T:TypeId},aG W z (.cells cs T)->z∉[bm]:=fun h=>bQ (fun e=>cJ h J.bk.map e.symm)
 exact⟨J.kp.st a (fun x g=>by rw[mem_singleton] at g;rw[g];exact J.nb.elim (fun e=>Or.inl (by rw[e];simp)) Or.inr),J.h1.kp a (no J.h1),J.h2.kp a (no J.h2),J.nd,J.nb,i,j,J.ap.kp a (no J.ap),J.dn.kp a (bQ J.nd)⟩
theorem qd.ask(J:qd w0 W c1 c2 dm b0 tot bk bm tb N mm f t D){h:Int}{x:Tx}{e:Ending}(q:Lp W c1 c2 bm N tot f t h x e W'):∃a b i d,e= .returned (.int .i64 (gu f x))/\qd w0 W' c1 c2 dm b0 tot a b i (N+2) d (fV f x) (gI t f h x) D/\Kp [c1,c2] W W':=by
 obtain⟨a,b,i,d,r,l,m,n,o,p,c,j⟩:=q
 have u:=J.kp.size
 have s:=J.dn.lt
 refine⟨a,b,i,d,r,⟨J.kp.trans (c.mono (fun x k=>by simp only[mem_cons,mem_nil_iff,or_false] at k;rcases k with e|e<;>simp[e])),l,m,?_,?_,n,o,p,J.dn.kp c (gG (cJ J.h1 J.dn) (cJ J.h2 J.dn))⟩,c⟩
 ·rcases j with rfl|g
  ·exact J.nd
  ·omega
 ·rcases j with rfl|g
  ·exact J.nb
  ·exact Or.inr (by omega)
theorem qd.put(J:qd w0 W c1 c2 dm b0 tot bk bm tb N mm f t D){b:xW}(a:Kp [dm] W W')(d:aF W' dm (dv (n:=8)) GI b):qd w0 W' c1 c2 dm b0 tot bk bm tb N mm f t b:=by
 have no:∀{z:Nat} {cs:Array Value} {T:TypeId},aG W z (.cells cs T)->z∉[dm]:=fun h=>bQ (fun e=>cJ h J.dn e.symm)
 exact⟨J.kp.trans (a.mono (fun x c=>by rw[mem_singleton] at c;simp[c])),J.h1.kp a (no J.h1),J.h2.kp a (no J.h2),J.nd,J.nb,⟨J.bk.blk.kp a (no J.bk.blk),J.bk.map.kp a (bQ (fun e=>J.nd e.symm))⟩,J.bi,J.ap.kp a (no J.ap),d⟩
theorem qd.cell(J:qd w0 W c1 c2 dm b0 tot bk bm tb N mm f t D){z:Nat}{cs:Array Value}{T:TypeId}(h:aG W z (.cells cs T)):z∉[bm]/\z∉[dm]:=⟨bQ (fun e=>cJ h J.bk.map e.symm),bQ (fun e=>cJ h J.dn e.symm)⟩
end
theorem GW(h:Int)(D:xW):x9 h D [] []=D:=rfl
theorem QB{y:Bm}{q:Nm}(h:y.b=q.x.b):y.xs.map (fun a=>aJ a.t)=q.iC:=by
 have e:y.xs.map (·.t)=q.x.xs.map (·.t):=congrArg Bl.txs h
 show _=q.x.xs.map (fun a=>aJ a.t)
 have c:∀l:List Tm,l.map (fun a=>aJ a.t)=(l.map (·.t)).map aJ:=fun l=>by rw[map_map];rfl
 rw[c,c,e]
attribute [local irreducible] CG NG SG aP aM Row aG aF aQ aJ eJ dC dU gu fV gI dR x9 jJ dot kL
theorem ko{w:World}{n mb:Nat}{m:Md}(O:eW w n mb m)(C:Ck m c nb H)(hq:aC c.ns d=some q):
  Calls prog 90 #[.pointer (some ⟨mb,0,none⟩),dv d] w (fun e D=>∃U v R k mm cb,e= .returned (.tuple #[gL U,gL R,.map (some k)])/\bS D U v mm/\iY (eU m.l) cb mm q.2.f/\gp D R q.2.t/\aF D k (dv (n:=8)) GI (AJ c.ns (c.tr.line d))/\(w.heap.size<=v/\w.heap.size<=k/\k≠v)/\Kp [] w D):=by
 refine bN func90 rfl ntmps90 rfl ?_
 obtain⟨hC,hi,ok,hH,hl,dk,b6⟩:=C
 obtain⟨E,h0⟩:∃E,E=cC (gq [] m.l):=⟨_,rfl⟩
 rw[<-h0] at hi
 have ah:c.tr.has d=true:=by rw[ok.has,hq];rfl
 obtain⟨-,r3,-,-,-⟩:=cX O.blk
 have cO:=O.mon
 repeat apply ar
 refine SG.box rfl rfl rfl (ag rfl) (fun b3 w1 av df aQ=>?_)
 have aQ:aG w1 b3 (.cells (dc d).toArray 47):=aQ
 have r3:=r3.az av
 repeat (first|apply ar|refine qb6 ?_)
 refine SG.call rfl rfl rfl (vs:=[.slice m.la m.l.length m.lc]) (bg.of rfl) ((rU m.lc (cO.az av) (by omega)).mono (fun e w2 C=>?_))
 obtain⟨a1,C⟩:=C
 rcases C with⟨hn,-⟩|⟨-,U,v,rfl,hBk,hbk,hbm⟩
 ·exact absurd hl hn
 refine⟨_,rfl,?_⟩
 obtain⟨b1,b2,c7,b4⟩:=vU (N:=1099511627776) hl (fun e he=>(wy hl e he).2)
 clear r3
 repeat refine qa7 ?_
 refine SG.alloc rfl rfl rfl (fun z w3 bK cz ao=>?_)
 refine SG.fe rfl rfl (ag rfl) (ag rfl) ao rfl rfl (fun w4 bL ao=>?_)
 have c0:=bK.aj bL (aW cz)
 repeat (first|apply ar|refine wt ?_)
 refine SG.val rfl rfl rfl rfl (aK rfl KU) ?_
 refine SG.box rfl rfl rfl (ag rfl) (fun R w5 bQ dl aY=>?_)
 have aY:gp w5 R C9:=aY
 refine SG.alloc rfl rfl rfl (fun u w6 bT cA aq=>?_)
 refine SG.fe rfl rfl (ag rfl) (ag rfl) aq rfl rfl (fun w7 bU aq=>?_)
 have b9:=bT.aj bU (aW cA)
 repeat apply ar
 refine SG.makeMap (dv (n:=8)) GI rfl rfl (fun k w8 a2 dh bE=>?_)
 have cZ:=av.trans a1
 have b8:=(bQ.trans b9).trans a2
 have be:=c0.trans b8
 have k8:=cZ.trans be
 have s1:=av.size
 have s2:=a1.size
 have s3:=bK.size
 have s4:=bL.size
 have s5:=bQ.size
 have s6:=bT.size
 have s7:=bU.size
 have dm:=hBk.map.lt
 have dq:=ao.lt
 have J8:qd w8 w8 z u k v (eU m.l) U v R (1000) (gq [] m.l) E C9 []:=⟨Kp.refl _ _,ao.az b8,aq.az a2,by omega,Or.inl rfl,hBk.az be,⟨b1,by omega,h0.symm⟩,(aY.az b9).az a2,bE⟩
 have bF:=O.az k8
 obtain⟨-,-,-,r5,-⟩:=cX bF.blk
 have r3:Row w8 b3 0 (dc d):=Row.all ((aQ.az a1).az be) rfl
 have bG:=bF.tree
 rw[hC.tr] at bG
 obtain⟨h,aa⟩:∃h,c.tr.line d=h:=⟨_,rfl⟩
 have cP:z≠u:=by omega
 have cJ:=Tr.fl ah
 have dj:=ok.wf.bound ah
 repeat (first|apply ar|refine wt ?_)
 refine CG.draw mixed [0,1,2,3,4,7,5,6] [5] [] [] (fun _=>True) (by kernel_rfl) (by simp) (by simp) trivial (fun _ _ _ _=>trivial) (Or.inl rfl) ?_
 repeat (apply bW;rfl;rfl;(first|apply aB|apply aZ|apply bf|apply aU|apply bR)<;>first|rfl|assumption|exact wn|apply ai)
 refine aM.mR (c.tr.line d) rfl rfl rfl rfl (vs:=[.pointer (some ⟨m.tb,0,none⟩),dv d]) (bg.of rfl) sX (fun W hk _=>j4 (bG.az hk) ok.wf d) (fun bo cc=>?_)
 repeat (apply bW;rfl;rfl;apply dg<;>rfl)
 refine aM.fin (fun F a3 hF _=>?_)
 obtain⟨-,aX⟩:=hF
 have hS:=aX.sl
 have cv:=aX.fr
 clear r5 r3 aX
 have G:=J8.az a3
 have ac:qd F F z u k v (eU m.l) U v R (1000) (gq [] m.l) E C9 []:=⟨Kp.refl _ _,G.h1,G.h2,G.nd,Or.inl rfl,G.bk,G.bi,G.ap,G.dn⟩
 have k9:=k8.trans a3
 have s9:=a3.size
 rw[aa] at hS cJ⊢
 have al:∀g∈[z,u,k,v],w.heap.size<=g/\g<w8.heap.size:=fun g hx=>by
  have:=aq.lt
  have:=bE.lt
  simp only[mem_cons,mem_nil_iff,or_false] at hx
  rcases hx with e|e|e|e<;>omega
 have ak:∀{W:World} {aO am bm N':Nat} {bl:Bk} {f':Fb} {t':Tl} {D':xW},qd F W z u k v (eU m.l) aO am bm N' bl f' t' D'->Kp [] w W:=fun ac=>k9.aj ac.kp (fun g hx=>Or.inr (al g hx).1)
 have cS:∀{W:World} {aO am bm N':Nat} {bl:Bk} {f':Fb} {t':Tl} {D':xW},qd F W z u k v (eU m.l) aO am bm N' bl f' t' D'->w.heap.size<=am:=fun ac=>by
  rcases ac.nb with e|e
  ·rw[e];omega
  ·have:=k9.size;omega
 have cL:Jy c E h 0 E C9:=Or.inl ⟨rfl,rfl,rfl⟩
 repeat apply ar
 refine CG.loop (X:=Nat×Nat×Nat×Nat×Nat×Bk×Fb×Tl) (fun p=>[(0,.pointer (some ⟨mb,0,none⟩)),(7,gL z),(9,gL u),(10,.map (some k)),(35,.slice bo h.length cc),(36,.int .i64 (h.length:Int)),(37,.int .i64 (p.1:Int))])
  (fun p D=>p.1<=h.length/\qd F D z u k v (eU m.l) p.2.1 p.2.2.1 p.2.2.2.1 p.2.2.2.2.1 p.2.2.2.2.2.1 p.2.2.2.2.2.2.1 p.2.2.2.2.2.2.2 (AJ c.ns (h.take p.1))/\Jy c E h p.1 p.2.2.2.2.2.2.1 p.2.2.2.2.2.2.2) (fun p=>h.length-p.1) (0,U,v,R,1000,gq [] m.l,E,C9) ⟨Nat.zero_le _,ac,cL⟩ (aS.of rfl) ?_
 rintro⟨o,bq,bt,bn,N1,m1,f1,t1⟩ wA ⟨cF,I,af⟩
 simp only at cF I af
 refine CG.to [(0,.pointer (some ⟨mb,0,none⟩)),(7,gL z),(9,gL u),(10,.map (some k)),(35,.slice bo h.length cc),(36,.int .i64 (h.length:Int)),(37,.int .i64 (o:Int))] (aS.of rfl) ?_
 by_cases ax:o<h.length
 rotate_left
 ·have g1:¬(o:Int)<(h.length:Int):=by omega
  have ei:o=h.length:=by omega
  subst ei
  rw[take_length] at I
  rw[<-aa] at af
  obtain⟨rfl,rfl⟩:=FZ ok.wf ah hq af
  have s:=nq I.h1
  have q2:Row wA u 0 [gL bn]:=nq I.h2
  repeat (first|apply ar|refine un ?_)
  refine bA rfl ?_
  repeat apply ar
  refine CG.fh mixed [0,1,2,3,4,5] [] (by kernel_rfl) ?_
  repeat (apply bW;rfl;rfl;(first|apply aB|apply aE|apply aZ)<;>first|rfl|assumption|exact wn)
  refine aM.fin (fun wB a4 _ _=>?_)
  clear s q2
  have J:=I.az a4
  repeat apply ar
  refine sM (Or.inl rfl) results90 (aD.tmp rfl) (aD.tmp rfl) (aD.tmp rfl) ?_
  exact⟨bq,bt,bn,k,m1,N1,rfl,J.bk,J.bi,J.ap,J.dn,⟨cS J,(al k (by simp)).1,J.nd⟩,ak J⟩
 have g1:(o:Int)<(h.length:Int):=by omega
 have hd:h[o]?=some h[o]:=getElem?_eq_getElem ax
 obtain⟨s,a9⟩:∃s,aC c.ns h[o]=some s:=ok.get (qy (i:=o) ok.wf ah (by omega) (by rw[aa];exact hd)).1
 have b5:=D6 hi ok ah (i:=o) (by rw[aa];exact af) (by rw[aa];exact hd) a9
 rw[aa] at b5
 obtain⟨hr,cm,cu⟩:=b5
 obtain⟨y,hy,aI⟩:=hC.get a9
 have cQ:=JZ ok hH af
 have bI:AJ c.ns (h.take (o+1))=HM c.ns (AJ c.ns (h.take o)) h[o]:=by
  unfold AJ
  rw[take_succ_eq_append_getElem ax,foldl_append]
  rfl
 obtain⟨ba,aL,rfl,bb⟩:=(hS.kp I.kp (fun bp aL e hm=>by have:=cv bp aL e;have:=(al bp hm).2;omega)).at ax
 generalize h[o]=di at*
 repeat (first|apply ar|refine ul ?_)
 refine bO rfl ?_
 repeat (first|apply ar|refine qb4 ?_)
 refine SG.alloc rfl rfl rfl (fun cd wB a4 cw aP=>?_)
 refine SG.aN (l:=dc di) rfl rfl (ag rfl) (ag rfl) aP (ai _) rfl (bj _) (fun wC cG aP=>?_)
 have c1:=a4.aj cG (aW cw)
 have JC:=I.az c1
 have aV:=O.az (ak JC)
 obtain⟨-,-,r4,-,-⟩:=cX aV.blk
 have c3:Row wC cd 0 (dc di):=Row.all aP rfl
 have cN:=aV.map
 clear bb
 repeat apply ar
 refine CG.fA mixed [0,1,2,3,4,5] [(6,7,13,.tmp 46)] (by kernel_rfl) (by kernel_rfl) ?_
 repeat (apply bW;rfl;rfl;(first|apply aB|apply aZ|apply bf|apply aU|apply bR|apply oQ)<;>first|rfl|assumption|exact wn|apply ai|exact iX (by assumption)|fail)
 refine aM.one (fq.of (by rfl) rfl rfl rfl (ag rfl) (by exact aH _) (by rfl) (by exact dB _)) (fun ad wD bX cx an=>?_)
 have an:aG wD ad (.cells (cR y).toArray 50):=an
 clear r4 c3 cN
 have JD:=JC.az bX
 have cY:=(aV.az bX).ins _ (fG hy)
 simp only at cY
 obtain⟨-,-,-,-,c4⟩:=bJ an
 repeat (first|apply ar|(apply au;rfl;(first|apply aB|apply aZ|apply aU|apply dg)<;>first|rfl|assumption|exact wn))
 obtain⟨A,cr⟩:∃A,AJ c.ns (h.take o)=A:=⟨_,rfl⟩
 rw[cr] at JD bI
 have bw:s.2.x.b.txs=y.xs.map (·.t):=by rw[<-aI];rfl
 have bv:s.2.x.b.ht=y.ht:=by rw[<-aI];rfl
 have ck:s.2.x.b.mkr=y.mkr:=by rw[<-aI];rfl
 rw[bw,bv,ck] at hr
 rw[bw,length_map] at cm
 have cE:HM c.ns A di=x9 y.ht A (y.xs.map (fun g=>aJ g.t)) s.2.es:=by
  unfold HM
  rw[a9]
  show x9 s.2.x.b.ht A s.2.iC s.2.es=_
  rw[QB aI,bv]
 have cB:x9 y.ht A ((y.xs.map (fun g=>aJ g.t)).take 0) []=A:=GW _ _
 refine CG.loop (X:=Nat×Nat×Nat×Nat×Nat×Bk×Fb×Tl×List Int) (fun p=>[(0,.pointer (some ⟨mb,0,none⟩)),(7,gL z),(9,gL u),(10,.map (some k)),(13,.pointer (some ⟨ad,0,none⟩)),(35,.slice (some ⟨ba,aL,none⟩) h.length cc),(36,.int .i64 (h.length:Int)),(37,.int .i64 (o:Int)),(48,.slice y.a y.xs.length y.c),(49,.int .i64 (y.xs.length:Int)),(50,.int .i64 (p.1:Int))])
  (fun p D=>p.1<=y.xs.length/\qd F D z u k v (eU m.l) p.2.1 p.2.2.1 p.2.2.2.1 p.2.2.2.2.1 p.2.2.2.2.2.1 p.2.2.2.2.2.2.1 p.2.2.2.2.2.2.2.1 (x9 y.ht A ((y.xs.map (fun g=>aJ g.t)).take p.1) p.2.2.2.2.2.2.2.2)/\dR nb y.ht y.mkr p.2.2.2.2.2.2.1 p.2.2.2.2.2.2.2.1 p.2.2.2.2.2.2.2.2 ((y.xs.map (·.t)).drop p.1)=(0,s.2.f,s.2.t,s.2.es)/\(p.2.2.2.2.2.2.2.1.n<=100000+p.1/\p.2.2.2.2.2.2.2.2.length=p.1)/\aG D ad (.cells (cR y).toArray 50)) (fun p=>y.xs.length-p.1) (0,bq,bt,bn,N1,m1,f1,t1,[]) ⟨Nat.zero_le _,by simp only;rw[cB];exact JD,hr,⟨by simpa using cQ,rfl⟩,an⟩ (aS.of rfl) ?_
 clear c4
 rintro⟨j,br,cf,c5,N2,m2,r,t2,Y⟩ wE ⟨hj,K,B,⟨cT,cD⟩,cp⟩
 simp only at hj K B cT cD
 refine CG.to [(0,.pointer (some ⟨mb,0,none⟩)),(7,gL z),(9,gL u),(10,.map (some k)),(13,.pointer (some ⟨ad,0,none⟩)),(35,.slice (some ⟨ba,aL,none⟩) h.length cc),(36,.int .i64 (h.length:Int)),(37,.int .i64 (o:Int)),(48,.slice y.a y.xs.length y.c),(49,.int .i64 (y.xs.length:Int)),(50,.int .i64 (j:Int))] (aS.of rfl) ?_
 by_cases ab:j<y.xs.length
 rotate_left
 ·have g2:¬(j:Int)<(y.xs.length:Int):=by omega
  have ej:j=y.xs.length:=by omega
  subst ej
  rw[drop_of_length_le (by rw[length_map];exact Nat.le_refl _),nM] at B
  simp only[Prod.mk.injEq,true_and] at B
  obtain⟨rfl,rfl,rfl⟩:=B
  rw[take_of_length_le (by rw[length_map];exact Nat.le_refl _),<-cE,<-bI] at K
  repeat (first|apply ar|refine un ?_)
  refine bA rfl ?_
  repeat (first|apply ar|refine wz ?_)
  exact NG.round (o+1,br,cf,c5,N2,m2,s.2.f,s.2.t) (aS.of rfl) ⟨ax,K,cu⟩ (by simp only;omega)
 have g2:(j:Int)<(y.xs.length:Int):=by omega
 have ct:=O.az (ak K)
 have bd:=ct.ins _ (fG hy)
 simp only at bd
 obtain⟨bx,dr,cl,bb⟩:=bd.tx.sl.at ab
 have bc:=getElem_mem ab
 have cU:=bd.tx.ins _ bc
 have cK:j<(y.xs.map (·.t)).length:=by rw[length_map];exact ab
 have eg:(y.xs.map (·.t))[j]=y.xs[j].t:=getElem_map _
 rw[drop_eq_getElem_cons cK,eg] at B
 obtain⟨-,aA,B⟩:=Be B
 have ci:jJ r y.mkr y.xs[j].t=fV (dU r y.mkr y.xs[j].t) y.xs[j].t:=by unfold jJ;rw[if_pos aA]
 have cj:dot t2 r y.ht y.mkr y.xs[j].t=gI t2 (dU r y.mkr y.xs[j].t) y.ht y.xs[j].t:=by unfold dot;rw[if_pos aA]
 have ch:kL Y r y.mkr y.xs[j].t=Y++[gu (dU r y.mkr y.xs[j].t) y.xs[j].t]:=by unfold kL;rw[if_pos aA]
 rw[ci,cj,ch] at B
 have Z:=AK y.ht (aJ y.xs[j].t) (gu (dU r y.mkr y.xs[j].t) y.xs[j].t) ((y.xs.map (fun g=>aJ g.t)).take j) Y A (by rw[length_take,length_map];omega)
 rw[<-take_one (fun g:Tm=>aJ g.t) ab] at Z
 obtain⟨D1,cs⟩:∃D1,x9 y.ht A ((y.xs.map (fun g=>aJ g.t)).take j) Y=D1:=⟨_,rfl⟩
 rw[cs] at K Z
 rw[cl]
 generalize y.xs[j]=g at*
 repeat (first|apply ar|refine ul ?_)
 refine bO rfl ?_
 repeat (first|apply ar|refine ut ?_)
 refine SG.alloc rfl rfl rfl (fun T wF cH bH M=>?_)
 refine SG.aN (l:=bV g) rfl rfl (ag rfl) (ag rfl) M (ay _) rfl (bY _) (fun wG cI M=>?_)
 have M:aG wG T (.cells (bV g).toArray 52):=M
 have bh:=cH.aj cI (aW bH)
 have S:=K.az bh
 have aR:=cp.az bh
 have c2:=nq S.h1
 have Q:Row wG T 0 (bV g):=Row.all M rfl
 obtain⟨-,-,-,r9,-⟩:=bJ aR
 clear bb
 repeat (first|apply ar|(apply au;rfl;(first|apply aZ|apply bf|apply aU)<;>first|rfl|assumption|exact wn|apply ai|apply ay))
 refine SG.call rfl rfl rfl (vs:=[gL br,eG g,dv y.mkr]) (bg.of rfl) ((o9 S.bk S.bi b6.2 (cU.az bh) y.mkr).mono (fun e wH C=>?_))
 obtain⟨m3,rfl,co,cy,a5⟩:=C
 refine⟨_,rfl,?_⟩
 have L:=S.Ks a5 co (cy aA)
 have bC:=aR.kp a5 (S.cell aR).1
 have bz:=M.kp a5 (S.cell M).1
 clear c2 Q r9
 have Q:Row wH T 0 (bV g):=Row.all bz rfl
 obtain⟨-,-,r8,-⟩:=bJ bC
 have cV:g.In n wH:=(O.az (ak L)).ins _ (fG hy)|>.tx.ins _ bc
 repeat (first|apply ar|(apply au;rfl;(first|apply aZ|apply bf|apply aU)<;>first|rfl|assumption|exact wn|apply ay))
 refine SG.call rfl rfl rfl (vs:=[gL z,gL u,.int .i64 y.ht,eG g]) (bg.of rfl) ((pa L.h1 L.h2 cP L.bk L.bi b6.2 L.ap (by omega) cV y.ht).mono (fun e wI C=>?_))
 obtain⟨bs,bu,ca,m4,rfl,JI,bZ⟩:=L.ask C
 refine⟨_,rfl,?_⟩
 clear Q r8
 have b7:g.In n wI:=(O.az (ak JI)).ins _ (fG hy)|>.tx.ins _ bc
 have c8:F.heap.size<=ad:=Nat.le_trans JC.kp.size cx
 have c9:F.heap.size<=T:=Nat.le_trans K.kp.size bH
 have da:=(al z (by simp)).2
 have db:=(al u (by simp)).2
 have cq:=bC.kp bZ (gG (by omega) (by omega))
 have bB:=bz.kp bZ (gG (by omega) (by omega))
 have Q:Row wI T 0 (bV g):=Row.all bB rfl
 repeat (first|apply ar|(apply au;rfl;(first|apply aB|apply aE|apply bf)<;>first|rfl|assumption|exact wn|apply ay))
 refine SG.ret rfl rfl rfl (vs:=[eG g]) (bg.of rfl) (dV b7) (fun wK aw=>?_)
 have JK:=JI.az aw
 have de:=JK.dn
 clear Q
 have bD:=cq.az aw
 have cn:=bB.az aw
 have ds:=JK.kp.size
 cases hlk:aC D1 (aJ g.t) with
 |some c6=>
  obtain⟨v1,v2⟩:=c6
  rw[hlk] at Z
  repeat (apply au;rfl;(first|apply aB|apply jz|apply dd)<;>first|rfl|assumption|exact wn|exact iX (by assumption)|fail)
  refine SG.alloc rfl rfl rfl (fun ce wL a6 a0 ae=>?_)
  refine SG.aN (l:=[.int .i64 v1,.int .i64 v2]) rfl rfl (ag rfl) (ag rfl) ae rfl rfl rfl (fun wM a7 ae=>?_)
  have P:=a6.aj a7 (aW a0)
  repeat (first|apply ar|(apply au;rfl;(first|apply aB|apply aE|apply ig)<;>rfl))
  refine bA rfl ?_
  repeat (first|apply ar|refine wz ?_)
  refine NG.round (j+1,bs,bu,ca,N2+4+2,m4,fV (dU r y.mkr g.t) g.t,gI t2 (dU r y.mkr g.t) y.ht g.t,Y++[gu (dU r y.mkr g.t) g.t]) (aS.of rfl) ⟨ab,?_,B,⟨?_,?_⟩,bD.az P⟩ (by simp only;omega)
  ·simp only
   rw[Z]
   exact JK.az P
  ·have:=rY t2 (dU r y.mkr g.t) y.ht g.t
   simp only
   omega
  ·simp only[length_append,length_singleton]
   omega
 |none=>
  rw[hlk] at Z
  repeat (apply au;rfl;(first|apply aB|apply jz|apply dd)<;>first|rfl|assumption|exact wn|exact rz (by assumption)|fail)
  refine SG.alloc rfl rfl rfl (fun ce wL a6 a0 ae=>?_)
  refine SG.aN (l:=[.int .i64 0,.int .i64 0]) rfl rfl (ag rfl) (ag rfl) ae rfl rfl rfl (fun wM a7 ae=>?_)
  have P:=a6.aj a7 (aW a0)
  have JM:=JK.az P
  have aT:=bD.az P
  have Q:Row wM T 0 (bV g):=Row.all (cn.az P) rfl
  obtain⟨-,-,r8,-⟩:=bJ aT
  have cW:=(b7.az aw).az P
  repeat (first|apply ar|(apply au;rfl;(first|apply aB|apply aE|apply ig)<;>rfl))
  refine bO rfl ?_
  skip
  refine CG.tail mixed 7 [0,1,2,3,4,5,6] (by kernel_rfl) ?_
  repeat (apply bW;rfl;rfl;(first|apply aB|apply bf)<;>first|rfl|assumption|exact wn|apply ay)
  refine aM.call rfl rfl rfl (vs:=[eG g]) (bg.of rfl) (fun W hk _=>dV (cW.az hk)) ?_
  repeat (apply bW;rfl;rfl;(first|apply aB|apply aZ|apply aU)<;>first|rfl|assumption|exact wn)
  refine aM.val rfl rfl rfl (aK rfl (fun W=>VS W _ _)) ?_
  refine aM.tl (fun wN a8 _ _=>?_)
  have JN:=JM.az a8
  clear Q r8
  refine SG.mapUpdate (enc:=dv (n:=8)) (V:=GI) (kx:=aJ g.t) (vy:=(y.ht,gu (dU r y.mkr g.t) g.t)) rfl rfl (ag rfl) (ag rfl) (ag rfl) JN.dn gJ.key (fun wO b0 cM=>?_)
  repeat (first|apply ar|refine wz ?_)
  refine NG.round (j+1,bs,bu,ca,N2+4+2,m4,fV (dU r y.mkr g.t) g.t,gI t2 (dU r y.mkr g.t) y.ht g.t,Y++[gu (dU r y.mkr g.t) g.t]) (aS.of rfl) ⟨ab,?_,B,⟨?_,?_⟩,?_⟩ (by simp only;omega)
  ·simp only
   rw[Z]
   exact JN.put b0 cM
  ·have:=rY t2 (dU r y.mkr g.t) y.ht g.t
   simp only
   omega
  ·simp only[length_append,length_singleton]
   omega
  ·exact(aT.az a8).kp b0 (JN.cell (aT.az a8)).2
end
section
variable{c:Cm}{H:Int}{E:List En}{m:Md}{mb n:Nat}{q:Nat×Nm}{w w1:World}{nb:dW}
theorem BS{t:Tr}{x:Dg}(h:t.has x=true):t.height x=(t.ht x:Int):=by
 unfold Tr.has at h
 unfold Tr.height Tr.ht Tr.nd
 cases hx:aC t.nodes x with
 |some n=>rfl
 |none=>rw[hx] at h;cases h
theorem Ck.ht(h:Ck m c nb H){d:Dg}(a:aC c.ns d=some q):m.tr.height d=q.2.x.ht:=by
 rw[h.eq.tr,BS (by rw[h.ok.has,a];rfl),h.hi.ht d q a]
def Ho(w:World)(n mb:Nat)(m:Md)(E:List En)(w':World):Prop:=∃pv' ps',eW w' n mb {m with pv:=pv',ps:=ps'}/\ps'.map Em.en=E/\Kp (m.pb::aR m.pv) w w'/\∀g,pv'.ownBlock=some g->m.pv.ownBlock=some g\/w.heap.size<=g
theorem Ho.new(h:eW w1 n mb m)(c:Kp [] w w1)(a:m.ps.map Em.en=E):Ho w n mb m E w1:=⟨m.pv,m.ps,h,a,c.any,fun g b=>Or.inl b⟩
theorem Ho.pre{w2:World}(a:Kp [] w w1)(h:Ho w1 n mb m E w2):Ho w n mb m E w2:=by
 obtain⟨k,j,b,c,d,f⟩:=h
 exact⟨k,j,b,c,a.any.trans d,fun g i=>(f g i).imp id (fun e=>Nat.le_trans a.size e)⟩
attribute [local irreducible] CG NG SG aP aM Row aG aF aQ aJ eJ
theorem uB(E:eW w n mb m)(i:Ck m c nb H){vb base pm:Nat}{v:Value}(Y:dw w base vb pm v nb){x:Tm}(O:x.In n w)(M:aC c.ns c.tr.tip=some q):
  Calls prog 44 #[.pointer (some ⟨mb,0,none⟩),.iface 40 (.pointer (some ⟨vb,0,none⟩)),eG x] w (fun e p=>e= .returned (.int .i64 (gx nb q.2 (m.ps.map Em.en) x.t))/\Ho w n mb m (lu nb q.2 (m.ps.map Em.en) x.t) p):=by
 refine dG func44 rfl ntmps44 rfl ?_
 have L:∀{p:World} {z:Int},Kp [] w p->gx nb q.2 (m.ps.map Em.en) x.t=z->z≠0->(Ending.returned (.int .i64 z)= .returned (.int .i64 (gx nb q.2 (m.ps.map Em.en) x.t))/\Ho w n mb m (lu nb q.2 (m.ps.map Em.en) x.t) p):=fun a P T=>by
  refine⟨by rw[P],Ho.new (E.az a) a ?_⟩
  unfold lu
  rw[if_neg (by rw[P];exact T)]
 have N:m.tr.tip=c.tr.tip:=by rw[i.eq.tr]
 have aa:m.tr.height c.tr.tip=q.2.x.ht:=i.ht M
 repeat apply ar
 refine SG.box rfl rfl rfl (ag rfl) (fun S w1 y ah d=>?_)
 have d:aG w1 S (.cells (bV x).toArray 52):=d
 obtain⟨r,-⟩:=aX d
 repeat (first|apply ar|(apply au;rfl;(first|apply aB|apply aE|apply bf)<;>first|rfl|assumption|exact wn|apply ay))
 refine SG.ret rfl rfl rfl (vs:=[eG x,.iface 40 (.pointer (some ⟨vb,0,none⟩))]) (bg.of rfl) (iq (Y.az y) (O.az y)) (fun w2 A=>?_)
 have C:=y.trans A
 clear r
 by_cases k:eJ nb x.t=0
 rotate_left
 ·have b:gx nb q.2 (m.ps.map Em.en) x.t=eJ nb x.t:=by unfold gx;rw[if_pos k]
  repeat (first|apply ar|refine vr ?_)
  refine bO rfl ?_
  repeat (first|apply ar|refine ww ?_)
  refine aO (Or.inl rfl) results44 (aD.tmp rfl) ?_
  exact L C b k
 rw[k]
 repeat (first|apply ar|refine vp ?_)
 refine bA rfl ?_
 have l:=E.az C
 obtain⟨-,-,-,D,-⟩:=cX l.blk
 repeat (first|apply ar|refine qa4 ?_)
 refine SG.ret rfl rfl rfl (vs:=[.pointer (some ⟨m.tb,0,none⟩)]) (bg.of rfl) (fb l.tree) (fun w3 I=>?_)
 rw[N]
 clear D
 refine SG.call rfl rfl rfl (vs:=[.pointer (some ⟨mb,0,none⟩),dv c.tr.tip]) (bg.of rfl) ((ko (l.az I) i M).mono (fun e w4 u=>?_))
 obtain⟨s,bm,aj,dm,mm,af,rfl,V,U,-,-,-,ab⟩:=u
 refine⟨_,rfl,?_⟩
 have o:=I.trans ab
 have Q:=C.trans o
 have X:=l.az o
 obtain⟨-,q0,q1,-⟩:=aX ((d.az A).az o)
 repeat (first|apply ar|(apply au;rfl;(first|apply aB|apply aE|apply dd)<;>rfl))
 have F:∀W,Kp [] w4 W->dq prog 19 #[.pointer (some ⟨s,0,none⟩),dv x.t.frm] W (FD (oN x.t.frm (q.2.f x.t.frm))):=fun W a=>by
  rw[<-U.eq]
  exact lR (V.az a) x.t.frm
 by_cases K:x.t.non<(q.2.f x.t.frm).nonce
 ·have b:gx nb q.2 (m.ps.map Em.en) x.t=17:=by unfold gx;rw[if_neg (fun g=>g k),if_pos K]
  refine CG.tail mixed 7 [0,1,2,3,4,5,6] (by kernel_rfl) ?_
  repeat (apply bW;rfl;rfl;(first|apply aB|apply aZ|apply bf|apply aU)<;>first|rfl|assumption|exact wn|apply ai)
  refine aM.call rfl rfl rfl (vs:=[.pointer (some ⟨s,0,none⟩),dv x.t.frm]) (bg.of rfl) (fun W a _=>F W a) ?_
  refine aM.val rfl rfl rfl (GJ rfl) ?_
  refine aM.tl (fun w5 j _ _=>?_)
  repeat (first|apply ar|refine ul ?_)
  refine bO rfl ?_
  repeat (first|apply ar|refine wt ?_)
  refine aO (Or.inl rfl) results44 (aD.tmp rfl) ?_
  exact L (Q.trans j) b (by decide)
 have b:gx nb q.2 (m.ps.map Em.en) x.t=fD 256 (m.ps.map Em.en) q.2.x.ht x.t:=by unfold gx;rw[if_neg (fun g=>g k),if_neg K]
 refine CG.tail mixed 7 [0,1,2,3,4,5,6] (by kernel_rfl) ?_
 repeat (apply bW;rfl;rfl;(first|apply aB|apply aZ|apply bf|apply aU)<;>first|rfl|assumption|exact wn|apply ai)
 refine aM.call rfl rfl rfl (vs:=[.pointer (some ⟨s,0,none⟩),dv x.t.frm]) (bg.of rfl) (fun W a _=>F W a) ?_
 refine aM.val rfl rfl rfl (GJ rfl) ?_
 refine aM.tl (fun w5 j _ _=>?_)
 clear q0 q1
 have k5:=Q.trans j
 repeat (first|apply ar|refine un ?_)
 refine bA rfl ?_
 have h:=X.az j
 obtain⟨-,-,-,D,r6⟩:=cX h.blk
 obtain⟨r,-⟩:=aX (((d.az A).az o).az j)
 repeat apply ar
 refine CG.tail mixed 15 [0,1,2,3,4,5,6,7,8,9,10,11,12,13,14] (by kernel_rfl) ?_
 repeat (apply bW;rfl;rfl;(first|apply aB|apply aZ|apply aU|apply bR)<;>first|rfl|assumption|exact wn)
 refine aM.call rfl rfl rfl (vs:=[.pointer (some ⟨m.tb,0,none⟩)]) (bg.of rfl) (fun W a _=>fb (h.tree.az a)) ?_
 rw[N]
 refine aM.call rfl rfl rfl (vs:=[.pointer (some ⟨m.tb,0,none⟩),dv c.tr.tip]) (bg.of rfl) (fun W a _=>dZ (h.tree.az a) c.tr.tip) ?_
 rw[aa]
 repeat (apply bW;rfl;rfl;apply bf<;>first|rfl|assumption|exact wn|apply ay)
 refine aM.tl (fun w6 B _ _=>?_)
 have R:=k5.trans B
 refine SG.call rfl rfl rfl (vs:=[.pointer (some ⟨m.pb,0,none⟩),.int .i64 q.2.x.ht,eG x]) (bg.of rfl) ((sq (h.az B).pool (O.az R) i.inv (by omega)).mono (fun e w7 u=>?_))
 obtain⟨rfl,ae,ad,Z,ac,J,G⟩:=u
 refine⟨_,rfl,?_⟩
 clear r D r6
 repeat (first|apply ar|refine wt ?_)
 refine aO (Or.inl rfl) results44 (aD.tmp rfl) ?_
 refine⟨by rw[b],Ho.pre R ⟨ae,ad,(h.az B).th i.ll.1 J Z G,?_,J,G⟩⟩
 rw[ac]
 unfold lu
 split
 ·rfl
 ·rename_i g
  unfold pG
  rw[if_neg (by rw[<-b];exact g)]
end
section
attribute [local irreducible] CG NG SG aP aM Row aG aF aQ aJ eJ dC dU gu fV gI dR jJ dot kL bz
theorem wW{w:World}{n G:Nat}{m:Md}(hM:eW w n G m){c:Cm}{nb:dW}{av:Int}(C:Ck m c nb av){vb base pm:Nat}{v:Value}(hN:dw w base vb pm v nb){x:Bm}(hx:x.In n w)(hr:bz x.b=0){q:Nat×Nm}(hq:aC c.ns x.par=some q):
  dq prog 99 #[.pointer (some ⟨G,0,none⟩),.iface 40 (.pointer (some ⟨vb,0,none⟩)),eL x] w (.int .i64 (dR nb x.ht x.mkr q.2.f q.2.t [] (x.xs.map (·.t))).1):=by
 refine dG func99 rfl ntmps99 rfl ?_
 have bh:x.xs.length<=64:=by have aK:=jE hr;simpa[Bm.b] using aK
 obtain⟨bn,bo,bp⟩:=C.ok.nd _ _ hq
 have bj:=C.hH
 obtain⟨Z,hZ⟩:∃Z,(dR nb x.ht x.mkr q.2.f q.2.t [] (x.xs.map (·.t))).1=Z:=⟨_,rfl⟩
 rw[hZ]
 repeat apply ar
 refine SG.box rfl rfl rfl (ag rfl) (fun J w1 V bl B=>?_)
 have B:aG w1 J (.cells (cR x).toArray 50):=B
 obtain⟨-,r0,-⟩:=bJ B
 repeat (first|apply ar|(apply au;rfl;(first|apply aB|apply aE|apply bf|apply aU)<;>first|rfl|assumption|exact wn|apply ai))
 refine SG.call rfl rfl rfl (vs:=[.pointer (some ⟨G,0,none⟩),dv x.par]) (bg.of rfl) ((ko (hM.az V) C hq).mono (fun e w2 D=>?_))
 obtain⟨af,A,tb,R,mm,ad,rfl,aT,aR,aX,aV,⟨bs,bt,ba⟩,W⟩:=D
 refine⟨_,rfl,?_⟩
 have k2:=V.trans W
 clear r0
 repeat refine qa7 ?_
 refine SG.alloc rfl rfl rfl (fun k w3 al a1 K=>?_)
 refine SG.alloc rfl rfl rfl (fun o w4 Y bm U=>?_)
 have br:=K.lt
 refine SG.fe rfl rfl (ag rfl) (ag rfl) (K.az Y) rfl rfl (fun w5 am K=>?_)
 refine SG.fe rfl rfl (ag rfl) (ag rfl) (U.kp am (bQ (by omega))) rfl rfl (fun P an U=>?_)
 have s1:=V.size
 have s2:=W.size
 have s3:=al.size
 have s4:=Y.size
 have aq:k≠o:=by omega
 have F:Kp [] w2 P:=((al.trans Y).aj am (aW a1)).aj an (aW (by omega))
 have k6:=k2.trans F
 have ah:=(B.az W).az F
 have bq:=B.lt
 have aw:qd P P k o R A (eU m.l) af A tb ad mm q.2.f q.2.t (AJ c.ns (c.tr.line x.par)):=⟨Kp.refl _ _,K.kp an (bQ aq),U,ba,Or.inl rfl,aT.az F,aR,aX.az F,aV.az F⟩
 have ao:∀z∈[k,o,R,A],w.heap.size<=z:=fun z u=>by
  simp only[mem_cons,mem_nil_iff,or_false] at u
  rcases u with e|e|e|e<;>omega
 obtain⟨-,-,-,-,bc⟩:=bJ ah
 repeat (first|apply ar|refine qa6 ?_)
 refine CG.loop (X:=Nat×Nat×Nat×Nat×Nat×Bk×Fb×Tl×List Int) (fun p=>[(0,.pointer (some ⟨G,0,none⟩)),(1,.iface 40 (.pointer (some ⟨vb,0,none⟩))),(5,.pointer (some ⟨J,0,none⟩)),(7,gL k),(8,gL o),(23,.slice x.a x.xs.length x.c),(24,.int .i64 (x.xs.length:Int)),(25,.int .i64 (p.1:Int))])
  (fun p w'=>p.1<=x.xs.length/\qd P w' k o R A (eU m.l) p.2.1 p.2.2.1 p.2.2.2.1 p.2.2.2.2.1 p.2.2.2.2.2.1 p.2.2.2.2.2.2.1 p.2.2.2.2.2.2.2.1 (AJ c.ns (c.tr.line x.par))/\(dR nb x.ht x.mkr p.2.2.2.2.2.2.1 p.2.2.2.2.2.2.2.1 p.2.2.2.2.2.2.2.2 ((x.xs.map (·.t)).drop p.1)).1=Z/\p.2.2.2.2.2.2.2.1.n<=100000+p.1/\aG w' J (.cells (cR x).toArray 50)) (fun p=>x.xs.length-p.1) (0,af,A,tb,ad,mm,q.2.f,q.2.t,[]) ⟨Nat.zero_le _,aw,hZ,by simp only;omega,ah⟩ (aS.of rfl) ?_
 clear bc
 rintro⟨j,ax,be,bv,N2,m2,g,O,es⟩ wE ⟨hj,Q,d,a7,aP⟩
 simp only at hj Q d a7
 have aa:Kp [] w wE:=k6.aj Q.kp (fun z u=>Or.inr (ao z u))
 refine CG.to [(0,.pointer (some ⟨G,0,none⟩)),(1,.iface 40 (.pointer (some ⟨vb,0,none⟩))),(5,.pointer (some ⟨J,0,none⟩)),(7,gL k),(8,gL o),(23,.slice x.a x.xs.length x.c),(24,.int .i64 (x.xs.length:Int)),(25,.int .i64 (j:Int))] (aS.of rfl) ?_
 by_cases N:j<x.xs.length
 rotate_left
 ·have g2:¬(j:Int)<(x.xs.length:Int):=by omega
  rw[drop_of_length_le (by rw[length_map];omega),nM] at d
  subst d
  repeat (first|apply ar|refine un ?_)
  refine bA rfl ?_
  repeat (first|apply ar|refine wt ?_)
  refine aO (Or.inl rfl) results99 (aD.tmp rfl) ?_
  exact⟨rfl,aa⟩
 have g2:(j:Int)<(x.xs.length:Int):=by omega
 have a8:=hx.az aa
 obtain⟨bx,bu,aJ,a6⟩:=a8.tx.sl.at N
 have a9:=getElem_mem N
 have a5:j<(x.xs.map (·.t)).length:=by rw[length_map];exact N
 have eg:(x.xs.map (·.t))[j]=x.xs[j].t:=getElem_map _
 rw[drop_eq_getElem_cons a5,eg] at d
 have ab:∀{ae:World},Kp [] w ae->x.xs[j].In n ae:=fun hk=>((hx.az hk).tx.ins _ a9)
 rw[aJ]
 generalize x.xs[j]=y at*
 repeat (first|apply ar|refine ul ?_)
 refine bO rfl ?_
 repeat (first|apply ar|refine ut ?_)
 refine SG.alloc rfl rfl rfl (fun I wF a2 aY s=>?_)
 refine SG.aN (l:=bV y) rfl rfl (ag rfl) (ag rfl) s (ay _) rfl (bY _) (fun wG a3 s=>?_)
 have s:aG wG I (.cells (bV y).toArray 52):=s
 have ac:=a2.aj a3 (aW aY)
 have JG:=Q.az ac
 have aQ:=aP.az ac
 have kG:=aa.trans ac
 have H:Row wG I 0 (bV y):=Row.all s rfl
 clear a6
 repeat (first|apply ar|refine qb8 ?_)
 refine SG.ret rfl rfl rfl (vs:=[eG y,.iface 40 (.pointer (some ⟨vb,0,none⟩))]) (bg.of rfl) (iq (hN.az kG) (ab kG)) (fun wH L=>?_)
 have h:=JG.az L
 have T:=aQ.az L
 have S:=s.az L
 have kH:=kG.trans L
 clear H
 by_cases E:eJ nb y.t=0
 rotate_left
 ·rw[lD E] at d
  rw[d] at E⊢
  repeat (first|apply ar|refine vr ?_)
  refine bO rfl ?_
  repeat (first|apply ar|refine ww ?_)
  refine aO (Or.inl rfl) results99 (aD.tmp rfl) ?_
  exact⟨rfl,kH⟩
 rw[E]
 repeat (first|apply ar|refine vp ?_)
 refine bA rfl ?_
 have bb:=nq h.h1
 have H:Row wH I 0 (bV y):=Row.all S rfl
 obtain⟨-,-,-,r9,-⟩:=bJ T
 repeat (first|apply ar|(apply au;rfl;(first|apply aZ|apply bf|apply aU)<;>first|rfl|assumption|exact wn|apply ai|apply ay))
 refine SG.call rfl rfl rfl (vs:=[gL ax,eG y,dv x.mkr]) (bg.of rfl) ((o9 h.bk h.bi C.tot.2 (ab kH) x.mkr).mono (fun e wI D=>?_))
 obtain⟨m3,rfl,aM,a0,M⟩:=D
 refine⟨_,rfl,?_⟩
 clear bb H r9
 by_cases r:dC g y.t=0
 rotate_left
 ·rw[lE E r] at d
  rw[d] at r⊢
  repeat (first|apply ar|refine vr ?_)
  refine bO rfl ?_
  repeat (first|apply ar|refine ww ?_)
  refine aO (Or.inl rfl) results99 (aD.tmp rfl) ?_
  refine⟨rfl,kH.aj M (aW ?_)⟩
  rcases h.nb with e|e
  ·rw[e];omega
  ·have:=k6.size;omega
 rw[l0 E r] at d
 have aH:jJ g x.mkr y.t=fV (dU g x.mkr y.t) y.t:=by unfold jJ;rw[if_pos r]
 have aI:dot O g x.ht x.mkr y.t=gI O (dU g x.mkr y.t) x.ht y.t:=by unfold dot;rw[if_pos r]
 rw[aH,aI] at d
 have i:=h.Ks M aM (a0 r)
 have kI:Kp [] w wI:=k6.aj i.kp (fun z u=>Or.inr (ao z u))
 have ak:=T.kp M (h.cell T).1
 have aL:=S.kp M (h.cell S).1
 rw[r]
 repeat (first|apply ar|refine vp ?_)
 refine bA rfl ?_
 have H:Row wI I 0 (bV y):=Row.all aL rfl
 obtain⟨-,-,r8,-⟩:=bJ ak
 repeat (first|apply ar|(apply au;rfl;(first|apply aZ|apply bf|apply aU)<;>first|rfl|assumption|exact wn|apply ay))
 refine SG.call rfl rfl rfl (vs:=[gL k,gL o,.int .i64 x.ht,eG y]) (bg.of rfl) ((pa i.h1 i.h2 aq i.bk i.bi C.tot.2 i.ap (by omega) (ab kI) x.ht).mono (fun e wK D=>?_))
 obtain⟨aA,aF,bd,m4,rfl,JK,a4⟩:=i.ask D
 refine⟨_,rfl,?_⟩
 clear H r8
 repeat (first|apply ar|refine wz ?_)
 refine NG.round (j+1,aA,aF,bd,N2+4+2,m4,fV (dU g x.mkr y.t) y.t,gI O (dU g x.mkr y.t) x.ht y.t,kL es g x.mkr y.t) (aS.of rfl) ⟨N,JK,d,?_,ak.kp a4 (gG (by omega) (by omega))⟩ (by simp only;omega)
 have:=rY O (dU g x.mkr y.t) x.ht y.t
 simp only
 omega
end
section
variable{y:Bm}{bl:List (Dg×Bm)}{ns ns':List (Dg×Nat×Nm)}{m:Md}{mb n:Nat}{w w':World}
theorem eW.KR(h:eW w n mb m):dt n CT [m.tm] w [m.tb,m.tm]:=(dt.cells h.nt.2.2 h.tree.blk (by decide)).cons (dt.map h.nt.1 h.tree.map (by simp))
theorem eW.C0{f:Tr}(h:eW w n mb m)(a:Kp [m.tb,m.tm] w w')(i:cO w' m.tb m.tm f):eW w' n mb {m with tr:=f}:=by
 have c:=h.KR
 have k:eA 216 n w [m.tb,m.tm]:=eA.cons h.nt.2.2 (eA.cells h.tree.blk (by decide)) (eA.cons h.nt.1 (h.tree.map.Cr _) eA.nil)
 exact⟨c.blk a h.blk (by decide),h.mon.kp a (fun b l e d=>h.lo b l e (by unfold jc;simp only[mem_cons,mem_nil_iff,or_false] at d⊢;rcases d with g|g<;>simp[g])),h.map.kp a (gG (fun e=>cJ h.tree.blk h.map e) h.nbt),fun p j=>(h.ins p j).jq a c (by decide) (by decide),i,h.pool.kp a (gG (fun e=>by
  have:=h.pool.blk.uniq (e▸h.tree.blk)
  simp only[Obj.cells.injEq] at this
  exact absurd this.2.1 (by decide)) (fun e=>cJ h.pool.blk h.tree.map e.symm)) (dL h.pool.own k) (c.not (by decide)),h.tn,h.nbt,h.nt,h.lo⟩
theorem eW.QP{d:List (Dg×Bm)}(h:eW w n mb m)(a:Kp [m.bm] w w')(i:aF w' m.bm (dv (n:=8)) eL d)(g:∀p∈d,p.2.In n w):eW w' n mb {m with bl:=d}:=by
 have c:dt n [] [m.bm] w [m.bm]:=dt.map h.nt.2.1 h.map (by simp)
 exact⟨c.blk a h.blk (by decide),h.mon.kp a (fun b k e f=>h.lo b k e (by unfold jc;rw[mem_singleton] at f;simp[f])),i,fun p j=>(g p j).jq a c (by decide) (by decide),h.tree.kp a (bQ (fun e=>cJ h.tree.blk h.map e.symm)) (bQ (fun e=>h.nbt e.symm)),h.pool.kp a (bQ (fun e=>cJ h.pool.blk h.map e.symm)) (dL h.pool.own (c.not (by decide))) (c.not (by decide)),h.tn,h.nbt,h.nt,h.lo⟩
theorem K7{L:Env}{d:Option Nat}{ty:TypeId}{pos:String}{af:Array Edge}{g:Option (Nat×Bool)}{S:List Nat}{F:World->Prop}{x:Operand}(b:bH L x=eL y):aP prog S w F L ⟨d,.field 50 x 3,ty,pos,af,g⟩ (.slice y.a y.xs.length y.c):=
 eS (dc y.par++(.int .i64 y.ht::dc y.mkr)) [] b rfl (by simp[cR]) (by simp[ai])
theorem CY(h:∀d,(aC ns d).map (fun q=>q.2.x.b)=(aC ns' d).map (fun q=>q.2.x.b))(d:Dg):iG ns d=iG ns' d:=by
 have h:=h d
 unfold iG
 cases h1:aC ns d with
 |none=>
  rw[h1] at h
  cases h2:aC ns' d with
  |none=>rfl
  |some q=>rw[h2] at h;cases h
 |some q=>
  rw[h1] at h
  cases h2:aC ns' d with
  |none=>rw[h2] at h;cases h
  |some a=>
   rw[h2] at h
   simp only[Option.map_some,Option.some.injEq] at h
   exact congrArg Bl.txs h
theorem H4(h:∀d,(aC ns d).map (fun q=>q.2.x.b)=(aC ns' d).map (fun q=>q.2.x.b))(t:Tr)(c:List En)(old a:Dg):Ft ns t c old a=Ft ns' t c old a:=by
 have e:=funext (CY h)
 unfold Ft uK sO
 rw[e]
def Hp(bl:List (Dg×Bm))(ns:List (Dg×Nat×Nm)):Prop:=∀d,(aC bl d).map Bm.b=(aC ns d).map (fun q=>q.2.x.b)
theorem Hp.txs(h:Hp bl ns){d:Dg}(a:aC bl d=some y):iG ns d=y.xs.map (·.t):=by
 have:=h d
 rw[a] at this
 unfold iG
 cases h2:aC ns d with
 |none=>rw[h2] at this;cases this
 |some q=>
  rw[h2] at this
  simp only[Option.map_some,Option.some.injEq] at this
  exact(congrArg Bl.txs this).symm
theorem Hp.put(h:Hp bl ns)(d:Dg){z:Nat}{q:Nm}(e:q.x.b=y.b):Hp (ca bl d y) (ca ns d (z,q)):=fun k=>by
 rw[bK,bK]
 by_cases g:d=k
 ·rw[if_pos g,if_pos g]
  simp[e]
 ·rw[if_neg g,if_neg g]
  exact h k
end
section
variable{x:Bm}{c:Cm}{ns':List (Dg×Nat×Nm)}{m:Md}{mb n:Nat}{w:World}{nb:dW}
def Lm(w:World)(n mb:Nat)(m:Md)(t':Tr)(ns':List (Dg×Nat×Nm))(x:Bm)(w':World):Prop:=
 ∃pv' ps',eW w' n mb {m with pv:=pv',ps:=ps',tr:=t',bl:=ca m.bl (aI x.b) x}/\ps'.map Em.en=(if t'.tip=m.tr.tip then m.ps.map Em.en else Ft ns' t' (m.ps.map Em.en) m.tr.tip t'.tip)/\Kp (jc m) w w'/\∀g,pv'.ownBlock=some g->m.pv.ownBlock=some g\/w.heap.size<=g
def lW(w:World)(n mb:Nat)(m:Md)(c:Cm)(nb:dW)(ns':List (Dg×Nat×Nm))(x:Bm)(e:Ending)(w':World):Prop:=
 e= .returned (.int .i64 (oL nb c x.b))/\(oL nb c x.b≠0/\eW w' n mb m/\Kp (jc m) w w'\/oL nb c x.b=0/\Lm w n mb m (c.tr.add (aI x.b) x.par) ns' x w')
theorem lW.no{e:World}(g:eW w n mb m)(a:Kp [] w e){z:Int}(d:oL nb c x.b=z)(f:z≠0):lW w n mb m c nb ns' x (.returned (.int .i64 z)) e:=⟨by rw[d],Or.inl ⟨by rw[d];exact f,g.az a,a.any⟩⟩
attribute [local irreducible] CG NG SG aP aM Row aG aF aQ aJ eJ aI bz iU dR oL nC
theorem tD(s:eW w n mb m){cu:Int}(k:Ck m c nb cu){vb base pm:Nat}{v:Value}(hN:dw w base vb pm v nb)(hx:x.In n w)(bv:Hp (ca m.bl (aI x.b) x) ns'):
  Calls prog 48 #[.pointer (some ⟨mb,0,none⟩),.iface 40 (.pointer (some ⟨vb,0,none⟩)),eL x] w (lW w n mb m c nb ns' x):=by
 refine dG func48 rfl ntmps48 rfl ?_
 have ok:=k.ok
 have dO:=k.hH
 repeat apply ar
 refine SG.box rfl rfl rfl (ag rfl) (fun b5 w1 b2 cV af=>?_)
 have af:aG w1 b5 (.cells (cR x).toArray 50):=af
 obtain⟨r,-⟩:=bJ af
 repeat (first|apply ar|(apply au;rfl;(first|apply aE|apply bf)<;>first|rfl|assumption|exact wn|apply aH))
 refine SG.ret rfl rfl rfl (vs:=[eL x]) (bg.of rfl) (lQ (hx.az b2)) (fun w2 bn=>?_)
 have k2:=b2.trans bn
 clear r
 by_cases j:bz x.b=0
 rotate_left
 ·repeat (first|apply ar|refine vr ?_)
  refine bO rfl ?_
  repeat (first|apply ar|refine ww ?_)
  refine aO (Or.inl rfl) results48 (aD.tmp rfl) ?_
  exact lW.no s k2 (pI j) j
 rw[j]
 repeat (first|apply ar|refine vp ?_)
 refine bA rfl ?_
 have eo:nC x.b (aI x.b)= .tuple #[dv (aI x.b),.int .i64 0]:=by unfold nC;rw[if_pos j]
 have bu:=eP (hx.az k2)
 rw[eo] at bu
 obtain⟨r,-⟩:=bJ (af.az bn)
 repeat (first|apply ar|refine qa9 ?_)
 refine SG.ret rfl rfl rfl (vs:=[eL x]) (bg.of rfl) bu (fun w3 b3=>?_)
 clear r bu eo
 repeat refine qa7 ?_
 refine SG.alloc rfl rfl rfl (fun b8 w4 c0 cW ax=>?_)
 refine SG.aN (l:=dc (aI x.b)) rfl rfl (ag rfl) (ag rfl) ax (ai _) rfl (bj _) (fun w5 c1 ax=>?_)
 have cl:=b3.trans (c0.aj c1 (aW cW))
 have k5:=k2.trans cl
 have bU:=s.az k5
 have cA:=(af.az bn).az cl
 obtain⟨-,-,R,-,-⟩:=cX bU.blk
 have r8:Row w5 b8 0 (dc (aI x.b)):=Row.all ax rfl
 have F:=bU.map
 have dy:w.heap.size<=b8:=by have:=k2.size;have:=b3.size;omega
 repeat (first|apply ar|refine wt ?_)
 cases hlk:aC m.bl (aI x.b) with
 |some y0=>
  obtain⟨q0,a0⟩:∃q0,aC c.ns (aI x.b)=some q0:=by
   have:=k.eq.bl (aI x.b)
   rw[hlk] at this
   cases h2:aC c.ns (aI x.b) with
   |some q=>exact⟨q,rfl⟩
   |none=>rw[h2] at this;cases this
  refine CG.fA mixed [0,1,2,3,4,5,6,7,8,11] [(9,10,10,.tmp 39)] (by kernel_rfl) (by kernel_rfl) ?_
  repeat (apply bW;rfl;rfl;(first|apply aB|apply aE|apply aZ|apply bf|apply aU|apply bR|apply jz|apply dd)<;>first|rfl|assumption|exact wn|apply ai|exact iX (by assumption)|fail)
  refine aM.one (fq.of (by rfl) rfl rfl rfl (ag rfl) (by exact aH _) (by rfl) (by exact dB _)) (fun cv w6 al cQ cx=>?_)
  clear R r8 F
  repeat (first|apply ar|refine qa0 ?_)
  refine bO rfl ?_
  repeat (first|apply ar|refine wt ?_)
  refine aO (Or.inl rfl) results48 (aD.tmp rfl) ?_
  exact lW.no s (k5.trans al) (pH j a0) (by decide)
 |none=>
 have a0:aC c.ns (aI x.b)=none:=by
  have:=k.eq.bl (aI x.b)
  rw[hlk] at this
  cases h2:aC c.ns (aI x.b) with
  |none=>rfl
  |some q=>rw[h2] at this;cases this
 refine CG.fA mixed [0,1,2,3,4,5,6,7,8,11] [(9,10,10,.tmp 39)] (by kernel_rfl) (by kernel_rfl) ?_
 repeat (apply bW;rfl;rfl;(first|apply aB|apply aE|apply aZ|apply bf|apply aU|apply bR|apply jz|apply dd)<;>first|rfl|assumption|exact wn|apply ai|exact rz (by assumption)|fail)
 refine aM.one (fq.of (v:=eL il) (by rfl) rfl rfl rfl (ag rfl) (by exact aH _) (by rfl) (by exact dB _)) (fun cv w6 al cQ cx=>?_)
 clear R r8 F
 have k6:=k5.trans al
 have bV:=s.az k6
 have bH:=cA.az al
 have cC:=ax.az al
 obtain⟨-,-,R,-,-⟩:=cX bV.blk
 obtain⟨-,r0,-⟩:=bJ bH
 have F:=bV.map
 repeat (first|apply ar|refine qa0 ?_)
 refine bA rfl ?_
 repeat apply ar
 cases hpl:aC m.bl x.par with
 |none=>
  have dk:aC c.ns x.par=none:=by
   have:=k.eq.bl x.par
   rw[hpl] at this
   cases h2:aC c.ns x.par with
   |none=>rfl
   |some q=>rw[h2] at this;cases this
  refine CG.fA mixed [0,1,2,3,4,5,6,7,8,9,12] [(10,11,12,.tmp 50)] (by kernel_rfl) (by kernel_rfl) ?_
  repeat (apply bW;rfl;rfl;(first|apply aB|apply aE|apply aZ|apply bf|apply aU|apply bR|apply jz|apply dd)<;>first|rfl|assumption|exact wn|apply ai|exact rz (by assumption)|fail)
  refine aM.one (fq.of (v:=eL il) (by rfl) rfl rfl rfl (ag rfl) (by exact aH _) (by rfl) (by exact dB _)) (fun a5 w7 am cS aq=>?_)
  clear R r0 F
  repeat (first|apply ar|(apply au;rfl;(first|apply aB|apply cI|apply ig)<;>rfl)|refine SG.skip rfl rfl ?_)
  refine bO rfl ?_
  repeat (first|apply ar|refine wt ?_)
  refine aO (Or.inl rfl) results48 (aD.tmp rfl) ?_
  exact lW.no s (k6.trans am) (uY j a0 dk) (by decide)
 |some yp=>
 obtain⟨q,hq,ce⟩:∃q,aC c.ns x.par=some q/\q.2.x.b=yp.b:=by
  have:=k.eq.bl x.par
  rw[hpl] at this
  cases h2:aC c.ns x.par with
  |none=>rw[h2] at this;cases this
  |some q=>
   rw[h2] at this
   simp only[Option.map_some,Option.some.injEq] at this
   exact⟨q,rfl,this.symm⟩
 have o:=uZ (nb:=nb) j a0 hq
 obtain⟨dT,dU,dV⟩:=ok.nd _ _ hq
 have dW:yp.ht=q.2.x.ht:=(congrArg Bl.ht ce).symm
 refine CG.fA mixed [0,1,2,3,4,5,6,7,8,9,12] [(10,11,12,.tmp 50)] (by kernel_rfl) (by kernel_rfl) ?_
 repeat (apply bW;rfl;rfl;(first|apply aB|apply aE|apply aZ|apply bf|apply aU|apply bR|apply jz|apply dd)<;>first|rfl|assumption|exact wn|apply ai|exact iX (by assumption)|fail)
 refine aM.one (fq.of (by rfl) rfl rfl rfl (ag rfl) (by exact aH _) (by rfl) (by exact dB _)) (fun a5 w7 am cS aq=>?_)
 have aq:aG w7 a5 (.cells (cR yp).toArray 50):=aq
 clear R r0 F
 have k7:=k6.trans am
 have bX:=s.az k7
 have ck:=bX.ins _ (fG hpl)
 simp only at ck
 have a9:=bH.az am
 have cD:=cC.az am
 have r5:Row w7 b5 0 (cR x):=Row.all a9 rfl
 have dL:Row w7 a5 0 (cR yp):=Row.all aq rfl
 rw[ce] at o
 repeat (first|apply ar|(apply au;rfl;(first|apply aB|apply bf|apply ig)<;>first|rfl|assumption|exact wn|apply aH))
 refine SG.ret rfl rfl rfl (vs:=[eL x,eL yp]) (bg.of rfl) (qa (hx.az k7) ck (by omega)) (fun w8 aT=>?_)
 have k8:=k7.trans aT
 clear r5 dL
 by_cases L:iU x.b yp.b=0
 rotate_left
 ·have bF:iU x.b yp.b=24:=by
   unfold iU at L⊢
   rw[if_neg (fun g=>g j)] at L⊢
   split at L
   ·rename_i g
    exact if_pos g
   ·exact absurd rfl L
  rw[if_pos L] at o
  rw[bF]
  repeat (first|apply ar|(apply au;rfl;(first|apply cI|apply du)<;>first|rfl|exact qr))
  refine bO rfl ?_
  repeat (first|apply ar|refine wt ?_)
  refine aO (Or.inl rfl) results48 (aD.tmp rfl) ?_
  exact lW.no s k8 (o.trans bF) (by decide)
 rw[if_neg (fun g=>g L)] at o
 rw[L]
 repeat (first|apply ar|(apply au;rfl;(first|apply cI|apply du)<;>first|rfl|exact qf))
 refine bA rfl ?_
 have r5:Row w8 b5 0 (cR x):=Row.all (a9.az aT) rfl
 repeat (first|apply ar|(apply au;rfl;(first|apply aB|apply bf)<;>first|rfl|assumption|exact wn|apply aH))
 refine SG.ret rfl rfl rfl (vs:=[.pointer (some ⟨mb,0,none⟩),.iface 40 (.pointer (some ⟨vb,0,none⟩)),eL x]) (bg.of rfl) (wW (bX.az aT) k (hN.az k8) (hx.az k8) j hq) (fun w9 b4=>?_)
 have k9:=k8.trans b4
 clear r5
 have o:oL nb c x.b=if(dR nb x.ht x.mkr q.2.f q.2.t [] (x.xs.map (·.t))).1≠0 then(dR nb x.ht x.mkr q.2.f q.2.t [] (x.xs.map (·.t))).1 else c.tr.addE (aI x.b) x.par:=o
 obtain⟨a4,hZ⟩:∃a4,(dR nb x.ht x.mkr q.2.f q.2.t [] (x.xs.map (·.t))).1=a4:=⟨_,rfl⟩
 rw[hZ] at o⊢
 by_cases hr:a4=0
 rotate_left
 ·rw[if_pos hr] at o
  repeat (first|apply ar|refine vr ?_)
  refine bO rfl ?_
  repeat (first|apply ar|refine ww ?_)
  refine aO (Or.inl rfl) results48 (aD.tmp rfl) ?_
  exact lW.no s k9 o hr
 rw[if_neg (fun g=>g hr)] at o
 rw[hr]
 repeat (first|apply ar|refine vp ?_)
 refine bA rfl ?_
 have bc:=s.az k9
 have bi:=bc.tree
 rw[k.eq.tr] at bi
 obtain⟨-,-,-,S,-⟩:=cX bc.blk
 repeat (first|apply ar|refine qa4 ?_)
 refine SG.ret rfl rfl rfl (vs:=[.pointer (some ⟨m.tb,0,none⟩)]) (bg.of rfl) (fb bi) (fun wA b6=>?_)
 refine SG.alloc rfl rfl rfl (fun I wB c2 cT a7=>?_)
 refine SG.aN (l:=dc c.tr.tip) rfl rfl (ag rfl) (ag rfl) a7 (ai _) rfl (bj _) (fun wC c3 a7=>?_)
 have a1:=b6.trans (c2.aj c3 (aW cT))
 have kC:=k9.trans a1
 have bY:=bc.az a1
 clear S
 obtain⟨-,-,-,S,-⟩:=cX bY.blk
 have cm:=(aT.trans b4).trans a1
 have bL:=cD.az cm
 have bI:=a9.az cm
 have r8:Row wC b8 0 (dc (aI x.b)):=Row.all bL rfl
 obtain⟨-,r0,-⟩:=bJ bI
 repeat apply ar
 refine CG.tail mixed 7 [0,1,2,3,4,5,6] (by kernel_rfl) ?_
 repeat (apply bW;rfl;rfl;(first|apply aB|apply aZ|apply bf|apply aU|apply bR)<;>first|rfl|assumption|exact wn|apply ai)
 refine aM.tl (fun wD ad _ _=>?_)
 have kD:=kC.trans ad
 have bd:=bY.az ad
 refine SG.call rfl rfl rfl (vs:=[.pointer (some ⟨m.tb,0,none⟩),dv (aI x.b),dv x.par]) (bg.of rfl) ((tG ((bi.az a1).az ad) bd.tn ok.wf ok.dep (aI x.b) x.par).mono (fun e wE E=>?_))
 obtain⟨rfl,cP,ae⟩:=E
 refine⟨_,rfl,?_⟩
 have aA:=bd.C0 ae cP
 have kE:Kp (jc m) w wE:=kD.any.trans (ae.mono (fun z j=>by
  simp only[mem_cons,mem_nil_iff,or_false] at j
  unfold jc
  rcases j with e|e<;>simp[e]))
 clear S r8 r0
 by_cases ak:c.tr.addE (aI x.b) x.par=0
 rotate_left
 ·have et:c.tr.add (aI x.b) x.par=m.tr:=by unfold Tr.add;rw[if_neg ak,k.eq.tr]
  rw[et] at aA
  repeat (first|apply ar|refine vr ?_)
  refine bO rfl ?_
  repeat (first|apply ar|refine ww ?_)
  refine aO (Or.inl rfl) results48 (aD.tmp rfl) ?_
  exact⟨by rw[o],Or.inl ⟨by rw[o];exact ak,aA,kE⟩⟩
 have ap:=o.trans ak
 rw[ak]
 repeat (first|apply ar|refine vp ?_)
 refine bA rfl ?_
 have dX:=s.tree.blk.lt
 have dY:=s.tree.map.lt
 have d0:=s.map.lt
 have dx:w.heap.size<=b5:=cV
 have dt:w.heap.size<=I:=by have:=k9.size;have:=b6.size;omega
 have nE:∀{z:Nat},w.heap.size<=z->z∉[m.tb,m.tm]:=fun dN=>gG (by omega) (by omega)
 have cE:=(bL.az ad).kp ae (nE dy)
 have cB:=(bI.az ad).kp ae (nE dx)
 have cy:=(a7.az ad).kp ae (nE dt)
 have r8:Row wE b8 0 (dc (aI x.b)):=Row.all cE rfl
 have r5:Row wE b5 0 (cR x):=Row.all cB rfl
 obtain⟨-,-,R,-,-⟩:=cX aA.blk
 repeat apply ar
 refine CG.tail mixed 6 [0,1,2,3,4,5] (by kernel_rfl) ?_
 repeat (apply bW;rfl;rfl;(first|apply aB|apply aZ|apply bf|apply aU|apply bR)<;>first|rfl|assumption|exact wn|apply ai|apply aH)
 refine aM.tl (fun wF aV _ _=>?_)
 have be:=aA.az aV
 clear r8 r5 R
 refine SG.mapUpdate (enc:=dv (n:=8)) (V:=eL) (kx:=aI x.b) (vy:=x) rfl rfl (ag rfl) (ag rfl) (ag rfl) be.map gJ.key (fun wG bo db=>?_)
 have ds:x.In n wF:=((hx.az kD).jq ae bd.KR (by decide) (by decide)).az aV
 have ab:=be.QP bo db (fun p hp=>by
  rcases lV hp with e|e
  ·rw[e];exact ds
  ·exact be.ins p e)
 have kG:Kp (jc m) w wG:=(kE.trans aV.any).trans (bo.mono (fun z j=>by rw[mem_singleton] at j;unfold jc;simp[j]))
 have cz:=(cy.az aV).kp bo (bQ (by show I≠m.bm;omega))
 obtain⟨i,an⟩:∃i,c.tr.add (aI x.b) x.par=i:=⟨_,rfl⟩
 obtain⟨h,A⟩:∃h:Md,({m with tr:=i,bl:=ca m.bl (aI x.b) x}:Md)=h:=⟨_,rfl⟩
 have bx:=oK ok.wf (aI x.b) x.par
 have cd:c.tr.add (aI x.b) x.par=c.tr.put (aI x.b) x.par:=AU ak
 rw[an] at bx cd ab
 have ab:eW wG n mb h:=by rw[<-A];exact ab
 have e1:h.tr=i:=by rw[<-A]
 have e2:h.tb=m.tb:=by rw[<-A]
 have e3:h.tm=m.tm:=by rw[<-A]
 have e4:h.pb=m.pb:=by rw[<-A]
 have e5:h.ps=m.ps:=by rw[<-A]
 have e6:h.bl=ca m.bl (aI x.b) x:=by rw[<-A]
 have e7:h.pv=m.pv:=by rw[<-A]
 have e8:h.l=m.l:=by rw[<-A]
 have bk:=ab.tree
 rw[e1] at bk
 obtain⟨-,-,-,S,-⟩:=cX ab.blk
 repeat (first|apply ar|refine qa4 ?_)
 refine SG.ret rfl rfl rfl (vs:=[.pointer (some ⟨h.tb,0,none⟩)]) (bg.of rfl) (fb bk) (fun wI c4=>?_)
 refine SG.alloc rfl rfl rfl (fun aa wJ c5 cU av=>?_)
 refine SG.aN (l:=dc i.tip) rfl rfl (ag rfl) (ag rfl) av (ai _) rfl (bj _) (fun wK c6 av=>?_)
 have a2:=c4.trans (c5.aj c6 (aW cU))
 have aJ:=ab.az a2
 have kK:Kp (jc m) w wK:=kG.trans a2.any
 have bG:=cz.az a2
 clear S
 have bD:Row wK I 0 (dc c.tr.tip):=Row.all bG rfl
 have ao:Row wK aa 0 (dc i.tip):=Row.all av rfl
 have cg:m.tr.tip=c.tr.tip:=by rw[k.eq.tr]
 by_cases cf:i.tip=c.tr.tip
 ·repeat (first|apply ar|(apply au;rfl;(first|apply bf|apply vT)<;>first|rfl|assumption|exact qf|exact wn|apply ai))
  refine bO rfl ?_
  repeat (first|apply ar|refine wt ?_)
  refine aO (Or.inl rfl) results48 (aD.tmp rfl) ?_
  refine⟨by rw[ap],Or.inr ⟨ap,m.pv,m.ps,?_,by rw[an,cg,if_pos cf],kK,fun g u=>Or.inl u⟩⟩
  rw[an]
  rw[<-A] at aJ
  exact aJ
 have D:=bx.1
 have aY:i.has c.tr.tip=true:=bx.2.2.2.1
 have cH:df 256 (m.ps.map Em.en):=k.inv
 have ch:∀{d:Dg},i.has d=true->∃y,aC h.bl d=some y:=fun{d} hd=>by
  rw[cd,fH,Bool.or_eq_true] at hd
  rw[e6,bK]
  by_cases e:aI x.b=d
  ·exact⟨_,if_pos e⟩
  ·rw[if_neg e]
   obtain⟨q',dj⟩:=ok.get (hd.resolve_left (by simpa using e))
   obtain⟨y,O,-⟩:=k.eq.get dj
   exact⟨y,O⟩
 rw[<-e6] at bv
 have c8:=uh (b:=i.tip) D aY
 have c9:=uh (b:=c.tr.tip) D D.tip
 repeat (first|apply ar|(apply au;rfl;(first|apply bf|apply vT)<;>first|rfl|assumption|exact qr|exact wn|apply ai))
 refine bA rfl ?_
 obtain⟨-,-,-,S,-⟩:=cX aJ.blk
 repeat apply ar
 refine CG.tail mixed 6 [0,1,2,3,4,5] (by kernel_rfl) ?_
 repeat (apply bW;rfl;rfl;(first|apply aB|apply aZ|apply bf|apply aU|apply bR)<;>first|rfl|assumption|exact wn|apply ai)
 refine aM.tl (fun wL b7 _ _=>?_)
 refine SG.call rfl rfl rfl (vs:=[.pointer (some ⟨h.tb,0,none⟩),dv c.tr.tip,dv i.tip]) (bg.of rfl) ((iu ((bk.az a2).az b7) D aY D.tip).mono (fun e wM E=>?_))
 obtain⟨bs,co,cc,dD,dA,rfl,dP,bN,⟨dh,cY⟩,c7⟩:=E
 refine⟨_,rfl,?_⟩
 clear S bD ao
 have a3:=b7.trans c7
 have cK:=aJ.az a3
 have kM:Kp (jc m) w wM:=kK.trans a3.any
 have ci:∀d∈i.fv c.tr.tip i.tip,∃y,aC h.bl d=some y:=fun d hd=>ch (qo D aY hd)
 have bB:=fM i c.tr.tip i.tip
 repeat (first|apply ar|(apply au;rfl;(first|apply aB|apply aE|apply dg|apply td)<;>first|rfl|exact zc))
 obtain⟨H,b9⟩:∃H,i.fv c.tr.tip i.tip=H:=⟨_,rfl⟩
 obtain⟨Y,dq⟩:∃Y,i.sD c.tr.tip i.tip=Y:=⟨_,rfl⟩
 rw[b9] at ci bB bN
 rw[dq] at bB c8 cY⊢
 have de:h.pb∈jc m:=by rw[e4];simp[jc]
 have dp:∀z∈h.pb::aR h.pv,z∈jc m:=fun z j=>by
  rcases mem_cons.1 j with e|e
  ·rw[e];exact de
  ·rw[e7] at e;simp[jc,e]
 refine CG.loop (X:=Nat×Value×List Em) (fun p=>[(0,.pointer (some ⟨mb,0,none⟩)),(15,.pointer (some ⟨I,0,none⟩)),(17,.pointer (some ⟨aa,0,none⟩)),(18,.slice (some ⟨bs,co,none⟩) Y cc),(19,.int .i64 ((p.1:Int)-1))])
  (fun p G=>(p.1<=Y/\p.2.2.map Em.en=sO ns' (i.height i.tip) (m.ps.map Em.en) (H.drop p.1))/\eW G n mb {h with pv:=p.2.1,ps:=p.2.2}/\Kp (h.pb::aR h.pv) wM G/\(∀g,p.2.1.ownBlock=some g->h.pv.ownBlock=some g\/wM.heap.size<=g)/\aG G bs (.cells (dD++(flat H++dA)).toArray 47)/\aG G I (.cells (dc c.tr.tip).toArray 47)/\aG G aa (.cells (dc i.tip).toArray 47)) (fun p=>p.1) (Y,h.pv,h.ps) ⟨⟨Nat.le_refl _,by simp only;rw[<-bB,drop_length,e5];rfl⟩,cK,Kp.refl _ _,fun g u=>Or.inl u,bN,bG.az a3,av.az a3⟩ (aS.of rfl) ?_
 rintro⟨r,ct,cq⟩ B ⟨⟨dl,J⟩,K,bp,aP,ba,a8,aw⟩
 simp only at dl J K aP
 refine CG.to [(0,.pointer (some ⟨mb,0,none⟩)),(15,.pointer (some ⟨I,0,none⟩)),(17,.pointer (some ⟨aa,0,none⟩)),(18,.slice (some ⟨bs,co,none⟩) Y cc),(19,.int .i64 ((r:Int)-1))] (aS.of rfl) ?_
 have ay:df 256 (cq.map Em.en):=by rw[J];exact lS cH _
 have bZ:cO B h.tb h.tm i:=by rw[<-e1];exact K.tree
 have da:wM.heap.size<=B.heap.size:=bp.size
 cases r with
 |succ r=>
  have a6:((r+1:Nat):Int)-1=(r:Int):=by omega
  rw[a6]
  have g1:(0:Int)<=(r:Int):=by omega
  have N:r<H.length:=by omega
  have dn:r<Y:=by omega
  obtain⟨y,O⟩:=ci _ (getElem_mem N)
  have hS:=qq ba dh
  obtain⟨cw,dz,e0,bw⟩:=hS.at N
  cases e0
  have F:aF B h.bm (dv (n:=8)) eL h.bl:=K.map
  obtain⟨-,-,T,U,W⟩:=cX K.blk
  have T:Row B mb 4 [.map (some h.bm)]:=T
  have U:Row B mb 5 [.pointer (some ⟨h.tb,0,none⟩)]:=U
  have W:Row B mb 6 [.pointer (some ⟨h.pb,0,none⟩)]:=W
  have ao:Row B aa 0 (dc i.tip):=Row.all aw rfl
  repeat (first|apply ar|(apply au;rfl;(first|apply aB|apply ji)<;>first|rfl|exact qf))
  refine bO rfl ?_
  repeat apply ar
  refine CG.tail mixed 20 [0,1,2,3,4,5,6,7,8,9,10,11,12,13,14,15,16,17,18,19] (by kernel_rfl) ?_
  repeat (apply bW;rfl;rfl;(first|apply aB|apply aZ|apply bf|apply aU|apply bR)<;>first|rfl|assumption|exact wn|apply ai)
  refine aM.call rfl rfl rfl (vs:=[.pointer (some ⟨h.tb,0,none⟩),dv i.tip]) (bg.of rfl) (fun dM hk _=>dZ (bZ.az hk) i.tip) ?_
  repeat (apply bW;rfl;rfl;(first|apply aB|apply aZ|apply bf|apply aU|apply bR|apply fa|apply oQ)<;>first|rfl|exact zc|assumption|exact wn|apply ai|exact iX (by assumption)|fail)
  refine aM.val rfl rfl rfl (K7 rfl) ?_
  refine aM.tl (fun wP C _ _=>?_)
  have aK:=K.az C
  have P:=aK.ins _ (fG O)
  simp only at P
  refine SG.call rfl rfl rfl (vs:=[.pointer (some ⟨h.pb,0,none⟩),.int .i64 (i.height i.tip),.slice y.a y.xs.length y.c]) (bg.of rfl) ((tW aK.pool ay (by omega) P.tx P.len).mono (fun e wQ E=>?_))
  obtain⟨rfl,dI,dF,cM,cF,M,b0⟩:=E
  refine⟨_,rfl,?_⟩
  clear bw T U W ao F
  have bh:=aK.th (by show 0<h.l.length;rw[e8];exact k.ll.1) M cM b0
  have nQ:∀{z:Nat} {cs:Array Value},aG B z (.cells cs 47)->z∉h.pb::aR ct:=fun hB=>aK.pool.DP (hB.az C) (by decide) (by decide)
  repeat (first|apply ar|(apply au;rfl;(first|apply aB|apply aE|apply td)<;>first|rfl|exact zc))
  refine NG.round (r,dI,dF) (aS.of rfl) ⟨⟨by simp only;omega,?_⟩,bh,(bp.trans C.any).aj M (fun z j=>?_),fun g u=>?_,(ba.az C).kp M (nQ ba),(a8.az C).kp M (nQ a8),(aw.az C).kp M (nQ aw)⟩ (by simp only;omega)
  ·rw[drop_eq_getElem_cons N]
   show _=(qb 256 (sO ns' (i.height i.tip) (m.ps.map Em.en) (H.drop (r+1))) (i.height i.tip) (iG ns' H[r])).1
   rw[cF,bv.txs O,<-J]
  ·rcases mem_cons.1 j with e|e
   ·exact Or.inl (by rw[e];exact mem_cons_self)
   ·exact(jm aP e).imp (fun g=>mem_cons_of_mem _ g) id
  ·rcases b0 g u with e|e
   ·exact aP g e
   ·exact Or.inr (Nat.le_trans da (Nat.le_trans C.size e))
 |zero=>
 have g1:¬(0:Int)<=((0:Nat):Int)-1:=by omega
 rw[drop_zero] at J
 obtain⟨E1,bT⟩:∃E1,sO ns' (i.height i.tip) (m.ps.map Em.en) H=E1:=⟨_,rfl⟩
 rw[bT] at J
 have ay:df 256 E1:=by rw[<-J];exact ay
 obtain⟨-,-,-,U,-⟩:=cX K.blk
 have U:Row B mb 5 [.pointer (some ⟨h.tb,0,none⟩)]:=U
 have bD:Row B I 0 (dc c.tr.tip):=Row.all a8 rfl
 have ao:Row B aa 0 (dc i.tip):=Row.all aw rfl
 repeat (first|apply ar|(apply au;rfl;(first|apply aB|apply ji)<;>first|rfl|exact qr))
 refine bA rfl ?_
 repeat apply ar
 refine CG.tail mixed 6 [0,1,2,3,4,5] (by kernel_rfl) ?_
 repeat (apply bW;rfl;rfl;(first|apply aB|apply aZ|apply bf|apply aU|apply bR)<;>first|rfl|assumption|exact wn|apply ai)
 refine aM.tl (fun wP C _ _=>?_)
 refine SG.call rfl rfl rfl (vs:=[.pointer (some ⟨h.tb,0,none⟩),dv i.tip,dv c.tr.tip]) (bg.of rfl) ((iu (bZ.az C) D D.tip aY).mono (fun e wQ E=>?_))
 obtain⟨bt,cp,bE,dE,dC,rfl,dQ,bS,⟨di,cZ⟩,M⟩:=E
 refine⟨_,rfl,?_⟩
 clear U bD ao
 have cn:=C.trans M
 have bh:=K.az cn
 have cj:∀d∈i.fv i.tip c.tr.tip,∃y,aC h.bl d=some y:=fun d hd=>ch (qo D D.tip hd)
 have bC:=fM i i.tip c.tr.tip
 repeat (first|apply ar|(apply au;rfl;(first|apply aB|apply aE|apply dg|apply td)<;>first|rfl|exact zc))
 obtain⟨Q,cb⟩:∃Q,i.fv i.tip c.tr.tip=Q:=⟨_,rfl⟩
 obtain⟨Z,dr⟩:∃Z,i.sD i.tip c.tr.tip=Z:=⟨_,rfl⟩
 rw[cb] at cj bC bS
 rw[dr] at bC c9 cZ⊢
 refine CG.loop (X:=Nat×Value×List Em) (fun p=>[(0,.pointer (some ⟨mb,0,none⟩)),(20,.slice (some ⟨bt,cp,none⟩) Z bE),(21,.int .i64 ((p.1:Int)-1))])
  (fun p G=>(p.1<=Z/\p.2.2.map Em.en=uK ns' E1 (Q.drop p.1))/\eW G n mb {h with pv:=p.2.1,ps:=p.2.2}/\Kp (h.pb::aR h.pv) wM G/\(∀g,p.2.1.ownBlock=some g->h.pv.ownBlock=some g\/wM.heap.size<=g)/\aG G bt (.cells (dE++(flat Q++dC)).toArray 47)) (fun p=>p.1) (Z,ct,cq) ⟨⟨Nat.le_refl _,by simp only;rw[<-bC,drop_length,J];rfl⟩,bh,bp.trans cn.any,aP,bS⟩ (aS.of rfl) ?_
 rintro⟨r,dJ,cr⟩ wR ⟨⟨dm,ah⟩,ac,bq,aQ,bb⟩
 simp only at dm ah ac aQ
 refine CG.to [(0,.pointer (some ⟨mb,0,none⟩)),(20,.slice (some ⟨bt,cp,none⟩) Z bE),(21,.int .i64 ((r:Int)-1))] (aS.of rfl) ?_
 have cJ:df 256 (cr.map Em.en):=by rw[ah];exact oC ay _
 have dS:wM.heap.size<=wR.heap.size:=bq.size
 cases r with
 |succ r=>
  have a6:((r+1:Nat):Int)-1=(r:Int):=by omega
  rw[a6]
  have g2:(0:Int)<=(r:Int):=by omega
  have N:r<Q.length:=by omega
  have dn:r<Z:=by omega
  obtain⟨y,O⟩:=cj _ (getElem_mem N)
  have hS:=qq bb di
  obtain⟨cw,dz,e0,bw⟩:=hS.at N
  cases e0
  have F:aF wR h.bm (dv (n:=8)) eL h.bl:=ac.map
  obtain⟨-,-,T,-,W⟩:=cX ac.blk
  have T:Row wR mb 4 [.map (some h.bm)]:=T
  have W:Row wR mb 6 [.pointer (some ⟨h.pb,0,none⟩)]:=W
  repeat (first|apply ar|(apply au;rfl;(first|apply aB|apply ji)<;>first|rfl|exact qf))
  refine bO rfl ?_
  repeat apply ar
  refine CG.tail mixed 14 [0,1,2,3,4,5,6,7,8,9,10,11,12,13] (by kernel_rfl) ?_
  repeat (apply bW;rfl;rfl;(first|apply aB|apply aZ|apply bf|apply aU|apply bR|apply fa|apply oQ)<;>first|rfl|exact zc|assumption|exact wn|apply ai|exact iX (by assumption)|fail)
  refine aM.val rfl rfl rfl (K7 rfl) ?_
  refine aM.tl (fun wS aX _ _=>?_)
  have aL:=ac.az aX
  have P:=aL.ins _ (fG O)
  simp only at P
  refine SG.call rfl rfl rfl (vs:=[.pointer (some ⟨h.pb,0,none⟩),.slice y.a y.xs.length y.c]) (bg.of rfl) ((tO aL.pool cJ (by omega) P.tx.sl P.len).mono (fun e wT E=>?_))
  obtain⟨rfl,dK,dH,cN,cG,br,b1⟩:=E
  refine⟨_,rfl,?_⟩
  clear bw T W F
  have cL:=aL.th (by show 0<h.l.length;rw[e8];exact k.ll.1) br cN (fun g u=>Or.inl (b1 g u))
  repeat (first|apply ar|(apply au;rfl;(first|apply aB|apply aE|apply td)<;>first|rfl|exact zc))
  refine NG.round (r,dK,dH) (aS.of rfl) ⟨⟨by simp only;omega,?_⟩,cL,(bq.trans aX.any).aj br (fun z j=>?_),fun g u=>aQ g (b1 g u),(bb.az aX).kp br (aL.pool.DP (bb.az aX) (by decide) (by decide))⟩ (by simp only;omega)
  ·rw[drop_eq_getElem_cons N]
   show _=pY (uK ns' E1 (Q.drop (r+1))) (iG ns' Q[r])
   rw[cG,bv.txs O,<-ah]
  ·rcases mem_cons.1 j with e|e
   ·exact Or.inl (by rw[e];exact mem_cons_self)
   ·exact(jm aQ e).imp (fun g=>mem_cons_of_mem _ g) id
 |zero=>
 have g2:¬(0:Int)<=((0:Nat):Int)-1:=by omega
 rw[drop_zero] at ah
 repeat (first|apply ar|(apply au;rfl;(first|apply aB|apply ji)<;>first|rfl|exact qr))
 refine bA rfl ?_
 repeat (first|apply ar|refine wt ?_)
 refine aO (Or.inl rfl) results48 (aD.tmp rfl) ?_
 refine⟨by rw[ap],Or.inr ⟨ap,dJ,cr,?_,?_,kM.trans (bq.mono dp),fun g u=>?_⟩⟩
 ·rw[an]
  rw[<-A] at ac
  exact ac
 ·rw[an,cg,if_neg cf,ah]
  unfold Ft
  rw[b9,cb,bT]
 ·rcases aQ g u with e|e
  ·rw[e7] at e;exact Or.inl e
  ·exact Or.inr (Nat.le_trans kM.size e)
end
section
theorem Ha(a:Ax):bI (tX a)=true:=by simp[tX,bI,kY]
theorem Ax.In.up{a:Ax}{n i:Nat}{w:World}(h:a.In n w)(g:n<=i):a.In i w:=⟨h.b,fun d c f e=>Nat.lt_of_lt_of_le (h.bn d c f e) g,h.l,fun d c f e=>Nat.lt_of_lt_of_le (h.ln d c f e) g,h.lb,h.ll,h.l2⟩
attribute [local irreducible] CG NG SG aP aM Row aG aF aQ bG jA
theorem Ey(w:World)(a:Option Addr)(c n:Nat):dq prog 11 #[.slice a n c] w (.bool (decide ((n:Int)<=40))):=by
 refine bC func11 rfl ntmps11 rfl ?_
 repeat (first|apply ar|(apply au;rfl;(first|apply aB|apply aE|apply dg|apply Cq)<;>first|rfl|exact B4))
 refine aO (Or.inl rfl) results11 (aD.tmp rfl) ?_
 exact⟨rfl,Kp.refl _ _⟩
end
section
variable{tot:Int}{bw n:Nat}{q:Wl}{w:World}
def WT:List TypeId:=[44,162,341,200,214,216,52,50]
theorem dt.sub{Ts e:List TypeId}{A B:List Nat}{S:List Nat}(h:dt n Ts A w S)(k:∀T∈Ts,T∈e)(j:∀x∈A,x∈B):dt 0 e B w S:=fun b l=>by
 obtain⟨-,g⟩:=h b l
 refine⟨Nat.zero_le _,g.imp id (fun⟨o,i,d⟩=>⟨o,i,?_⟩)⟩
 cases o with
 |cells a T f=>exact k T d
 |map a c=>exact j b d
 |_=>exact d
theorem dF.Rx(h:dF w n tot bw q):dt 0 WT [q.c.tm,q.c.nm,q.pm] w (mK bw q):=by
 have a:dt 0 WT [q.c.tm,q.c.nm,q.pm] w [bw]:=dt.cells (Nat.zero_le _) h.blk (by decide)
 have b:dt 0 WT [q.c.tm,q.c.nm,q.pm] w (q.c.vb::q.pm::aR q.vN):=(dt.cells (Nat.zero_le _) h.nb.blk (by decide)).cons ((dt.map (Nat.zero_le _) h.nb.map (by simp)).cons (dt.own h.nb.own (Nat.zero_le _) (by decide)))
 have d:dt 0 WT [q.c.tm,q.c.nm,q.pm] w (qG q.c):=h.ch.nk.sub (by decide) (fun x i=>by rcases mem_cons.1 i with e|e<;>simp_all)
 have f:dt 0 WT [q.c.tm,q.c.nm,q.pm] w (aR q.vs):=dt.own h.sg (Nat.zero_le _) (by decide)
 have g:dt 0 WT [q.c.tm,q.c.nm,q.pm] w (aR q.vb):=dt.own h.bl (Nat.zero_le _) (by decide)
 have:=a.app (b.app (d.app (f.app g)))
 unfold mK
 exact this
theorem dF.lt(h:dF w n tot bw q):∀x∈mK bw q,x<w.heap.size:=fun x b=>by
 rw[eN] at b
 rcases b with a|a|a|a|a|a|a|a|a|a|a
 ·rw[a];exact h.blk.lt
 ·rw[a];exact h.nb.blk.lt
 ·rw[a];exact h.nb.map.lt
 ·exact cK h.nb.own x (aL a)
 ·rw[a];exact h.ch.tree.blk.lt
 ·rw[a];exact h.ch.tree.map.lt
 ·rw[a];exact h.ch.map.lt
 ·rw[a];exact h.ch.pool.blk.lt
 ·exact cK h.ch.pool.own x (aL a)
 ·exact cK h.sg x (aL a)
 ·exact cK h.bl x (aL a)
structure V4(w:World)(bw:Nat)(q:Wl)(a:Option Addr)(ys:List Bm):Prop where
 sl:Sl cR 18 w a ys
 ins:∀y∈ys,y.In 0 w
 out:ys≠[]->∀b off,a=some ⟨b,off,none⟩->b∉mK bw q
 out2:∀y∈ys,y.xs≠[]->∀b off,y.a=some ⟨b,off,none⟩->b∉mK bw q
attribute [local irreducible] CG NG SG aP aM Row aG aF aQ bG jA uU mK o8
end
section
variable{c:Cm}{tot:Int}{A:List Nat}{n:Nat}{w:World}
noncomputable def sN(ps:List En)(h l:Int):List Tx:=((fU ps).filter (sy (pw ps h l))).map (·.t)
theorem rn{a:List En}(c:df 256 a)(h l:Int):(sN a h l).length<=256:=by
 have d:=c.len
 have b:=length_filter_le (sy (pw a h l)) (fU a)
 rw[gZ] at b
 unfold sN
 rw[length_map]
 omega
theorem rm{xs:List Tm}{l:List Tx}(h:xs.map (·.t)=l):xs.map (fun x=>aJ x.t)=l.map aJ/\xs.length=l.length:=by
 subst h
 exact⟨by rw[map_map];rfl,by rw[length_map]⟩
attribute [local irreducible] CG NG SG aP aM Row aG aF aQ aJ fU pw sN
theorem zx(h:cS w n A tot c)(f:df 256 (c.ps.map Em.en)){q:Nat×Nm}(v:aC c.ns c.tr.tip=some q)(E:0<=q.2.x.ht/\q.2.x.ht<=1000000)(p:iS c.bd.leave):
  kr prog 47 dc 8 40 #[.pointer (some ⟨c.cb,0,none⟩)] w ((sN (c.ps.map Em.en) (q.2.x.ht+1) c.bd.leave).map aJ):=by
 refine bC func40 rfl ntmps40 rfl ?_
 obtain⟨z,-,-,-,-,r,-⟩:=cZ h
 have F:(iF c.bd).length=3:=rfl
 repeat (first|apply ar|refine qa1 ?_)
 refine bA rfl ?_
 repeat apply ar
 refine CG.tail mixed 11 [0,1,2,3,4,5,6,7,8,9,10] (by kernel_rfl) ?_
 repeat (apply bW;rfl;rfl;(first|apply aB|apply aZ|apply aU|apply bR)<;>first|rfl|assumption|exact wn)
 refine aM.call rfl rfl rfl (vs:=[.pointer (some ⟨c.cb,0,none⟩)]) (bg.of rfl) (fun W s _=>oE (h.az s) v) ?_
 repeat (apply bW;rfl;rfl;(first|apply aB|apply bf|apply aU|apply bR|apply dp)<;>first|rfl|exact zc|assumption|exact wn)
 refine aM.tl (fun J b _ _=>?_)
 refine SG.call rfl rfl rfl (vs:=[.pointer (some ⟨c.pb,0,none⟩),.int .i64 (q.2.x.ht+1),yc c.bd]) (bg.of rfl) ((tz (h.az b).pool f (by omega) (by unfold iS;omega) p).mono (fun e C a=>?_))
 obtain⟨I,j,rfl,g,o,d⟩:=a
 obtain⟨k,l,rfl,D,m⟩:=o.Lu (n:=C.heap.size)
 have d:j.map (·.t)=sN (c.ps.map Em.en) (q.2.x.ht+1) c.bd.leave:=by unfold sN;exact d
 obtain⟨y,H⟩:=rm d
 have G:=rn f (q.2.x.ht+1) c.bd.leave
 refine⟨_,rfl,?_⟩
 refine SG.call rfl rfl rfl (vs:=[.slice k j.length l]) (bg.of rfl) ((pZ m (by omega)).mono (fun e K a=>?_))
 obtain⟨B,rfl,i,u⟩:=a
 refine⟨_,rfl,?_⟩
 rw[y] at i
 clear r z
 repeat (first|apply ar|refine wt ?_)
 refine aO (Or.inl rfl) results40 (aD.tmp rfl) ?_
 exact⟨B,rfl,c9 i (Nat.le_trans b.size g.size),(b.trans g).trans u⟩
noncomputable def F0(ps:List En)(d:Dg):Value:= .tuple #[.int .i64 ((kF ps d).elim 0 (·.since)),.bool (kF ps d).isSome]
theorem xI(h:cS w n A tot c)(i:df 256 (c.ps.map Em.en))(d:Dg):
  dq prog 37 #[.pointer (some ⟨c.cb,0,none⟩),dv d] w (F0 (c.ps.map Em.en) d):=by
 refine bN func37 rfl ntmps37 rfl ?_
 repeat apply ar
 refine SG.box rfl rfl rfl (ag rfl) (fun b g f m a=>?_)
 have a:aG g b (.cells (dc d).toArray 47):=a
 have l:Row g b 0 (dc d):=Row.all a rfl
 have e:=h.az f
 obtain⟨-,-,-,-,-,r,-⟩:=cZ e
 repeat (first|apply ar|refine qa1 ?_)
 refine bA rfl ?_
 repeat apply ar
 refine CG.fh mixed [0,1,2,3,4,5,6,7,8,9] [] (by kernel_rfl) ?_
 repeat (apply bW;rfl;rfl;(first|apply aB|apply aZ|apply bf|apply aU|apply bR)<;>first|rfl|assumption|exact wn|apply ai)
 refine aM.call rfl rfl rfl (vs:=[.pointer (some ⟨c.pb,0,none⟩),dv d]) (bg.of rfl) (fun W j _=>qR (e.az j).pool i (by omega) d) ?_
 repeat (apply bW;rfl;rfl;(first|apply aE|apply dd)<;>rfl)
 refine aM.fin (fun o k _ _=>?_)
 clear r l
 repeat apply ar
 refine dT (Or.inl rfl) results37 (aD.tmp rfl) (aD.tmp rfl) ?_
 exact⟨rfl,f.trans k⟩
end
section
variable{c:Cm}{q q':Nm}{w:World}
def Jz(q q':Nm):Prop:=q'.x.b=q.x.b/\q'.f=q.f/\q'.t=q.t/\q'.es=q.es
theorem Jz.iC(h:Jz q q'):q'.iC=q.iC:=by
 have e:q'.x.b.txs=q.x.b.txs:=by rw[h.1]
 have e:q'.x.xs.map (·.t)=q.x.xs.map (·.t):=e
 have:=congrArg (List.map aJ) e
 rw[map_map,map_map] at this
 exact this
theorem Jz.ht(h:Jz q q'):q'.x.ht=q.x.ht:=congrArg Bl.ht h.1
theorem xC{ns b:List (Dg×Nat×Nm)}{x:Dg}:∀{l:List Dg},(∀d∈l,∃q a,aC ns d=some q/\aC b d=some a/\Jz q.2 a.2)->dz b x l=dz ns x l
 |[],_=>rfl
 |d::l,h=>by
  obtain⟨q,a,e,f,c⟩:=h d mem_cons_self
  have i:=xC (x:=x) (l:=l) (fun y g=>h y (mem_cons_of_mem _ g))
  show(match aC b d with|some q=>if 0<=gr q.2.iC x then some (q.2.x.ht,q.2.es.getD (gr q.2.iC x).toNat 0) else dz b x l|none=>dz b x l)=(match aC ns d with|some q=>if 0<=gr q.2.iC x then some (q.2.x.ht,q.2.es.getD (gr q.2.iC x).toNat 0) else dz ns x l|none=>dz ns x l)
  rw[e,f]
  show(if 0<=gr a.2.iC x then some (a.2.x.ht,a.2.es.getD (gr a.2.iC x).toNat 0) else dz b x l)=(if 0<=gr q.2.iC x then some (q.2.x.ht,q.2.es.getD (gr q.2.iC x).toNat 0) else dz ns x l)
  rw[c.iC,c.ht,c.2.2.2,i]
def EI(p:Int×Int):Prop:=(-1000000<=p.1/\p.1<=1000000)/\(-1000000<=p.2/\p.2<=1000000)
theorem Ew{ns:List (Dg×Nat×Nm)}{x:Dg}{l:List Dg}(h:∀p,dz ns x l=some p->EI p):∃p a,EI p/\(dz ns x l=some p/\a=true\/dz ns x l=none/\p=(0,0)/\a=false):=by
 cases hf:dz ns x l with
 |none=>exact⟨(0,0),false,⟨⟨by decide,by decide⟩,by decide,by decide⟩,Or.inr ⟨rfl,rfl,rfl⟩⟩
 |some p=>exact⟨p,true,h p hf,Or.inl ⟨rfl,rfl⟩⟩
structure Xf(c oc:Cm)(L:List Dg)(i:Nat):Prop where
 pos:0<i
 ns:∀j d,j<i->L[j]?=some d->∃q q',aC c.ns d=some q/\aC oc.ns d=some q'/\Jz q.2 q'.2
 no:∀d,(∀j,j<i->L[j]?≠some d)->aC oc.ns d=none
 line:oc.tr.line oc.tr.tip=L.take i
 tip:L[i-1]?=some oc.tr.tip
 len:oc.tr.nodes.length=i
 ht:oc.tr.ht oc.tr.tip=i-1
theorem Kf{S:List Nat}{w0:World}{F:World->Prop}{L:Env}{d:Option Nat}{ty:TypeId}{pos:String}{af:Array Edge}{g:Option (Nat×Bool)}{T T':TypeId}[u:Ut prog T .bool]{x y:Operand}{a:Bool}(b:ro L x=some (.bool a))(c:ro L y=some (.bool a)):aP prog S w0 F L ⟨d,.binOp .neq T x y T',ty,pos,af,g⟩ (.bool false):=by
 have:=U7 (P:=prog) (S:=S) (w0:=w0) (F:=F) (d:=d) (ty:=ty) (pos:=pos) (af:=af) (g:=g) (T:=T) (T':=T') (u:=u) b c
 rwa [show(!(a==a))=false by simp] at this
def yd(e:Int):Prop:=0<=e/\e<=1000
theorem HA(f:Fb)(a:Dg)(n:Int):yd (wX f a n):=by
 unfold wX yd
 split
 ·omega
 ·split<;>omega
theorem JW(f:Fb)(a:Dg)(l:List UInt8):yd (FU f a l):=by
 unfold FU
 cases l with
 |nil=>show yd 3;exact⟨by decide,by decide⟩
 |cons u l=>
  show yd (if wX f a (u.toNat:Int)≠0 then wX f a (u.toNat:Int) else if u=13 then 10 else 0)
  split
  ·exact HA _ _ _
  ·unfold yd
   split<;>omega
theorem Gw(l:List UInt8):yd (cz l):=by
 unfold cz yd
 split
 ·decide
 ·split<;>decide
theorem Gg(l:List UInt8):yd (dI l):=by
 have a:=fun l=>Gw l
 unfold yd at*
 unfold dI
 split
 ·exact a _
 ·split
  ·exact a _
  ·split
   ·decide
   ·split<;>decide
theorem Jj(f:Fb)(t:Tx):yd (gu f t):=by
 unfold gu
 split
 ·split
  ·exact Gg _
  ·exact HA _ _ _
 ·exact JW _ _ _
theorem Dp{nb:dW}{h:Int}{mk:Dg}:∀(l:List Tx) {f i:Fb} {t k:Tl} {es c:List Int},(∀e∈es,yd e)->dR nb h mk f t es l=(0,i,k,c)->∀e∈c,yd e
 |[],f,i,t,k,es,c,j,a=>by
  rw[nM] at a
  cases a
  exact j
 |x::l,f,i,t,k,es,c,j,a=>by
  by_cases d:eJ nb x=0
  ·by_cases g:dC f x=0
   ·rw[l0 d g] at a
    refine Dp l ?_ a
    unfold kL
    rw[if_pos g]
    intro e b
    rcases mem_append.1 b with b|b
    ·exact j e b
    ·rw[mem_singleton] at b
     rw[b]
     exact Jj _ _
   ·have:=lE (nb:=nb) (h:=h) (mk:=mk) (t:=t) (es:=es) (l:=l) d g
    rw[a] at this
    exact absurd this.symm g
  ·have:=lD (nb:=nb) (h:=h) (mk:=mk) (f:=f) (t:=t) (es:=es) (l:=l) d
   rw[a] at this
   exact absurd this.symm d
theorem Rw{nb:dW}{j:Fb}(g:Hi nb c j){d:Dg}{q:Nat×Nm}(a:aC c.ns d=some q):∀e∈q.2.es,yd e:=by
 by_cases f:d=c.tr.first
 ·obtain⟨l,b,-,-,-,i⟩:=g.fst
  rw[f] at a
  rw[a] at b
  obtain rfl:=Option.some.inj b
  rw[i]
  exact fun _ h=>by cases h
 ·obtain⟨-,-,-,p,-,-,k⟩:=g.up d q a f
  exact Dp _ (fun _ h=>by cases h) k
theorem zl{nb:dW}{c:Cm}{j:Fb}{H:Int}(b:Hi nb c j)(ok:fX c H)(i:H<=1000){d:Dg}:∀{l:List Dg} {p:Int×Int},dz c.ns d l=some p->EI p
 |f::l,p,h=>by
  have a:(match aC c.ns f with|some q=>if 0<=gr q.2.iC d then some (q.2.x.ht,q.2.es.getD (gr q.2.iC d).toNat 0) else dz c.ns d l|none=>dz c.ns d l)=some p:=h
  cases hx:aC c.ns f with
  |none=>rw[hx] at a;exact zl b ok i a
  |some q=>
   rw[hx] at a
   by_cases g:0<=gr q.2.iC d
   ·have a:(if 0<=gr q.2.iC d then some (q.2.x.ht,q.2.es.getD (gr q.2.iC d).toNat 0) else dz c.ns d l)=some p:=a
    rw[if_pos g] at a
    obtain rfl:=Option.some.inj a
    obtain⟨m,n,-⟩:=ok.nd f q hx
    have k:yd (q.2.es.getD (gr q.2.iC d).toNat 0):=by
     rw[getD_eq_getElem?_getD]
     cases hg:q.2.es[(gr q.2.iC d).toNat]? with
     |none=>exact⟨Int.le_refl _,by decide⟩
     |some e=>exact Rw b hx e (mem_of_getElem? hg)
    unfold yd at k
    exact⟨⟨by show _<=q.2.x.ht;omega,by show q.2.x.ht<=_;omega⟩,by show _<=getD _ _ _;omega,by show getD _ _ _<=_;omega⟩
   ·have a:(if 0<=gr q.2.iC d then some (q.2.x.ht,q.2.es.getD (gr q.2.iC d).toNat 0) else dz c.ns d l)=some p:=a
    rw[if_neg g] at a
    exact zl b ok i a
attribute [local irreducible] CG NG SG aP aM Row aG aF aQ aJ
theorem B7{n:Nat}{A:List Nat}{tot:Int}(h:cS w n A tot c){q:Nat×Nm}(f:aC c.ns c.tr.tip=some q):Calls prog 31 #[.pointer (some ⟨c.cb,0,none⟩)] w (fun e i=>∃a,e= .returned (.iface 74 (.pointer (some ⟨a,0,none⟩)))/\gp i a q.2.t/\w.heap.size<=a/\Kp [] w i):=by
 refine bC func31 rfl ntmps31 rfl ?_
 repeat (first|apply ar|refine qa1 ?_)
 refine bA rfl ?_
 repeat (first|apply ar|refine qa0 ?_)
 refine SG.ret rfl rfl rfl (vs:=[.pointer (some ⟨c.cb,0,none⟩)]) (bg.of rfl) (lr h f) (fun m b=>?_)
 have d:=(h.yQ f).az b
 obtain⟨-,-,-,-,-,-,-,r⟩:=fg d.blk
 repeat (apply au;rfl;(first|apply bR|apply aZ|apply aU)<;>first|rfl|assumption|exact wn)
 refine SG.AM (t:=74) (v:= .pointer (some ⟨q.2.tb,0,none⟩)) rfl rfl rfl (vs:=[]) (ag rfl) True.intro ((ir d.app).mono (fun e o k=>?_))
 obtain⟨a,rfl,g,j,l⟩:=k
 refine⟨_,rfl,?_⟩
 clear r
 repeat (first|apply ar|refine wt ?_)
 refine aO (Or.inl rfl) results31 (aD.tmp rfl) ?_
 exact⟨a,rfl,j,Nat.le_trans b.size g,b.trans l⟩
theorem vI{b a:Nat}{t:Tl}(c:gp w b t)(d:gp w a t):dq prog 251 #[.pointer (some ⟨b,0,none⟩),.iface 74 (.pointer (some ⟨a,0,none⟩))] w (.bool true):=by
 refine bN func251 rfl ntmps251 rfl ?_
 obtain⟨f,g⟩:=lZ c
 obtain⟨h,i⟩:=lZ d
 repeat (first|apply ar|(apply au;rfl;(first|apply Qw|apply aB|apply aE|apply dd)<;>rfl))
 refine CG.tail mixed 21 [0,1,2,3,4,5,6,7,8,9,10,11,12,13,14,15,16,17,18,19,20] (by kernel_rfl) ?_
 repeat (apply bW;rfl;rfl;(first|apply bR|apply aB|apply aZ|apply bf|apply aU|apply cI|apply fE)<;>first|rfl|assumption|exact qf|exact wn|apply ai)
 refine aM.tl (fun j e _ _=>?_)
 clear f g h i
 repeat (first|apply ar|(apply au;rfl;(first|apply aE|apply cI|apply vT)<;>first|rfl|exact bM rfl))
 refine aO (Or.inl rfl) results251 (aD.tmp rfl) ?_
 exact⟨rfl,e⟩
end
section
variable{c:Cm}{H tot:Int}{m:Md}{n:Nat}{w:World}{nb:dW}
theorem FN(h:Ck m c nb H):m.tr.tip=c.tr.tip:=by rw[h.eq.tr]
theorem GV{a:Fb}(f:Hi nb c a)(ok:fX c H){A:List Nat}(b:cS w n A tot c)(l:List Dg)(x:Dg):aC (AJ c.ns l) x=dz c.ns x l:=by
 have h:=xG c.ns (fun d q e=>by
  have:=(b.yQ e).el
  unfold Nm.iC
  rw[length_map]
  exact this) x l []
 exact h
theorem Aa(a:List En)(d:Dg):F0 a d= .tuple #[.int .i64 ((kF a d).elim 0 (·.since)),.bool (kF a d).isSome]:=rfl
attribute [local irreducible] CG NG SG aP aM Row aG aF aQ aJ fU pw sN dz kF F0 AJ o8
theorem zM{bw:Nat}{q:Wl}(h:dF w n tot bw q)(ok:sP q H){O:Nat}(s:eW w n O m)(r:Ck m q.c q.nb H)(cQ:tot<=1000000000)(hb:iS q.c.bd.leave):
  dq prog 42 #[.pointer (some ⟨bw,0,none⟩),.pointer (some ⟨O,0,none⟩)] w (.bool true):=by
 refine bN func42 rfl ntmps42 rfl ?_
 have I:=r.ok
 have dj:=r.hH
 have ab:=I.wf
 have cR:=FN r
 obtain⟨C,B⟩:=I.tip
 obtain⟨yt,cZ,c0⟩:=r.eq.get B
 obtain⟨cM,dz,dA⟩:=I.nd _ _ B
 have a9:=I.wf.tip
 have bI:m.tr.height q.c.tr.tip=C.2.x.ht:=r.ht B
 have L:=I.pool
 have aT:=r.inv
 have dB:=h.ch.w0
 have cL:=Tr.fl a9
 have dy:=ab.bound a9
 have ap:∀bv∈q.c.tr.line q.c.tr.tip,∃q',aC q.c.ns bv=some q':=fun bv hd=>I.get (D8 ab a9 hd)
 repeat (first|apply ar|(apply au;rfl;(first|apply aB|apply aE|apply aU|apply bR)<;>rfl))
 obtain⟨-,-,-,r5,-⟩:=cX s.blk
 repeat (apply au;rfl;apply aZ<;>first|rfl|assumption|exact wn)
 refine SG.ret rfl rfl rfl (vs:=[.pointer (some ⟨m.tb,0,none⟩)]) (bg.of rfl) (fb s.tree) (fun w1 cz=>?_)
 rw[cR]
 refine SG.alloc rfl rfl rfl (fun U w2 cA ct ae=>?_)
 refine SG.aN (l:=dc q.c.tr.tip) rfl rfl (ag rfl) (ag rfl) ae (ai _) rfl (bj _) (fun w3 cB ae=>?_)
 have k3:=cz.trans (cA.aj cB (aW ct))
 have Y:=h.az k3
 have M:=s.az k3
 clear r5
 have q5:Row w3 U 0 (dc q.c.tr.tip):=Row.all ae rfl
 obtain⟨D,-,-,-⟩:=cP Y.blk
 obtain⟨r0,-,r4,r5,r6⟩:=cX M.blk
 have bi:=M.map
 have dx:(iF m.bd).length=3:=rfl
 obtain⟨E,G⟩:∃E,q.c.ps.map Em.en=E:=⟨_,rfl⟩
 have aR:m.ps.map Em.en=E:=by rw[r.eq.ps,G]
 rw[G] at L
 have ca:(fU E).map (fun e=>aJ e.t)=((fU E).map (·.t)).map aJ:=by rw[map_map];rfl
 obtain⟨F,aV⟩:∃F,((fU E).map (·.t)).map aJ=F:=⟨_,rfl⟩
 have dE:F.length<=256:=by
  have:=L.len
  rw[<-aV,length_map,length_map,gZ]
  omega
 obtain⟨LM,aX⟩:∃LM,(sN E (C.2.x.ht+1) q.c.bd.leave).map aJ=LM:=⟨_,rfl⟩
 have dG:LM.length<=256:=by rw[<-aX,length_map];exact rn L _ _
 repeat apply ar
 refine CG.dS mixed 63 [0,1,2,3,5,6,7,8,9,10,4,11,12,13,14,15,16,17,18,19,20,21,22,23,24,25,26,27,28,29,30,31,33,34,35,36,32,37,38,39,40,41,42,43,44,45,46,48,49,50,51,52,53,54,55,56,59,60,61,62,47,57,58] [4,32,37,38,47] [] (fun _=>True) (by kernel_rfl) trivial (fun _ _ _ _=>trivial) ?_
 repeat (apply bW;rfl;rfl;(first|apply aB|apply aZ|apply bf|apply aU|apply bR|apply oQ)<;>first|rfl|assumption|exact wn|apply ai|exact iX (by assumption)|fail)
 refine aM.kQ (X:=Bm) (vs:=[.pointer (some ⟨q.c.cb,0,none⟩)]) (fun y=>eL y) (fun y W=>y.b=C.2.x.b/\y.In 0 W) rfl rfl rfl rfl (bg.of rfl) (fun y W A a u=>⟨u.1,u.2.az a⟩) sX (fun W a _=>(tQ (Y.az a).ch B).mono (fun e A k=>?_)) (fun y=>?_)
 ·obtain⟨y,J,K,Q,V⟩:=k
  exact⟨y,K,⟨J,Q⟩,V⟩
 refine aM.call rfl rfl rfl (vs:=[eL y,eL yt]) (bg.of rfl) (fun W a d=>nv d.2.2 ((M.az a).ins _ (fG cZ)) (by rw[d.2.1,c0])) ?_
 repeat (apply bW;rfl;rfl;(first|apply aB|apply aZ|apply aU|apply bR|apply ig)<;>first|rfl|assumption|exact wn)
 refine aM.call rfl rfl rfl (vs:=[.pointer (some ⟨q.c.cb,0,none⟩)]) (bg.of rfl) (fun W a _=>oE (Y.az a).ch B) ?_
 repeat (apply bW;rfl;rfl;(first|apply aB|apply aZ|apply bf|apply aU|apply bR)<;>first|rfl|assumption|exact wn|apply ai)
 refine aM.call rfl rfl rfl (vs:=[.pointer (some ⟨m.tb,0,none⟩),dv q.c.tr.tip]) (bg.of rfl) (fun W a _=>dZ (M.az a).tree q.c.tr.tip) ?_
 rw[bI]
 repeat (apply bW;rfl;rfl;(first|apply aB|apply aZ|apply aU|apply bR|apply cI|apply du)<;>first|rfl|assumption|exact qf|exact wn)
 refine aM.mR (enc:=dc) (sz:=8) F rfl rfl rfl rfl (vs:=[.pointer (some ⟨q.c.cb,0,none⟩)]) (bg.of rfl) (fun W A a d=>⟨trivial,d.2.1,d.2.2.az a⟩) (fun W a _=>?_) (fun a1 c1=>?_)
 ·have:=(mW (Y.az a).ch (by rw[G];exact L)).HZ ai
  rw[G,ca,aV] at this
  exact this
 refine aM.kQ (X:=Option Addr×Nat×List Tm) (vs:=[.pointer (some ⟨m.pb,0,none⟩)]) (fun p=> .slice p.1 p.2.2.length p.2.1) (fun p W=>lh W 0 p.1 p.2.2/\p.2.2.map (·.t)=(fU E).map (·.t)) rfl rfl rfl rfl (bg.of rfl) (fun p W A a u=>⟨u.1.az a,u.2⟩) (fun W A a d=>⟨⟨trivial,d.1.2.1,d.1.2.2.az a⟩,d.2.az a⟩) (fun W a _=>(xS (M.az a).pool aT (by omega)).mono (fun e A k=>?_)) (fun p=>?_)
 ·obtain⟨v1,xs,rfl,J,K,Q⟩:=k
  obtain⟨a2,c2,rfl,-,V⟩:=K.Lu (n:=0)
  rw[aR] at Q
  exact⟨(a2,c2,xs),rfl,⟨V,Q⟩,J⟩
 obtain⟨a2,c2,xs⟩:=p
 simp only
 refine aM.mR (enc:=dc) (sz:=8) F rfl rfl rfl rfl (vs:=[.slice a2 xs.length c2]) (bg.of rfl) (fun W A a d=>⟨⟨⟨trivial,d.1.1.2.1,d.1.1.2.2.az a⟩,d.1.2.az a⟩,d.2.1.az a,d.2.2⟩) (fun W a d=>?_) (fun a3 c3=>?_)
 ·obtain⟨n1,n2⟩:=rm d.2.2
  rw[aV] at n1
  have cS:xs.length<=1000000:=by
   have:F.length=xs.length:=by rw[<-n1,length_map]
   omega
  have:=(pT (c:=c2) d.2.1 cS).HZ ai
  rw[n1] at this
  exact this
 refine aM.call rfl rfl rfl (vs:=[.slice a1 F.length c1,.slice a3 F.length c3]) (bg.of rfl) (fun W a d=>by
  have:=rp c1 c3 d.1.1.2.sl d.2.sl (by omega) (by omega)
  rw[decide_eq_true rfl] at this
  exact this) ?_
 repeat (apply bW;rfl;rfl;(first|apply aB|apply aZ|apply bf|apply aU|apply bR|apply cI|apply ig)<;>first|rfl|assumption|exact wn|apply ai)
 refine aM.mR (enc:=dc) (sz:=8) LM rfl rfl rfl rfl (vs:=[.pointer (some ⟨q.c.cb,0,none⟩)]) (bg.of rfl) (fun W A a d=>⟨⟨⟨⟨trivial,d.1.1.1.2.1,d.1.1.1.2.2.az a⟩,d.1.1.2.az a⟩,d.1.2.1.az a,d.1.2.2⟩,d.2.az a⟩) (fun W a _=>?_) (fun a4 c4=>?_)
 ·have:=(zx (Y.az a).ch (by rw[G];exact L) B ⟨cM,by omega⟩ hb).HZ ai
  rw[G,aX] at this
  exact this
 refine aM.call rfl rfl rfl (vs:=[.pointer (some ⟨m.tb,0,none⟩),dv q.c.tr.tip]) (bg.of rfl) (fun W a _=>dZ (M.az a).tree q.c.tr.tip) ?_
 rw[bI]
 repeat (apply bW;rfl;rfl;apply dp<;>first|rfl|exact zc)
 refine aM.tl (fun w4 bJ d _=>?_)
 have a0:=d.2.sl
 clear d
 clear q5 D r0 r4 r5 r6 bi
 have bH:q.c.bd=m.bd:=r.eq.bd.symm
 refine SG.call rfl rfl rfl (vs:=[.pointer (some ⟨m.pb,0,none⟩),.int .i64 (C.2.x.ht+1),yc m.bd]) (bg.of rfl) ((tz (M.az bJ).pool aT (by omega) (h:=C.2.x.ht+1) (l:=m.bd.leave) (by unfold iS;omega) (by rw[<-bH];exact hb)).mono (fun e w5 k=>?_))
 obtain⟨v5,b5,rfl,bK,cq,aw⟩:=k
 obtain⟨a5,c5,rfl,-,cn⟩:=cq.Lu (n:=0)
 rw[aR,<-bH] at aw
 have aw:b5.map (·.t)=sN E (C.2.x.ht+1) q.c.bd.leave:=by unfold sN;exact aw
 obtain⟨n5,l5⟩:=rm aw
 have dD:=rn L (C.2.x.ht+1) q.c.bd.leave
 rw[aX] at n5
 refine⟨_,rfl,?_⟩
 refine SG.call rfl rfl rfl (vs:=[.slice a5 b5.length c5]) (bg.of rfl) (((pT (c:=c5) cn (by omega)).HZ ai).mono (fun e w6 k=>?_))
 rw[n5] at k
 obtain⟨a6,c6,rfl,cm,bL⟩:=k
 refine⟨_,rfl,?_⟩
 have cO:dq prog 88 #[.slice a4 LM.length c4,.slice a6 LM.length c6] w6 (.bool true):=by
  have:=rp c4 c6 (a0.az (bK.trans bL)) cm.sl (by omega) (by omega)
  rw[decide_eq_true rfl] at this
  exact this
 refine SG.ret rfl rfl rfl (vs:=[.slice a4 LM.length c4,.slice a6 LM.length c6]) (bg.of rfl) cO (fun w7 cC=>?_)
 have b2:=((bJ.trans bK).trans bL).trans cC
 have k7:=k3.trans b2
 repeat (first|apply ar|(apply au;rfl;(first|apply cI|apply ig)<;>rfl))
 refine bA rfl ?_
 have h7:=h.az k7
 have dl:=s.az k7
 have cd:=ae.az b2
 obtain⟨D,-,-,-⟩:=cP h7.blk
 repeat (first|apply ar|refine qa4 ?_)
 refine SG.call rfl rfl rfl (vs:=[.pointer (some ⟨q.c.cb,0,none⟩)]) (bg.of rfl) ((zy h7.ch ab (by omega) ap).mono (fun e w8 k=>?_))
 obtain⟨v8,z,rfl,ah,bQ⟩:=k
 refine⟨_,rfl,?_⟩
 obtain⟨av,cv,rfl,-,a7⟩:=Sl.own aH ah.own rfl
 have cW:z.length=(q.c.tr.line q.c.tr.tip).length:=by have:=congrArg length ah.eq;simpa using this
 have k8:=k7.trans bQ
 have h8:=h.az k8
 have bD:=s.az k8
 have bz:=cd.az bQ
 clear D
 have q5:Row w8 U 0 (dc q.c.tr.tip):=Row.all bz rfl
 obtain⟨-,-,-,r5,-⟩:=cX bD.blk
 have bE:=bD.tree
 rw[r.eq.tr] at bE
 repeat (first|apply ar|refine wt ?_)
 refine CG.tail mixed 5 [0,1,2,3,4] (by kernel_rfl) ?_
 repeat (apply bW;rfl;rfl;(first|apply aB|apply aZ|apply bf|apply aU|apply bR)<;>first|rfl|assumption|exact wn|apply ai)
 refine aM.tl (fun w9 bT _ _=>?_)
 refine SG.call rfl rfl rfl (vs:=[.pointer (some ⟨m.tb,0,none⟩),dv q.c.tr.tip]) (bg.of rfl) ((j4 (bE.az bT) ab q.c.tr.tip).mono (fun e wA k=>?_))
 obtain⟨al,cl,rfl,ak,cD⟩:=k
 have ak:=ak.sl
 refine⟨_,rfl,?_⟩
 clear q5 r5
 have ax:=bT.trans cD
 have kA:=k8.trans ax
 have a7:=a7.az ax
 have cY:∀y∈z,y.In 0 wA:=fun y u=>(ah.ins y u).az ax
 have b1:=ah.eq
 obtain⟨o,S⟩:∃o,q.c.tr.line q.c.tr.tip=o:=⟨_,rfl⟩
 rw[S] at cW cL ap ak b1
 have df:(z.length:Int)=(o.length:Int):=by omega
 have ce:=bz.az ax
 rw[S]
 repeat (first|apply ar|(apply au;rfl;(first|apply aB|apply aE|apply du|apply dg)<;>first|rfl|exact qf))
 refine bA rfl ?_
 repeat (first|apply ar|(apply au;rfl;(first|apply aB|apply dg)<;>rfl))
 refine CG.loop (X:=Nat) (fun i=>[(0,.pointer (some ⟨bw,0,none⟩)),(1,.pointer (some ⟨O,0,none⟩)),(5,.pointer (some ⟨U,0,none⟩)),(6,.slice av z.length cv),(114,.slice al o.length cl),(115,.int .i64 (o.length:Int)),(116,.int .i64 (i:Int))])
  (fun i w'=>i<=o.length/\Kp [] wA w') (fun i=>o.length-i) 0 ⟨Nat.zero_le _,Kp.refl _ _⟩ (aS.of rfl) ?_
 rintro i wB ⟨dw,N⟩
 refine CG.to [(0,.pointer (some ⟨bw,0,none⟩)),(1,.pointer (some ⟨O,0,none⟩)),(5,.pointer (some ⟨U,0,none⟩)),(6,.slice av z.length cv),(114,.slice al o.length cl),(115,.int .i64 (o.length:Int)),(116,.int .i64 (i:Int))] (aS.of rfl) ?_
 by_cases aq:i<o.length
 ·have J:(i:Int)<(o.length:Int):=by omega
  have be:i<z.length:=by omega
  obtain⟨ba,dI,rfl,bl⟩:=(ak.az N).at aq
  obtain⟨db,dJ,rfl,bn⟩:=(a7.az N).at be
  obtain⟨q',bX⟩:=ap _ (getElem_mem aq)
  obtain⟨y',cT,cV⟩:=r.eq.get bX
  have ey:z[i].b=y'.b:=by
   have h1:(z.map Bm.b)[i]'(by rw[length_map];exact be)=z[i].b:=getElem_map _
   have h2:(o.map (o8 q.c.ns))[i]'(by rw[length_map];exact aq)=o8 q.c.ns o[i]:=getElem_map _
   rw[<-h1,cV]
   simp only[b1]
   rw[h2,Gq bX]
  have cU:=(cY _ (getElem_mem be)).az N
  generalize z[i]=yi at*
  generalize o[i]=di at*
  have kB:=kA.trans N
  repeat (first|apply ar|refine ul ?_)
  refine bO rfl ?_
  repeat (first|apply ar|(apply au;rfl;(first|apply aB|apply bf|apply fa)<;>first|rfl|exact zc|assumption|exact wn|apply ai))
  refine SG.alloc rfl rfl rfl (fun b9 wC bc cu aP=>?_)
  repeat refine wt ?_
  refine SG.aN (l:=dc di) rfl rfl (ag rfl) (ag rfl) aP (ai _) rfl (bj _) (fun wD am aP=>?_)
  have aA:=bc.aj am (aW cu)
  have q9:Row wD b9 0 (dc di):=Row.all aP rfl
  have aY:=s.az (kB.trans aA)
  obtain⟨-,-,r4,-,-⟩:=cX aY.blk
  have bi:=aY.map
  have bn:=bn.az aA
  clear bl
  repeat apply ar
  refine CG.tail mixed 10 [0,1,2,3,4,5,6,7,8,9] (by kernel_rfl) ?_
  repeat (apply bW;rfl;rfl;(first|apply aB|apply aZ|apply bf|apply aU|apply bR|apply fa|apply oQ)<;>first|rfl|exact zc|assumption|exact wn|apply ai|apply aH|exact iX (by assumption)|fail)
  refine aM.tl (fun wE R _ _=>?_)
  refine SG.ret rfl rfl rfl (vs:=[eL yi,eL y']) (bg.of rfl) (nv ((cU.az aA).az R) ((aY.az R).ins _ (fG cT)) ey) (fun wF Z=>?_)
  clear q9 r4 bi bn
  repeat (first|apply ar|(apply au;rfl;apply ig<;>rfl))
  refine bA rfl ?_
  repeat (first|apply ar|refine wz ?_)
  refine NG.round (i+1) (aS.of rfl) ⟨aq,((N.trans aA).trans R).trans Z⟩ (by omega)
 have J:¬(i:Int)<(o.length:Int):=by omega
 have kB:=kA.trans N
 have cf:=ce.az N
 have q5:Row wB U 0 (dc q.c.tr.tip):=Row.all cf rfl
 repeat (first|apply ar|refine un ?_)
 refine bA rfl ?_
 repeat (first|apply ar|refine qa5 ?_)
 refine SG.call rfl rfl rfl (vs:=[.pointer (some ⟨O,0,none⟩),dv q.c.tr.tip]) (bg.of rfl) ((ko (s.az kB) r B).mono (fun e wC k=>?_))
 obtain⟨bk,bm,c9,dm,mm,da,rfl,ci,aQ,cp,bC,-,bc⟩:=k
 refine⟨_,rfl,?_⟩
 rw[S] at bC
 clear q5
 have kC:=kB.trans bc
 have hC:=h.az kC
 obtain⟨D,-,-,-⟩:=cP hC.blk
 repeat (first|apply ar|(apply au;rfl;(first|apply aB|apply aE|apply dd)<;>rfl))
 refine CG.dS mixed 9 [0,1,2,3,5,6,7,8,4] [4] [] (fun _=>True) (by kernel_rfl) trivial (fun _ _ _ _=>trivial) ?_
 repeat (apply bW;rfl;rfl;(first|apply aB|apply aZ|apply aU|apply bR)<;>first|rfl|assumption|exact wn)
 refine aM.kQ (X:=Nat×Nat×Bk) (vs:=[.pointer (some ⟨q.c.cb,0,none⟩)]) (fun p=>gL p.1) (fun p W=>bS W p.1 p.2.1 p.2.2/\iY tot (yP C.2) p.2.2 C.2.f) rfl rfl rfl rfl (bg.of rfl) (fun p W A a u=>⟨u.1.az a,u.2⟩) sX (fun W a _=>(p7 (hC.az a).ch B).mono (fun e A k=>?_)) (fun p=>?_)
 ·obtain⟨bt,bs,m',J,K,Q,-,-,V⟩:=k
  exact⟨(bt,bs,m'),J,⟨K,Q⟩,V⟩
 obtain⟨bt,bs,m'⟩:=p
 refine aM.tl (fun wD am d _=>?_)
 obtain⟨-,bB,af⟩:=d
 simp only at bB af
 refine SG.call rfl rfl rfl (vs:=[.pointer (some ⟨q.c.cb,0,none⟩)]) (bg.of rfl) ((B7 (hC.az am).ch B).mono (fun e wE k=>?_))
 obtain⟨ba,rfl,co,-,R⟩:=k
 refine⟨_,rfl,?_⟩
 clear D
 have bo:=am.trans R
 have cN:lA m' mm=true:=(Dj af.ok aQ.ok).2 (fun dC=>by rw[af.eq,aQ.eq])
 have cx:=af.qh cQ
 have cy:=aQ.qh r.tot.2
 repeat (first|apply ar|(apply au;rfl;(first|apply F9|apply jF|apply aB|apply aE|apply cI)<;>rfl))
 have cw:∀{W:World},Kp [] wE W->dq prog 32 #[gL bt,gL bk] W (.bool true):=fun a=>by
  have:=xN ((bB.az R).az a) ((ci.az bo).az a) cx cy
  rw[cN] at this
  exact this
 refine SG.ret rfl rfl rfl (vs:=[gL bt,gL bk]) (bg.of rfl) (cw (Kp.refl _ _)) (fun wF Z=>?_)
 repeat (apply au;rfl;(first|apply vS|apply aB|apply cI|apply ig)<;>rfl)
 refine SG.Ia (t:=74) (v:=gL ba) rfl rfl rfl (vs:=[.iface 74 (gL c9)]) (ag rfl) (bg.of rfl) (vI (co.az Z) ((cp.az bo).az Z)) (fun wG cE=>?_)
 have c7:=Z.trans cE
 have b3:=bo.trans c7
 have kG:=kC.trans b3
 have hG:=h.az kG
 have cj:=bC.az b3
 have dn:=s.az kG
 repeat (first|apply ar|(apply au;rfl;(first|apply cI|apply ig)<;>rfl))
 refine bA rfl ?_
 obtain⟨bp,bu,cc,ds,a0⟩:=Sl.own ay hG.sg rfl
 obtain⟨-,-,z2,-⟩:=cP hG.blk
 rw[cc] at z2
 have j6:=ok.sl
 repeat (first|apply ar|(apply au;rfl;(first|apply aB|apply aZ|apply aU|apply bR|apply dg)<;>first|rfl|assumption|exact wn))
 refine CG.loop (X:=Nat) (fun i=>[(0,.pointer (some ⟨bw,0,none⟩)),(1,.pointer (some ⟨O,0,none⟩)),(12,.map (some dm)),(173,.slice bp q.ss.length bu),(174,.int .i64 (q.ss.length:Int)),(175,.int .i64 (i:Int))])
  (fun i w'=>i<=q.ss.length/\Kp [] wG w') (fun i=>q.ss.length-i) 0 ⟨Nat.zero_le _,Kp.refl _ _⟩ (aS.of rfl) ?_
 clear z2
 rintro j wH ⟨hj,aa⟩
 refine CG.to [(0,.pointer (some ⟨bw,0,none⟩)),(1,.pointer (some ⟨O,0,none⟩)),(12,.map (some dm)),(173,.slice bp q.ss.length bu),(174,.int .i64 (q.ss.length:Int)),(175,.int .i64 (j:Int))] (aS.of rfl) ?_
 have kH:=kG.trans aa
 by_cases bh:j<q.ss.length
 rotate_left
 ·have K:¬(j:Int)<(q.ss.length:Int):=by omega
  repeat (first|apply ar|refine un ?_)
  refine bA rfl ?_
  repeat (first|apply ar|refine wt ?_)
  refine aO (Or.inl rfl) results42 (aD.tmp rfl) ?_
  exact⟨rfl,kH⟩
 have K:(j:Int)<(q.ss.length:Int):=by omega
 obtain⟨de,dH,rfl,bl⟩:=(a0.az aa).at bh
 have hX:=(hG.si _ (getElem_mem bh)).az aa
 generalize q.ss[j]=g at*
 repeat (first|apply ar|refine ul ?_)
 refine bO rfl ?_
 repeat (first|apply ar|refine ut ?_)
 refine SG.alloc rfl rfl rfl (fun bq wI cF cr ac=>?_)
 refine SG.aN (l:=bV g) rfl rfl (ag rfl) (ag rfl) ac (ay _) rfl (bY _) (fun wJ cG ac=>?_)
 have aF:=cF.aj cG (aW cr)
 have kJ:=kH.trans aF
 have P:Row wJ bq 0 (bV g):=Row.all ac rfl
 have a8:=hX.az aF
 have hJ:=h.az kJ
 obtain⟨D,-,-,-⟩:=cP hJ.blk
 obtain⟨pp,bb,dt,b0⟩:=Ew (x:=aJ g.t) (l:=o) (fun p hp=>zl r.hi I (by omega) hp)
 have b6:∀{W:World},Kp [] wJ W->dq prog 17 #[.pointer (some ⟨q.c.cb,0,none⟩),dv (aJ g.t)] W (.tuple #[.agg (EH pp).toArray,.bool bb]):=fun a=>by
  have:=rQ (hJ.az a).ch ab (by rw[S];omega) (by rw[S];exact ap) (aJ g.t)
  rw[S] at this
  rcases b0 with⟨h,rfl⟩|⟨h,rfl,rfl⟩<;>(rw[h] at this;exact this)
 have bG:=GV r.hi I hJ.ch o (aJ g.t)
 have dk:Lk GI (GI (0,0)) (AJ q.c.ns o) (aJ g.t) (GI pp) bb:=by
  rcases b0 with⟨h,rfl⟩|⟨h,rfl,rfl⟩
  ·exact iX (bG.trans h)
  ·exact rz (bG.trans h)
 clear bl
 repeat apply ar
 refine CG.fA mixed [0,1,2,3,4,5,6,7,8,9,12] [(10,11,17,.tmp 187)] (by kernel_rfl) (by kernel_rfl) ?_
 repeat (apply bW;rfl;rfl;(first|apply aB|apply aZ|apply bf|apply aU|apply bR)<;>first|rfl|assumption|exact wn|apply ay)
 refine aM.call rfl rfl rfl (vs:=[eG g]) (bg.of rfl) (fun W a _=>dV (a8.az a)) ?_
 refine aM.call rfl rfl rfl (vs:=[.pointer (some ⟨q.c.cb,0,none⟩),dv (aJ g.t)]) (bg.of rfl) (fun W a _=>b6 a) ?_
 repeat (apply bW;rfl;rfl;(first|apply aB|apply aE|apply dd)<;>rfl)
 refine aM.one (fq.of (by rfl) rfl rfl rfl (ag rfl) (by rfl) (by rfl) (by rfl)) (fun aK wK an dr aL=>?_)
 have aL:aG wK aK (.cells (EH pp).toArray 54):=aL
 have P:=P.az an
 clear D
 repeat (first|apply ar|refine qb8 ?_)
 refine SG.ret rfl rfl rfl (vs:=[eG g]) (bg.of rfl) (dV (a8.az an)) (fun wL bU=>?_)
 clear P
 have dh:=cj.az (((aa.trans aF).trans an).trans bU)
 obtain⟨p1,p2⟩:=pp
 repeat (apply au;rfl;(first|apply aB|apply jz|apply dd)<;>first|rfl|assumption|exact wn)
 refine SG.alloc rfl rfl rfl (fun br wM cH cs ad=>?_)
 refine SG.aN (l:=[.int .i64 p1,.int .i64 p2]) rfl rfl (ag rfl) (ag rfl) ad rfl rfl rfl (fun T cJ ad=>?_)
 have c8:=cH.aj cJ (aW cs)
 have b4:=bU.trans c8
 have bx:=aL.az b4
 have u1:Row T aK 0 [.int .i64 p1]:=Row.of bx [] [.int .i64 p2] rfl rfl
 have u2:Row T aK 1 [.int .i64 p2]:=Row.of bx [.int .i64 p1] [] rfl rfl
 have u3:Row T br 0 [.int .i64 p1]:=Row.of ad [] [.int .i64 p2] rfl rfl
 have u4:Row T br 1 [.int .i64 p2]:=Row.of ad [.int .i64 p1] [] rfl rfl
 repeat (first|apply ar|(apply au;rfl;(first|apply Kf|apply ur|apply aB|apply aE|apply aZ|apply aU|apply cI|apply du)<;>first|rfl|exact zc|assumption|exact qf|exact wn))
 refine bA rfl ?_
 clear u1 u2 u3 u4
 have aI:=an.trans b4
 have kN:=kJ.trans aI
 have hN:=h.az kN
 have bF:=a8.az aI
 have P:Row T bq 0 (bV g):=Row.all (ac.az aI) rfl
 obtain⟨D,-,-,-⟩:=cP hN.blk
 obtain⟨sv,sb,bZ⟩:∃sv sb,F0 E (aJ g.t)= .tuple #[.int .i64 sv,.bool sb]:=⟨_,_,Aa _ _⟩
 have b7:∀{W:World},Kp [] T W->dq prog 37 #[.pointer (some ⟨q.c.cb,0,none⟩),dv (aJ g.t)] W (.tuple #[.int .i64 sv,.bool sb]):=fun a=>by
  have:=xI (hN.az a).ch (by rw[G];exact L) (aJ g.t)
  rw[G,bZ] at this
  exact this
 have b8:∀{W:World},Kp [] w W->dq prog 82 #[.pointer (some ⟨m.pb,0,none⟩),dv (aJ g.t)] W (.tuple #[.int .i64 sv,.bool sb]):=fun a=>by
  have:=qR (s.az a).pool aT (by omega) (aJ g.t)
  rw[aR,<-Aa,bZ] at this
  exact this
 repeat apply ar
 refine CG.fh mixed [0,1,2,3,4,5,6,7,8,9,10,11] [] (by kernel_rfl) ?_
 repeat (apply bW;rfl;rfl;(first|apply aB|apply aZ|apply bf|apply aU|apply bR)<;>first|rfl|assumption|exact wn|apply ay)
 refine aM.call rfl rfl rfl (vs:=[eG g]) (bg.of rfl) (fun W a _=>dV (bF.az a)) ?_
 refine aM.call rfl rfl rfl (vs:=[.pointer (some ⟨q.c.cb,0,none⟩),dv (aJ g.t)]) (bg.of rfl) (fun W a _=>b7 a) ?_
 repeat (apply bW;rfl;rfl;(first|apply aB|apply aE|apply dd)<;>rfl)
 refine aM.fin (fun wO ao _ _=>?_)
 clear D
 have P:=P.az ao
 have kO:=kN.trans ao
 have ck:=s.az kO
 obtain⟨-,-,-,-,r6⟩:=cX ck.blk
 repeat apply ar
 refine CG.fh mixed [0,1,2,3,4,5,6,7,8,9,10,11] [] (by kernel_rfl) ?_
 repeat (apply bW;rfl;rfl;(first|apply aB|apply aZ|apply bf|apply aU|apply bR)<;>first|rfl|assumption|exact wn|apply ay)
 refine aM.call rfl rfl rfl (vs:=[eG g]) (bg.of rfl) (fun W a _=>dV ((bF.az ao).az a)) ?_
 refine aM.call rfl rfl rfl (vs:=[.pointer (some ⟨m.pb,0,none⟩),dv (aJ g.t)]) (bg.of rfl) (fun W a _=>b8 (kO.trans a)) ?_
 repeat (apply bW;rfl;rfl;(first|apply aB|apply aE|apply dd)<;>rfl)
 refine aM.fin (fun wP cK _ _=>?_)
 clear P r6
 repeat (first|apply ar|(apply au;rfl;(first|apply Kf|apply aB|apply cI|apply du)<;>first|rfl|exact qf))
 refine bA rfl ?_
 repeat (first|apply ar|refine wz ?_)
 refine NG.round (j+1) (aS.of rfl) ⟨bh,(((aa.trans aF).trans aI).trans ao).trans cK⟩ (by omega)
end
section
variable{mm:Bk}{f:Fb}{tot:Int}{N b0 bk bm c1 c2 dm tb:Nat}{t:Tl}{W w0:World}{D:xW}
def BG(mk:Dg):Fb->List Tx->List Tx->List Tx
 |_,acc,[]=>acc
 |f,acc,x::l=>if acc.length=64 then acc else if dC f x=0 then BG mk (jJ f mk x) (acc++[x]) l else BG mk f acc l
theorem Gu{x:Tx}(a:bu x=0)(mk:Dg):(dC f x=0->iW f x=true)/\(dC f x≠0->iW f x=true->jJ f mk x=f):=by
 have c:FE x:=by
  unfold bu at a
  split at a
  ·rename_i g;exact g
  ·cases a
 have l:=c.f0
 have m:=c.f1
 have b:∀k,(zT f x.frm x.non k).money=(f k).money:=fun k=>by
  unfold zT
  split
  ·unfold JR
   split
   ·rename_i e;rw[<-e]
   ·rfl
  ·rfl
 unfold iW
 rw[Bool.and_eq_true,decide_eq_true_iff,decide_eq_true_iff]
 refine⟨fun h=>?_,fun h d=>?_⟩
 ·unfold dC at h
  split at h
  ·rename_i g;exact absurd h g
  ·rename_i g
   have g:Co f x.frm x.non=0:=Classical.byContradiction (fun e=>g e)
   unfold Co at g
   unfold wX at h
   rw[b] at h
   repeat' split at g
   all_goals first|(cases g;done)|skip
   repeat' split at h
   all_goals first|(cases h;done)|skip
   omega
 ·obtain⟨i,j⟩:=d
  unfold jJ
  rw[if_neg h]
  unfold zT
  rw[if_neg]
  intro g
  apply h
  unfold dC
  rw[if_neg (fun e=>e g)]
  unfold wX
  rw[b,if_neg (by omega),if_neg (by omega)]
theorem qv(mk:Dg):∀(l:List Tx) (f:Fb) (a:List Tx),(∀x∈l,bu x=0)->a.length<=64->rq mk f a l=BG mk f a l
 |[],_,_,_,_=>rfl
 |x::l,f,a,h,g=>by
  obtain⟨i,j⟩:=Gu (f:=f) (h x mem_cons_self) mk
  have d:∀y∈l,bu y=0:=fun y k=>h y (mem_cons_of_mem _ k)
  show _=if a.length=64 then a else if dC f x=0 then BG mk (jJ f mk x) (a++[x]) l else BG mk f a l
  by_cases e:a.length=64
  ·rw[if_pos e]
   exact wY (by omega) _
  ·rw[if_neg e]
   by_cases b:dC f x=0
   ·rw[mc (by omega) (i b),if_pos b,if_pos b]
    exact qv mk l _ _ d (by rw[length_append,length_singleton];omega)
   ·rw[if_neg b]
    by_cases c:iW f x=true
    ·rw[mc (by omega) c,if_neg b,j b c]
     exact qv mk l _ _ d g
    ·rw[DT (by omega) (by simpa using c)]
     exact qv mk l _ _ d g
theorem H3{a:List En}(h:df 256 a)(ns:List Dg):∀x∈sV a ns,bu x=0:=fun x b=>by
 unfold sV at b
 obtain⟨e,c,rfl⟩:=mem_map.1 b
 exact h.ok e ((Bx a).mem_iff.1 (mem_filter.1 (mem_of_mem_take c)).1)
structure Ln(w0 W:World)(c1 c2 dm b0 b18:Nat)(p mk:Dg)(ht tot:Int)(xs:List Tm)(bk bm tb N:Nat)(mm:Bk)(f:Fb)(t:Tl)(D:xW)(vt:Value)(acc:List Tm):Prop where
 kp:Kp [c1,c2,dm,b0,b18] w0 W
 nb:bm=b0\/w0.heap.size<=bm
 j:qd W W c1 c2 dm bm tot bk bm tb N mm f t D
 bl:aG W b18 (.cells (mS p ht mk vt).toArray 50)
 ot:W.ownsRow w0.heap.size 52 13 vt acc.length (bX bV acc)
 sub:∀x∈acc,x∈xs
 al:acc.length<=64
theorem qd.re(J:qd w0 W c1 c2 dm b0 tot bk bm tb N mm f t D):qd W W c1 c2 dm bm tot bk bm tb N mm f t D:=⟨Kp.refl _ _,J.h1,J.h2,J.nd,Or.inl rfl,J.bk,J.bi,J.ap,J.dn⟩
theorem Ln.az{b:World}{d:Nat}{p mk:Dg}{e:Int}{xs:List Tm}{g:Value}{c:List Tm}(J:Ln w0 W c1 c2 dm b0 d p mk e tot xs bk bm tb N mm f t D g c)(a:Kp [] W b):Ln w0 b c1 c2 dm b0 d p mk e tot xs bk bm tb N mm f t D g c:=
 ⟨J.kp.trans a.any,J.nb,(J.j.az a).re,J.bl.az a,aV J.ot a,J.sub,J.al⟩
end
end Go.Proofs.YtpnjgjddabeapaaGreatDoor
